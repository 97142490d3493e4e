-- by a program of this session (wip/myprint.py)
import Derived.Test.YtgknajladloffaaDx8
import Derived.Test.YtgknajladloffaaQx0
import Derived.Test.YtgknajladloffaaQx1
import Derived.Test.YtgknajladloffaaQx5
import Derived.Test.YtgknajladloffaaQx7
namespace Go.Proofs.Ytgknajladloffaa.Q
open Go.RowKit Go.Proofs.YtgknajladloffaaW.PrintWords Go.Proofs.YtgknajladloffaaW.PrintLast Go.Proofs.YtgknajladloffaaW.PrintMore
attribute [local go_sem] max2_int min2_int max_two min_two max_three min_three max_four min_four   -- for this text's walks alone
set_option linter.unusedVariables false
set_option linter.unusedSimpArgs false

/-! ### gain_Put: function 33 -/
def gain_Put.T11 : Bool × List (List Nat × List Nat) := (true, [([], []), ([], []), ([], []), ([1, 2], [1, 2]), ([3], [3]), ([], []), ([], []), ([0, 4, 5, 6], [0, 4, 5, 6]), ([7], [7]), ([8], [8]), ([8], [8]), ([], []), ([11, 9, 7, 0, 1, 2, 3, 4, 5, 6, 7, 8, 9, 11], [9, 11]), ([10, 12, 0, 1, 2, 3, 4, 5, 6, 7, 8, 9, 10, 11, 12], [10])])
def gain_Put.B11 : List Nat := [0, 0, 0, 6, 14, 0, 0, 127, 255, 511, 511, 0, 3071, 8191]
theorem gain_Put.tab11 : rtab .any (opsOf Try.f33 11) = gain_Put.T11 := by kernel_rfl
theorem gain_Put.bits11 : waitsOk gain_Put.T11.2 gain_Put.B11 = true := by kernel_rfl
set_option maxHeartbeats 8000000 in
set_option maxRecDepth 100000 in
theorem gain_Put.calls (k : Nat) (a0_0 : Int) (a0_1 : Int) (P0_2_ : Nat → Prop) (A0_2 : Option Addr) (c0_2 : Nat) (l0_2 : List Int) (A1 : Option Addr) (c1 : Nat) (l1 : List Int) (A2 : Option Addr) (c2 : Nat) (l2 : List Int) (a3 : Bool) (r1 : Int) (r2 : Int) (r3 : List Int) (r4 : Int) (w : World) (hs0_2 : Kd.V (Kd.int .u8) 5 w w.heap.size (fun k_ => P0_2_ k_) (.slice A0_2 l0_2.length c0_2) l0_2) (hr1 : Kd.C (Kd.int .i64) w A1 l1.length l1) (hc1 : l1.length ≤ c1) (hr2 : Kd.C (Kd.int .i64) w A2 l2.length l2) (hc2 : l2.length ≤ c2) (h : gain_Put.f k a0_0 a0_1 l0_2 l1 l2 a3 = some (r1, r2, r3, r4)) :
  Calls Try.prog 33 #[.agg #[.int .u64 a0_0, .int .u32 a0_1, .slice A0_2 l0_2.length c0_2], .slice A1 l1.length c1, .slice A2 l2.length c2, .bool a3] w fun e w' => ∃ v2_ : Value, e = .returned (.tuple #[.agg #[.int .u64 r1, .int .u32 r2, v2_], .int .i64 r4]) ∧ Kd.V (Kd.int .u8) 5 w' w.heap.size (fun k_ => (P0_2_ k_ ∨ w.heap.size ≤ k_)) v2_ r3 ∧ Below w.heap.size w w' := by
 have hu52 := Try.underlying52
 have HO0_2 := Am (show Kd.V (Kd.int .u8) 5 w w.heap.size (fun k_ => (P0_2_ k_ ∨ w.heap.size ≤ k_)) (.slice A0_2 l0_2.length c0_2) l0_2 from Kd.V_mono hs0_2 (fun k_ hk => .inl hk))
 have HR1 := Am hr1
 have HC1 := Am hc1
 clear hr1 hc1
 have HR2 := Am hr2
 have HC2 := Am hc2
 clear hr2 hc2
 have HB := Am (Below.refl w.heap.size w)
 have H : ((coder_Put.f k a0_0 a0_1 l0_2 0 1 0).bind fun bt209 => ((gain_Right.f k l1).bind fun t216 => (if t216 = true then (if a3 = true then (gain_Put.j0 k l1 l2 a3 false a0_0 a0_1 l0_2 bt209.1 bt209.2.1 bt209.2.2.1) else ((gain_Right.f k l2).bind fun t217 => (gain_Put.j0 k l1 l2 a3 (!t217) a0_0 a0_1 l0_2 bt209.1 bt209.2.1 bt209.2.2.1))) else (gain_Put.j0 k l1 l2 a3 true a0_0 a0_1 l0_2 bt209.1 bt209.2.1 bt209.2.2.1)))) = some (r1, r2, r3, r4) := h
 clear h
 replace H := Option.bind_eq_some_iff.mp H
 obtain ⟨⟨t209, t210, t211, t214⟩, A50, H⟩ := H
 replace H : ((gain_Right.f k l1).bind fun t216 => (if t216 = true then (if a3 = true then (gain_Put.j0 k l1 l2 a3 false a0_0 a0_1 l0_2 t209 t210 t211) else ((gain_Right.f k l2).bind fun t217 => (gain_Put.j0 k l1 l2 a3 (!t217) a0_0 a0_1 l0_2 t209 t210 t211))) else (gain_Put.j0 k l1 l2 a3 true a0_0 a0_1 l0_2 t209 t210 t211))) = some (r1, r2, r3, r4) := H
 have A5 := Am A50
 clear A50
 have HC6 := Am H
 clear H
 go_enter Try.func33, Try.ntmps33
 go_upto_region 2 with (first | ((with_reducible refine gate_dst (N := 4) rfl ?_); refine box_event ?hg (N := 4) ?hd (cs := #[.int .u64 a0_0, .int .u32 a0_1, .slice A0_2 l0_2.length c0_2]) (t := 52) ?hr ?_; (case hd => rfl); (case hg => rfl); (case hr => first | (go_simp; done) | (go_simp; rfl)); intro gb207 hg w7 hbox hb; have n0_ := Am (Kd.V_below (Kd.V_elderB (kV HO0_2.out) gb207 (Nat.le_of_eq hg.symm)) hb); have n1_ := Am (below_step (bB HB.out) hb); have n2_ := Am (hbox); have n3_ := Am ((by rw [hg]; exact (below_size (bB HB.out)) : w.heap.size ≤ gb207)); have n4_ := Am ((by rw [hg]; exact (below_size (bB HB.out)) : w.heap.size ≤ gb207)); clear HO0_2; clear HB; have HO0_2 := n0_; have HB := n1_; have BK207 := n2_; have GW207 := n3_; have GE207 := n4_; clear n0_ n1_ n2_ n3_ n4_; clear hb hbox hg) | ((with_reducible refine gate_dst (N := 8) rfl ?_); refine box_event ?hg (N := 8) ?hd (cs := #[.int .u64 0, .int .u32 0, .slice none 0 0]) (t := 52) ?hr ?_; (case hd => rfl); (case hg => rfl); (case hr => first | (go_simp; done) | (go_simp; rfl)); intro gb208 hg w8 hbox hb; have n0_ := Am (Kd.V_below (Kd.V_elderB (kV HO0_2.out) gb208 (Nat.le_of_eq hg.symm)) hb); have n1_ := Am (blk_below (g := gb207) (o := .cells #[.int .u64 a0_0, .int .u32 a0_1, .slice A0_2 l0_2.length c0_2] 52 (0, 0)) (bK BK207.out) hb); have n2_ := Am (below_step (bB HB.out) hb); have n3_ := Am (hbox); have n4_ := Am ((by rw [hg]; exact (below_size (bB HB.out)) : w.heap.size ≤ gb208)); have n5_ := Am ((by rw [hg]; exact (below_size (bB HB.out)) : w.heap.size ≤ gb208)); have n6_ := Am ((by rw [hg]; exact Nat.ne_of_lt (blk_lt (g := gb207) (o := .cells #[.int .u64 a0_0, .int .u32 a0_1, .slice A0_2 l0_2.length c0_2] 52 (0, 0)) (bK BK207.out)) : gb207 ≠ gb208)); have n7_ := Am ((by rw [hg]; exact Nat.ne_of_gt (blk_lt (g := gb207) (o := .cells #[.int .u64 a0_0, .int .u32 a0_1, .slice A0_2 l0_2.length c0_2] 52 (0, 0)) (bK BK207.out)) : gb208 ≠ gb207)); clear HO0_2; clear BK207; clear HB; have HO0_2 := n0_; have BK207 := n1_; have HB := n2_; have BK208 := n3_; have GW208 := n4_; have GE208 := n5_; have NB207_208 := n6_; have NB208_207 := n7_; clear n0_ n1_ n2_ n3_ n4_ n5_ n6_ n7_; clear hb hbox hg; have hnb9 := NB207_208.out; have hnc9 := NB208_207.out; have hcz10_0 : w8.cell? ⟨gb207, 0, none⟩ = some (.int .u64 a0_0) := (blk_cell BK207.out 0).trans rfl; have hcz10_1 : w8.cell? ⟨gb207, 1, none⟩ = some (.int .u32 a0_1) := (blk_cell BK207.out 1).trans rfl; have hcz10_2 : w8.cell? ⟨gb207, 2, none⟩ = some (.slice A0_2 l0_2.length c0_2) := (blk_cell BK207.out 2).trans rfl; have hfz10_0 := blk_frozen BK207.out 0; have hfz10_1 := blk_frozen BK207.out 1; have hfz10_2 := blk_frozen BK207.out 2) | ((with_reducible refine gate_callee (f := 60) rfl ?_); refine goesL_ (some 19) rfl rfl Try.func60 (by kernel_rfl) rfl #[.agg #[.int .u64 a0_0, .int .u32 a0_1, .slice A0_2 l0_2.length c0_2], .int .i64 0, .int .i64 1, .int .i64 0] rfl ls_ ?_; (with_reducible refine (coder_Put.calls k a0_0 a0_1 _ _ l0_2 0 1 0 t209 t210 t211 t214 _ ?side1 ?side2 A5.out).mono ?_); (case side1 => repeat (first | exact (Kd.V_reads' HO0_2.out).2.2 | (with_reducible refine Kd.C_alloc ?_ _) | (with_reducible refine Kd.C_drewN ?_ _) | (with_reducible refine Kd.C_drew ?_))); (case side2 => exact (Kd.V_reads' HO0_2.out).2.1); rintro e w11 ⟨v212, rfl, ho0, hb⟩; refine ⟨_, rfl, ?_⟩; have n0_ := Am (Kd.V_elder' (kV HO0_2.out) (Kd.R_base ho0) hb); have n1_ := Am (Kd.R_lower (Kd.R_newM (M := fun k_ => (w.heap.size ≤ k_)) ho0 (below_size (bB HB.out)) (fun k_ h_ => h_)) (below_size (bB HB.out))); have n2_ := Am (blk_below (g := gb207) (o := .cells #[.int .u64 a0_0, .int .u32 a0_1, .slice A0_2 l0_2.length c0_2] 52 (0, 0)) (bK BK207.out) hb); have n3_ := Am (blk_below (g := gb208) (o := .cells #[.int .u64 0, .int .u32 0, .slice none 0 0] 52 (0, 0)) (bK BK208.out) hb); have n4_ := Am (below_step (bB HB.out) hb); clear HO0_2; clear BK207; clear BK208; clear HB; have HO0_2 := n0_; have HO213 := n1_; have BK207 := n2_; have BK208 := n3_; have HB := n4_; clear n0_ n1_ n2_ n3_ n4_; (try clear hb); (try clear hb2); (try clear hk); (try clear hi); (try clear ho0)) | ((with_reducible refine gate_dst (N := 10) rfl ?_); refine box_event ?hg (N := 10) ?hd (cs := #[.int .u64 0, .int .u32 0, .slice none 0 0]) (t := 52) ?hr ?_; (case hd => rfl); (case hg => rfl); (case hr => first | (go_simp; done) | (go_simp; rfl)); intro gb215 hg w12 hbox hb; have n0_ := Am (Kd.V_below (Kd.V_elderB (kV HO0_2.out) gb215 (Nat.le_of_eq hg.symm)) hb); have n1_ := Am (Kd.R_below (kR HO213.out) hb); have n2_ := Am (blk_below (g := gb207) (o := .cells #[.int .u64 a0_0, .int .u32 a0_1, .slice A0_2 l0_2.length c0_2] 52 (0, 0)) (bK BK207.out) hb); have n3_ := Am (blk_below (g := gb208) (o := .cells #[.int .u64 0, .int .u32 0, .slice none 0 0] 52 (0, 0)) (bK BK208.out) hb); have n4_ := Am (below_step (bB HB.out) hb); have n5_ := Am (hbox); have n6_ := Am ((by rw [hg]; exact (below_size (bB HB.out)) : w.heap.size ≤ gb215)); have n7_ := Am ((by rw [hg]; exact (below_size (bB HB.out)) : w.heap.size ≤ gb215)); have n8_ := Am ((by rw [hg]; exact Nat.ne_of_lt (blk_lt (g := gb207) (o := .cells #[.int .u64 a0_0, .int .u32 a0_1, .slice A0_2 l0_2.length c0_2] 52 (0, 0)) (bK BK207.out)) : gb207 ≠ gb215)); have n9_ := Am ((by rw [hg]; exact Nat.ne_of_gt (blk_lt (g := gb207) (o := .cells #[.int .u64 a0_0, .int .u32 a0_1, .slice A0_2 l0_2.length c0_2] 52 (0, 0)) (bK BK207.out)) : gb215 ≠ gb207)); have n10_ := Am ((by rw [hg]; exact Nat.ne_of_lt (blk_lt (g := gb208) (o := .cells #[.int .u64 0, .int .u32 0, .slice none 0 0] 52 (0, 0)) (bK BK208.out)) : gb208 ≠ gb215)); have n11_ := Am ((by rw [hg]; exact Nat.ne_of_gt (blk_lt (g := gb208) (o := .cells #[.int .u64 0, .int .u32 0, .slice none 0 0] 52 (0, 0)) (bK BK208.out)) : gb215 ≠ gb208)); clear HO0_2; clear HO213; clear BK207; clear BK208; clear HB; have HO0_2 := n0_; have HO213 := n1_; have BK207 := n2_; have BK208 := n3_; have HB := n4_; have BK215 := n5_; have GW215 := n6_; have GE215 := n7_; have NB207_215 := n8_; have NB215_207 := n9_; have NB208_215 := n10_; have NB215_208 := n11_; clear n0_ n1_ n2_ n3_ n4_ n5_ n6_ n7_ n8_ n9_ n10_ n11_; clear hb hbox hg; have hnb13 := NB215_207.out; have hnc13 := NB207_215.out; have hnb14 := NB215_208.out; have hnc14 := NB208_215.out; have hcz15_0 : w12.cell? ⟨gb215, 0, none⟩ = some (.int .u64 0) := (blk_cell BK215.out 0).trans rfl; have hcz15_1 : w12.cell? ⟨gb215, 1, none⟩ = some (.int .u32 0) := (blk_cell BK215.out 1).trans rfl; have hcz15_2 : w12.cell? ⟨gb215, 2, none⟩ = some (.slice none 0 0) := (blk_cell BK215.out 2).trans rfl; have hfz15_0 := blk_frozen BK215.out 0; have hfz15_1 := blk_frozen BK215.out 1; have hfz15_2 := blk_frozen BK215.out 2; obtain ⟨Ao16, co16, eo16⟩ := Kd.R_slice HO213.out; subst eo16))
 (try simp only [Act.put, List.setIfInBounds_toArray, List.set_cons_zero, List.set_cons_succ])
 go_cut [33] (fun v33 wc => ∃ (kq : Nat) (x33_5 : Bool), v33 = .bool x33_5 ∧ Aside0 (gain_Put.j0 kq l1 l2 a3 x33_5 a0_0 a0_1 l0_2 t209 t210 t211 = some (r1, r2, r3, r4)) ∧ Aside0 (kq ≤ k) ∧ Aside0 (Kd.V (Kd.int .u8) 5 wc w.heap.size (fun k_ => (P0_2_ k_ ∨ w.heap.size ≤ k_) ∧ some k_ ≠ ((.slice Ao16 t211.length co16) : Value).ownBlock ∧ k_ ≠ gb207 ∧ k_ ≠ gb208 ∧ k_ ≠ gb215) (.slice A0_2 l0_2.length c0_2) l0_2) ∧ Aside0 (Kd.R (Kd.int .u8) 5 wc w.heap.size (fun k_ => (w.heap.size ≤ k_)) (.slice Ao16 t211.length co16) t211) ∧ Aside0 (wc.heap[gb207]? = some (.cells #[.int .u64 a0_0, .int .u32 a0_1, (.slice A0_2 l0_2.length c0_2)] 52 (0, 0))) ∧ Aside0 (wc.heap[gb208]? = some (.cells #[.int .u64 0, .int .u32 0, (.slice none 0 0)] 52 (0, 0))) ∧ Aside0 (wc.heap[gb215]? = some (.cells #[.int .u64 t209, .int .u32 t210, (.slice Ao16 t211.length co16)] 52 (0, 0))) ∧ Aside0 (Below w.heap.size w wc))
 case first =>
  have H := HC6.out
  clear HC6
  replace H := Option.bind_eq_some_iff.mp H
  obtain ⟨t216, A170, H⟩ := H
  replace H : (if t216 = true then (if a3 = true then (gain_Put.j0 k l1 l2 a3 false a0_0 a0_1 l0_2 t209 t210 t211) else ((gain_Right.f k l2).bind fun t217 => (gain_Put.j0 k l1 l2 a3 (!t217) a0_0 a0_1 l0_2 t209 t210 t211))) else (gain_Put.j0 k l1 l2 a3 true a0_0 a0_1 l0_2 t209 t210 t211)) = some (r1, r2, r3, r4) := H
  have A17 := Am A170
  clear A170
  by_cases c18 : t216 = true
  ·subst c18
   have H1 : (if a3 = true then (gain_Put.j0 k l1 l2 a3 false a0_0 a0_1 l0_2 t209 t210 t211) else ((gain_Right.f k l2).bind fun t217 => (gain_Put.j0 k l1 l2 a3 (!t217) a0_0 a0_1 l0_2 t209 t210 t211))) = some (r1, r2, r3, r4) := by rw [if_pos rfl] at H; exact H
   clear H
   have H := H1
   clear H1
   by_cases c19 : a3 = true
   ·subst c19
    have H1 : (gain_Put.j0 k l1 l2 true false a0_0 a0_1 l0_2 t209 t210 t211) = some (r1, r2, r3, r4) := by rw [if_pos rfl] at H; exact H
    clear H
    have H := H1
    clear H1
    have H' := Am H
    clear H
    go_wp2_with (first | ((with_reducible refine gate_callee (f := 85) rfl ?_); refine goesL_ (some 23) rfl rfl Try.func85 (by kernel_rfl) rfl #[.slice A1 l1.length c1] rfl ls_ ?_; (with_reducible refine (gain_Right.calls k _ _ l1 true _ ?side1 ?side2 A17.out).mono ?_); (case side1 => exact Kd.C_below HR1.out (bB HB.out)); (case side2 => exact HC1.out); rintro e w' ⟨rfl, ⟨nd, rfl⟩⟩; refine ⟨_, rfl, ?_⟩))
    go_meet
    case rel => exact ⟨_, (false), rs_, H', ⟨by first | omega | exact Nat.le_refl _⟩, ⟨by (with_reducible repeat (first | apply Kd.V_alloc | apply Kd.V_drewN | apply Kd.V_drew)); exact Kd.V_mono (Kd.V_far (p := ⟨gb215, 2, none⟩) (Kd.V_far (p := ⟨gb215, 1, none⟩) (Kd.V_far (p := ⟨gb215, 0, none⟩) (Kd.V_mono HO0_2.out (fun k_ hk => (⟨hk, hk.2⟩ : _ ∧ k_ ≠ gb215))) (fun _ hk => hk.2) (.int .u64 t209)) (fun _ hk => hk.2) (.int .u32 t210)) (fun _ hk => hk.2) (.slice Ao16 t211.length co16)) (fun _ hk => ⟨hk.1.1.1.1.1, ⟨hk.1.1.2, ⟨hk.1.1.1.1.2, ⟨hk.1.1.1.2, hk.1.2⟩⟩⟩⟩)⟩, ⟨by (with_reducible repeat (first | apply Kd.R_alloc | apply Kd.R_drewN | apply Kd.R_drew)); exact Kd.R_mono (Kd.R_far (p := ⟨gb215, 2, none⟩) (Kd.R_far (p := ⟨gb215, 1, none⟩) (Kd.R_far (p := ⟨gb215, 0, none⟩) (Kd.R_types HO213.out BK215.out (by decide)) (fun _ hk => hk.2) (.int .u64 t209)) (fun _ hk => hk.2) (.int .u32 t210)) (fun _ hk => hk.2) (.slice Ao16 t211.length co16)) (fun _ hk => hk.1.1)⟩, ⟨by (with_reducible repeat (first | refine blk_drewN ?_ _ | refine blk_drew ?_ | refine blk_alloc ?_ _)); refine blk_far ?_ NB207_215.out _; (with_reducible repeat (first | refine blk_drewN ?_ _ | refine blk_drew ?_ | refine blk_alloc ?_ _)); refine blk_far ?_ NB207_215.out _; (with_reducible repeat (first | refine blk_drewN ?_ _ | refine blk_drew ?_ | refine blk_alloc ?_ _)); refine blk_far ?_ NB207_215.out _; (with_reducible repeat (first | refine blk_drewN ?_ _ | refine blk_drew ?_ | refine blk_alloc ?_ _)); exact BK207.out⟩, ⟨by (with_reducible repeat (first | refine blk_drewN ?_ _ | refine blk_drew ?_ | refine blk_alloc ?_ _)); refine blk_far ?_ NB208_215.out _; (with_reducible repeat (first | refine blk_drewN ?_ _ | refine blk_drew ?_ | refine blk_alloc ?_ _)); refine blk_far ?_ NB208_215.out _; (with_reducible repeat (first | refine blk_drewN ?_ _ | refine blk_drew ?_ | refine blk_alloc ?_ _)); refine blk_far ?_ NB208_215.out _; (with_reducible repeat (first | refine blk_drewN ?_ _ | refine blk_drew ?_ | refine blk_alloc ?_ _)); exact BK208.out⟩, ⟨by (with_reducible repeat (first | refine blk_drewN ?_ _ | refine blk_drew ?_ | refine blk_alloc ?_ _)); refine blk_put (cs := #[.int .u64 t209, .int .u32 t210, .slice none 0 0]) ?_ 2 _ rfl; (with_reducible repeat (first | refine blk_drewN ?_ _ | refine blk_drew ?_ | refine blk_alloc ?_ _)); refine blk_put (cs := #[.int .u64 t209, .int .u32 0, .slice none 0 0]) ?_ 1 _ rfl; (with_reducible repeat (first | refine blk_drewN ?_ _ | refine blk_drew ?_ | refine blk_alloc ?_ _)); refine blk_put (cs := #[.int .u64 0, .int .u32 0, .slice none 0 0]) ?_ 0 _ rfl; (with_reducible repeat (first | refine blk_drewN ?_ _ | refine blk_drew ?_ | refine blk_alloc ?_ _)); exact BK215.out⟩, ⟨bB HB.out⟩⟩
   ·replace c19 := Bool.eq_false_iff.mpr c19
    subst c19
    have H1 : ((gain_Right.f k l2).bind fun t217 => (gain_Put.j0 k l1 l2 false (!t217) a0_0 a0_1 l0_2 t209 t210 t211)) = some (r1, r2, r3, r4) := by rw [if_neg (show ¬ (false = true) by decide)] at H; exact H
    clear H
    have H := H1
    clear H1
    replace H := Option.bind_eq_some_iff.mp H
    obtain ⟨t217, A200, H⟩ := H
    replace H : (gain_Put.j0 k l1 l2 false (!t217) a0_0 a0_1 l0_2 t209 t210 t211) = some (r1, r2, r3, r4) := H
    have A20 := Am A200
    clear A200
    have H' := Am H
    clear H
    go_wp2_with (first | ((with_reducible refine gate_callee (f := 85) rfl ?_); refine goesL_ (some 23) rfl rfl Try.func85 (by kernel_rfl) rfl #[.slice A1 l1.length c1] rfl ls_ ?_; (with_reducible refine (gain_Right.calls k _ _ l1 true _ ?side1 ?side2 A17.out).mono ?_); (case side1 => exact Kd.C_below HR1.out (bB HB.out)); (case side2 => exact HC1.out); rintro e w' ⟨rfl, ⟨nd, rfl⟩⟩; refine ⟨_, rfl, ?_⟩) | (go_at_call 85; (with_reducible refine (gain_Right.calls k _ _ l2 t217 _ ?side1 ?side2 A20.out).mono ?_); (case side1 => exact Kd.C_below HR2.out (bB HB.out)); (case side2 => exact HC2.out); rintro e w' ⟨rfl, ⟨nd, rfl⟩⟩))
    go_meet
    case rel => exact ⟨_, (!t217), rs_, H', ⟨by first | omega | exact Nat.le_refl _⟩, ⟨by (with_reducible repeat (first | apply Kd.V_alloc | apply Kd.V_drewN | apply Kd.V_drew)); exact Kd.V_mono (Kd.V_far (p := ⟨gb215, 2, none⟩) (Kd.V_far (p := ⟨gb215, 1, none⟩) (Kd.V_far (p := ⟨gb215, 0, none⟩) (Kd.V_mono HO0_2.out (fun k_ hk => (⟨hk, hk.2⟩ : _ ∧ k_ ≠ gb215))) (fun _ hk => hk.2) (.int .u64 t209)) (fun _ hk => hk.2) (.int .u32 t210)) (fun _ hk => hk.2) (.slice Ao16 t211.length co16)) (fun _ hk => ⟨hk.1.1.1.1.1, ⟨hk.1.1.2, ⟨hk.1.1.1.1.2, ⟨hk.1.1.1.2, hk.1.2⟩⟩⟩⟩)⟩, ⟨by (with_reducible repeat (first | apply Kd.R_alloc | apply Kd.R_drewN | apply Kd.R_drew)); exact Kd.R_mono (Kd.R_far (p := ⟨gb215, 2, none⟩) (Kd.R_far (p := ⟨gb215, 1, none⟩) (Kd.R_far (p := ⟨gb215, 0, none⟩) (Kd.R_types HO213.out BK215.out (by decide)) (fun _ hk => hk.2) (.int .u64 t209)) (fun _ hk => hk.2) (.int .u32 t210)) (fun _ hk => hk.2) (.slice Ao16 t211.length co16)) (fun _ hk => hk.1.1)⟩, ⟨by (with_reducible repeat (first | refine blk_drewN ?_ _ | refine blk_drew ?_ | refine blk_alloc ?_ _)); refine blk_far ?_ NB207_215.out _; (with_reducible repeat (first | refine blk_drewN ?_ _ | refine blk_drew ?_ | refine blk_alloc ?_ _)); refine blk_far ?_ NB207_215.out _; (with_reducible repeat (first | refine blk_drewN ?_ _ | refine blk_drew ?_ | refine blk_alloc ?_ _)); refine blk_far ?_ NB207_215.out _; (with_reducible repeat (first | refine blk_drewN ?_ _ | refine blk_drew ?_ | refine blk_alloc ?_ _)); exact BK207.out⟩, ⟨by (with_reducible repeat (first | refine blk_drewN ?_ _ | refine blk_drew ?_ | refine blk_alloc ?_ _)); refine blk_far ?_ NB208_215.out _; (with_reducible repeat (first | refine blk_drewN ?_ _ | refine blk_drew ?_ | refine blk_alloc ?_ _)); refine blk_far ?_ NB208_215.out _; (with_reducible repeat (first | refine blk_drewN ?_ _ | refine blk_drew ?_ | refine blk_alloc ?_ _)); refine blk_far ?_ NB208_215.out _; (with_reducible repeat (first | refine blk_drewN ?_ _ | refine blk_drew ?_ | refine blk_alloc ?_ _)); exact BK208.out⟩, ⟨by (with_reducible repeat (first | refine blk_drewN ?_ _ | refine blk_drew ?_ | refine blk_alloc ?_ _)); refine blk_put (cs := #[.int .u64 t209, .int .u32 t210, .slice none 0 0]) ?_ 2 _ rfl; (with_reducible repeat (first | refine blk_drewN ?_ _ | refine blk_drew ?_ | refine blk_alloc ?_ _)); refine blk_put (cs := #[.int .u64 t209, .int .u32 0, .slice none 0 0]) ?_ 1 _ rfl; (with_reducible repeat (first | refine blk_drewN ?_ _ | refine blk_drew ?_ | refine blk_alloc ?_ _)); refine blk_put (cs := #[.int .u64 0, .int .u32 0, .slice none 0 0]) ?_ 0 _ rfl; (with_reducible repeat (first | refine blk_drewN ?_ _ | refine blk_drew ?_ | refine blk_alloc ?_ _)); exact BK215.out⟩, ⟨bB HB.out⟩⟩
  ·replace c18 := Bool.eq_false_iff.mpr c18
   subst c18
   have H1 : (gain_Put.j0 k l1 l2 a3 true a0_0 a0_1 l0_2 t209 t210 t211) = some (r1, r2, r3, r4) := by rw [if_neg (show ¬ (false = true) by decide)] at H; exact H
   clear H
   have H := H1
   clear H1
   have H' := Am H
   clear H
   go_wp2_with (first | ((with_reducible refine gate_callee (f := 85) rfl ?_); refine goesL_ (some 23) rfl rfl Try.func85 (by kernel_rfl) rfl #[.slice A1 l1.length c1] rfl ls_ ?_; (with_reducible refine (gain_Right.calls k _ _ l1 false _ ?side1 ?side2 A17.out).mono ?_); (case side1 => exact Kd.C_below HR1.out (bB HB.out)); (case side2 => exact HC1.out); rintro e w' ⟨rfl, ⟨nd, rfl⟩⟩; refine ⟨_, rfl, ?_⟩))
   go_meet
   case rel => exact ⟨_, (true), rs_, H', ⟨by first | omega | exact Nat.le_refl _⟩, ⟨by (with_reducible repeat (first | apply Kd.V_alloc | apply Kd.V_drewN | apply Kd.V_drew)); exact Kd.V_mono (Kd.V_far (p := ⟨gb215, 2, none⟩) (Kd.V_far (p := ⟨gb215, 1, none⟩) (Kd.V_far (p := ⟨gb215, 0, none⟩) (Kd.V_mono HO0_2.out (fun k_ hk => (⟨hk, hk.2⟩ : _ ∧ k_ ≠ gb215))) (fun _ hk => hk.2) (.int .u64 t209)) (fun _ hk => hk.2) (.int .u32 t210)) (fun _ hk => hk.2) (.slice Ao16 t211.length co16)) (fun _ hk => ⟨hk.1.1.1.1.1, ⟨hk.1.1.2, ⟨hk.1.1.1.1.2, ⟨hk.1.1.1.2, hk.1.2⟩⟩⟩⟩)⟩, ⟨by (with_reducible repeat (first | apply Kd.R_alloc | apply Kd.R_drewN | apply Kd.R_drew)); exact Kd.R_mono (Kd.R_far (p := ⟨gb215, 2, none⟩) (Kd.R_far (p := ⟨gb215, 1, none⟩) (Kd.R_far (p := ⟨gb215, 0, none⟩) (Kd.R_types HO213.out BK215.out (by decide)) (fun _ hk => hk.2) (.int .u64 t209)) (fun _ hk => hk.2) (.int .u32 t210)) (fun _ hk => hk.2) (.slice Ao16 t211.length co16)) (fun _ hk => hk.1.1)⟩, ⟨by (with_reducible repeat (first | refine blk_drewN ?_ _ | refine blk_drew ?_ | refine blk_alloc ?_ _)); refine blk_far ?_ NB207_215.out _; (with_reducible repeat (first | refine blk_drewN ?_ _ | refine blk_drew ?_ | refine blk_alloc ?_ _)); refine blk_far ?_ NB207_215.out _; (with_reducible repeat (first | refine blk_drewN ?_ _ | refine blk_drew ?_ | refine blk_alloc ?_ _)); refine blk_far ?_ NB207_215.out _; (with_reducible repeat (first | refine blk_drewN ?_ _ | refine blk_drew ?_ | refine blk_alloc ?_ _)); exact BK207.out⟩, ⟨by (with_reducible repeat (first | refine blk_drewN ?_ _ | refine blk_drew ?_ | refine blk_alloc ?_ _)); refine blk_far ?_ NB208_215.out _; (with_reducible repeat (first | refine blk_drewN ?_ _ | refine blk_drew ?_ | refine blk_alloc ?_ _)); refine blk_far ?_ NB208_215.out _; (with_reducible repeat (first | refine blk_drewN ?_ _ | refine blk_drew ?_ | refine blk_alloc ?_ _)); refine blk_far ?_ NB208_215.out _; (with_reducible repeat (first | refine blk_drewN ?_ _ | refine blk_drew ?_ | refine blk_alloc ?_ _)); exact BK208.out⟩, ⟨by (with_reducible repeat (first | refine blk_drewN ?_ _ | refine blk_drew ?_ | refine blk_alloc ?_ _)); refine blk_put (cs := #[.int .u64 t209, .int .u32 t210, .slice none 0 0]) ?_ 2 _ rfl; (with_reducible repeat (first | refine blk_drewN ?_ _ | refine blk_drew ?_ | refine blk_alloc ?_ _)); refine blk_put (cs := #[.int .u64 t209, .int .u32 0, .slice none 0 0]) ?_ 1 _ rfl; (with_reducible repeat (first | refine blk_drewN ?_ _ | refine blk_drew ?_ | refine blk_alloc ?_ _)); refine blk_put (cs := #[.int .u64 0, .int .u32 0, .slice none 0 0]) ?_ 0 _ rfl; (with_reducible repeat (first | refine blk_drewN ?_ _ | refine blk_drew ?_ | refine blk_alloc ?_ _)); exact BK215.out⟩, ⟨bB HB.out⟩⟩
 case rest =>
  clear HC6
  try clear c1
  try clear c2
  try clear p2
  try clear c3
  try clear c6
  try clear c8
  try clear c9
  try clear c13
  try clear c14
  try clear c18
  try clear c19
  try clear hcz10_0
  try clear hcz10_1
  try clear hcz10_2
  try clear hcz15_0
  try clear hcz15_1
  try clear hcz15_2
  try clear hfz10_0
  try clear hfz10_1
  try clear hfz10_2
  try clear hfz15_0
  try clear hfz15_1
  try clear hfz15_2
  obtain ⟨kq, x33_5, rfl, HA, HJ5, HO_208002, HO_216002, BK207, BK208, BK215, HB⟩ := hcut
  cases kq with
  | zero => exact absurd HA.out (by simp [gain_Put.j0])
  | succ kj5 =>
   have H := HA.out
   clear HA
   simp only [gain_Put.j0] at H
   by_cases c21 : x33_5 = true
   ·subst c21
    have H1 : (some (t209, t210, t211, 1)) = some (r1, r2, r3, r4) := by rw [if_pos rfl] at H; exact H
    clear H
    have H := H1
    clear H1
    simp only [Option.some.injEq, Prod.mk.injEq] at H
    obtain ⟨rfl, rfl, rfl, rfl⟩ := H
    have hnb22 := NB215_207.out
    have hnc22 := NB207_215.out
    have hnb23 := NB215_208.out
    have hnc23 := NB208_215.out
    have hcz24_0 : wc.cell? ⟨gb215, 0, none⟩ = some (.int .u64 t209) := (blk_cell BK215.out 0).trans rfl
    have hcz24_1 : wc.cell? ⟨gb215, 1, none⟩ = some (.int .u32 t210) := (blk_cell BK215.out 1).trans rfl
    have hcz24_2 : wc.cell? ⟨gb215, 2, none⟩ = some (.slice Ao16 t211.length co16) := (blk_cell BK215.out 2).trans rfl
    have hfz24_0 := blk_frozen BK215.out 0
    have hfz24_1 := blk_frozen BK215.out 1
    have hfz24_2 := blk_frozen BK215.out 2
    have hnb25 := NB208_207.out
    have hnc25 := NB207_208.out
    have hcz26_0 : wc.cell? ⟨gb208, 0, none⟩ = some (.int .u64 0) := (blk_cell BK208.out 0).trans rfl
    have hcz26_1 : wc.cell? ⟨gb208, 1, none⟩ = some (.int .u32 0) := (blk_cell BK208.out 1).trans rfl
    have hcz26_2 : wc.cell? ⟨gb208, 2, none⟩ = some (.slice none 0 0) := (blk_cell BK208.out 2).trans rfl
    have hfz26_0 := blk_frozen BK208.out 0
    have hfz26_1 := blk_frozen BK208.out 1
    have hfz26_2 := blk_frozen BK208.out 2
    go_wp2
    refine bodyPost_ret (results_ct rfl _ _ gb208 52 #[.int .u64 t209, .int .u32 t210, .slice Ao16 t211.length co16] (0, 0) _ rfl (by (with_reducible repeat (first | refine blk_drewN ?_ _ | refine blk_drew ?_ | refine blk_alloc ?_ _)); refine blk_put (cs := #[.int .u64 t209, .int .u32 t210, .slice none 0 0]) ?_ 2 _ rfl; (with_reducible repeat (first | refine blk_drewN ?_ _ | refine blk_drew ?_ | refine blk_alloc ?_ _)); refine blk_put (cs := #[.int .u64 t209, .int .u32 0, .slice none 0 0]) ?_ 1 _ rfl; (with_reducible repeat (first | refine blk_drewN ?_ _ | refine blk_drew ?_ | refine blk_alloc ?_ _)); refine blk_put (cs := #[.int .u64 0, .int .u32 0, .slice none 0 0]) ?_ 0 _ rfl; (with_reducible repeat (first | refine blk_drewN ?_ _ | refine blk_drew ?_ | refine blk_alloc ?_ _)); exact BK208.out) Try.underlying52 rfl (by kernel_rfl)) rfl ?_
    exact ⟨_, by first | rfl | (simp [errW_none, errW_some] <;> rfl) | (simp [*, errW_none, errW_some] <;> rfl), (by (first | refine RVor w.heap.size ?_ | refine RVor1 w.heap.size ?_); (with_reducible repeat (first | apply Kd.R_alloc | apply Kd.R_drewN | apply Kd.R_drew)); exact Kd.R_mono (Kd.R_far (p := ⟨gb208, 2, none⟩) (Kd.R_far (p := ⟨gb208, 1, none⟩) (Kd.R_far (p := ⟨gb208, 0, none⟩) (Kd.R_types HO_216002.out BK208.out (by decide)) (fun _ hk => hk.2) (.int .u64 t209)) (fun _ hk => hk.2) (.int .u32 t210)) (fun _ hk => hk.2) (.slice Ao16 t211.length co16)) (fun _ hk => hk.1)), bB HB.out⟩
   ·replace c21 := Bool.eq_false_iff.mpr c21
    subst c21
    have H1 : (gain_Put.l0 kj5 l1 l2 a3 0 t209 t210 t211 a0_0 a0_1 l0_2) = some (r1, r2, r3, r4) := by rw [if_neg (show ¬ (false = true) by decide)] at H; exact H
    clear H
    have H := H1
    clear H1
    have H' := Am H
    clear H
    have hnb27 := NB207_208.out
    have hnc27 := NB208_207.out
    have hnb28 := NB207_215.out
    have hnc28 := NB215_207.out
    have hcz29_0 : wc.cell? ⟨gb207, 0, none⟩ = some (.int .u64 a0_0) := (blk_cell BK207.out 0).trans rfl
    have hcz29_1 : wc.cell? ⟨gb207, 1, none⟩ = some (.int .u32 a0_1) := (blk_cell BK207.out 1).trans rfl
    have hcz29_2 : wc.cell? ⟨gb207, 2, none⟩ = some (.slice A0_2 l0_2.length c0_2) := (blk_cell BK207.out 2).trans rfl
    have hfz29_0 := blk_frozen BK207.out 0
    have hfz29_1 := blk_frozen BK207.out 1
    have hfz29_2 := blk_frozen BK207.out 2
    go_wp2_with (first | ((with_reducible refine gate_dst (N := 12) rfl ?_); refine box_event ?hg (N := 12) ?hd (cs := #[.int .u64 0, .int .u32 0, .slice none 0 0]) (t := 52) ?hr ?_; (case hd => rfl); (case hg => rfl); (case hr => first | (go_simp; done) | (go_simp; rfl)); intro gb218 hg w30 hbox hb; have n0_ := Am (Kd.V_below (Kd.V_elderB (kV HO_208002.out) gb218 (Nat.le_of_eq hg.symm)) hb); have n1_ := Am (Kd.R_below (kR HO_216002.out) hb); have n2_ := Am (blk_below (g := gb207) (o := .cells #[.int .u64 a0_0, .int .u32 a0_1, .slice A0_2 l0_2.length c0_2] 52 (0, 0)) (bK BK207.out) hb); have n3_ := Am (blk_below (g := gb208) (o := .cells #[.int .u64 0, .int .u32 0, .slice none 0 0] 52 (0, 0)) (bK BK208.out) hb); have n4_ := Am (blk_below (g := gb215) (o := .cells #[.int .u64 t209, .int .u32 t210, .slice Ao16 t211.length co16] 52 (0, 0)) (bK BK215.out) hb); have n5_ := Am (below_step (bB HB.out) hb); have n6_ := Am (hbox); have n7_ := Am ((by rw [hg]; exact (below_size (bB HB.out)) : w.heap.size ≤ gb218)); have n8_ := Am ((by rw [hg]; exact (below_size (bB HB.out)) : w.heap.size ≤ gb218)); have n9_ := Am ((by rw [hg]; exact Nat.ne_of_lt (blk_lt (g := gb207) (o := .cells #[.int .u64 a0_0, .int .u32 a0_1, .slice A0_2 l0_2.length c0_2] 52 (0, 0)) (bK BK207.out)) : gb207 ≠ gb218)); have n10_ := Am ((by rw [hg]; exact Nat.ne_of_gt (blk_lt (g := gb207) (o := .cells #[.int .u64 a0_0, .int .u32 a0_1, .slice A0_2 l0_2.length c0_2] 52 (0, 0)) (bK BK207.out)) : gb218 ≠ gb207)); have n11_ := Am ((by rw [hg]; exact Nat.ne_of_lt (blk_lt (g := gb208) (o := .cells #[.int .u64 0, .int .u32 0, .slice none 0 0] 52 (0, 0)) (bK BK208.out)) : gb208 ≠ gb218)); have n12_ := Am ((by rw [hg]; exact Nat.ne_of_gt (blk_lt (g := gb208) (o := .cells #[.int .u64 0, .int .u32 0, .slice none 0 0] 52 (0, 0)) (bK BK208.out)) : gb218 ≠ gb208)); have n13_ := Am ((by rw [hg]; exact Nat.ne_of_lt (blk_lt (g := gb215) (o := .cells #[.int .u64 t209, .int .u32 t210, .slice Ao16 t211.length co16] 52 (0, 0)) (bK BK215.out)) : gb215 ≠ gb218)); have n14_ := Am ((by rw [hg]; exact Nat.ne_of_gt (blk_lt (g := gb215) (o := .cells #[.int .u64 t209, .int .u32 t210, .slice Ao16 t211.length co16] 52 (0, 0)) (bK BK215.out)) : gb218 ≠ gb215)); clear HO_208002; clear HO_216002; clear BK207; clear BK208; clear BK215; clear HB; have HO_208002 := n0_; have HO_216002 := n1_; have BK207 := n2_; have BK208 := n3_; have BK215 := n4_; have HB := n5_; have BK218 := n6_; have GW218 := n7_; have GE218 := n8_; have NB207_218 := n9_; have NB218_207 := n10_; have NB208_218 := n11_; have NB218_208 := n12_; have NB215_218 := n13_; have NB218_215 := n14_; clear n0_ n1_ n2_ n3_ n4_ n5_ n6_ n7_ n8_ n9_ n10_ n11_ n12_ n13_ n14_; clear hb hbox hg; have hnb31 := NB218_207.out; have hnc31 := NB207_218.out; have hnb32 := NB218_208.out; have hnc32 := NB208_218.out; have hnb33 := NB218_215.out; have hnc33 := NB215_218.out; have hcz34_0 : w30.cell? ⟨gb218, 0, none⟩ = some (.int .u64 0) := (blk_cell BK218.out 0).trans rfl; have hcz34_1 : w30.cell? ⟨gb218, 1, none⟩ = some (.int .u32 0) := (blk_cell BK218.out 1).trans rfl; have hcz34_2 : w30.cell? ⟨gb218, 2, none⟩ = some (.slice none 0 0) := (blk_cell BK218.out 2).trans rfl; have hfz34_0 := blk_frozen BK218.out 0; have hfz34_1 := blk_frozen BK218.out 1; have hfz34_2 := blk_frozen BK218.out 2))
    go_loopg [36] kj5 (fun kq v36 w' => ∃ (x36_2 : Int) (x209000_2 : Int) (x209001_2 : Int) (x219000_2 : Int) (x219001_2 : Int) (x219002_2 : List Int) (u219002 : Value), v36 = .int .i64 x36_2 ∧ Aside0 (gain_Put.l0 kq l1 l2 a3 x36_2 t209 t210 t211 x219000_2 x219001_2 x219002_2 = some (r1, r2, r3, r4)) ∧ Aside0 (kq ≤ kj5) ∧ Aside0 (Kd.V (Kd.int .u8) 5 w' w.heap.size (fun k_ => (P0_2_ k_ ∨ w.heap.size ≤ k_) ∧ some k_ ≠ ((.slice Ao16 t211.length co16) : Value).ownBlock ∧ k_ ≠ gb207 ∧ k_ ≠ gb208 ∧ k_ ≠ gb215 ∧ k_ ≠ gb218) (.slice A0_2 l0_2.length c0_2) l0_2) ∧ Aside0 (Kd.R (Kd.int .u8) 5 w' w.heap.size (fun k_ => (w.heap.size ≤ k_)) (.slice Ao16 t211.length co16) t211) ∧ Aside0 (Kd.V (Kd.int .u8) 5 w' w.heap.size (fun k_ => (P0_2_ k_ ∨ w.heap.size ≤ k_) ∧ some k_ ≠ ((.slice Ao16 t211.length co16) : Value).ownBlock ∧ k_ ≠ gb207 ∧ k_ ≠ gb208 ∧ k_ ≠ gb215 ∧ k_ ≠ gb218) u219002 x219002_2) ∧ Aside0 (w'.heap[gb207]? = some (.cells #[.int .u64 a0_0, .int .u32 a0_1, (.slice A0_2 l0_2.length c0_2)] 52 (0, 0))) ∧ Aside0 (w'.heap[gb208]? = some (.cells #[.int .u64 x209000_2, .int .u32 x209001_2, (.slice none 0 0)] 52 (0, 0))) ∧ Aside0 (w'.heap[gb215]? = some (.cells #[.int .u64 t209, .int .u32 t210, (.slice Ao16 t211.length co16)] 52 (0, 0))) ∧ Aside0 (w'.heap[gb218]? = some (.cells #[.int .u64 x219000_2, .int .u32 x219001_2, u219002] 52 (0, 0))) ∧ Aside0 (Below w.heap.size w w'))
    case atStart => exact ⟨(0), (0), (0), (a0_0), (a0_1), (l0_2), (.slice A0_2 l0_2.length c0_2), rs_, H', ⟨Nat.le_refl _⟩, ⟨by (with_reducible repeat (first | apply Kd.V_alloc | apply Kd.V_drewN | apply Kd.V_drew)); exact Kd.V_mono (Kd.V_far (p := ⟨gb218, 2, none⟩) (Kd.V_far (p := ⟨gb218, 1, none⟩) (Kd.V_far (p := ⟨gb218, 0, none⟩) (Kd.V_mono HO_208002.out (fun k_ hk => (⟨hk, hk.2⟩ : _ ∧ k_ ≠ gb218))) (fun _ hk => hk.2) (.int .u64 a0_0)) (fun _ hk => hk.2) (.int .u32 a0_1)) (fun _ hk => hk.2) (.slice A0_2 l0_2.length c0_2)) (fun _ hk => ⟨hk.1.1.1, ⟨hk.1.1.2.1, ⟨hk.1.1.2.2.1, ⟨hk.1.1.2.2.2.1, ⟨hk.1.1.2.2.2.2, hk.1.2⟩⟩⟩⟩⟩)⟩, ⟨by (with_reducible repeat (first | apply Kd.R_alloc | apply Kd.R_drewN | apply Kd.R_drew)); exact Kd.R_mono (Kd.R_far (p := ⟨gb218, 2, none⟩) (Kd.R_far (p := ⟨gb218, 1, none⟩) (Kd.R_far (p := ⟨gb218, 0, none⟩) (Kd.R_types HO_216002.out BK218.out (by decide)) (fun _ hk => hk.2) (.int .u64 a0_0)) (fun _ hk => hk.2) (.int .u32 a0_1)) (fun _ hk => hk.2) (.slice A0_2 l0_2.length c0_2)) (fun _ hk => hk.1)⟩, ⟨by (with_reducible repeat (first | apply Kd.V_alloc | apply Kd.V_drewN | apply Kd.V_drew)); exact Kd.V_mono (Kd.V_far (p := ⟨gb218, 2, none⟩) (Kd.V_far (p := ⟨gb218, 1, none⟩) (Kd.V_far (p := ⟨gb218, 0, none⟩) (Kd.V_mono HO_208002.out (fun k_ hk => (⟨hk, hk.2⟩ : _ ∧ k_ ≠ gb218))) (fun _ hk => hk.2) (.int .u64 a0_0)) (fun _ hk => hk.2) (.int .u32 a0_1)) (fun _ hk => hk.2) (.slice A0_2 l0_2.length c0_2)) (fun _ hk => ⟨hk.1.1.1, ⟨hk.1.1.2.1, ⟨hk.1.1.2.2.1, ⟨hk.1.1.2.2.2.1, ⟨hk.1.1.2.2.2.2, hk.1.2⟩⟩⟩⟩⟩)⟩, ⟨by (with_reducible repeat (first | refine blk_drewN ?_ _ | refine blk_drew ?_ | refine blk_alloc ?_ _)); refine blk_far ?_ NB207_218.out _; (with_reducible repeat (first | refine blk_drewN ?_ _ | refine blk_drew ?_ | refine blk_alloc ?_ _)); refine blk_far ?_ NB207_218.out _; (with_reducible repeat (first | refine blk_drewN ?_ _ | refine blk_drew ?_ | refine blk_alloc ?_ _)); refine blk_far ?_ NB207_218.out _; (with_reducible repeat (first | refine blk_drewN ?_ _ | refine blk_drew ?_ | refine blk_alloc ?_ _)); exact BK207.out⟩, ⟨by (with_reducible repeat (first | refine blk_drewN ?_ _ | refine blk_drew ?_ | refine blk_alloc ?_ _)); refine blk_far ?_ NB208_218.out _; (with_reducible repeat (first | refine blk_drewN ?_ _ | refine blk_drew ?_ | refine blk_alloc ?_ _)); refine blk_far ?_ NB208_218.out _; (with_reducible repeat (first | refine blk_drewN ?_ _ | refine blk_drew ?_ | refine blk_alloc ?_ _)); refine blk_far ?_ NB208_218.out _; (with_reducible repeat (first | refine blk_drewN ?_ _ | refine blk_drew ?_ | refine blk_alloc ?_ _)); exact BK208.out⟩, ⟨by (with_reducible repeat (first | refine blk_drewN ?_ _ | refine blk_drew ?_ | refine blk_alloc ?_ _)); refine blk_far ?_ NB215_218.out _; (with_reducible repeat (first | refine blk_drewN ?_ _ | refine blk_drew ?_ | refine blk_alloc ?_ _)); refine blk_far ?_ NB215_218.out _; (with_reducible repeat (first | refine blk_drewN ?_ _ | refine blk_drew ?_ | refine blk_alloc ?_ _)); refine blk_far ?_ NB215_218.out _; (with_reducible repeat (first | refine blk_drewN ?_ _ | refine blk_drew ?_ | refine blk_alloc ?_ _)); exact BK215.out⟩, ⟨by (with_reducible repeat (first | refine blk_drewN ?_ _ | refine blk_drew ?_ | refine blk_alloc ?_ _)); refine blk_put (cs := #[.int .u64 a0_0, .int .u32 a0_1, .slice none 0 0]) ?_ 2 _ rfl; (with_reducible repeat (first | refine blk_drewN ?_ _ | refine blk_drew ?_ | refine blk_alloc ?_ _)); refine blk_put (cs := #[.int .u64 a0_0, .int .u32 0, .slice none 0 0]) ?_ 1 _ rfl; (with_reducible repeat (first | refine blk_drewN ?_ _ | refine blk_drew ?_ | refine blk_alloc ?_ _)); refine blk_put (cs := #[.int .u64 0, .int .u32 0, .slice none 0 0]) ?_ 0 _ rfl; (with_reducible repeat (first | refine blk_drewN ?_ _ | refine blk_drew ?_ | refine blk_alloc ?_ _)); exact BK218.out⟩, ⟨bB HB.out⟩⟩
    case round =>
     clear H'
     try clear c1
     try clear c2
     try clear p2
     try clear c3
     try clear c6
     try clear c8
     try clear c9
     try clear c13
     try clear c14
     try clear c18
     try clear c19
     try clear c21
     try clear c22
     try clear c23
     try clear c25
     try clear c27
     try clear c28
     try clear c31
     try clear c32
     try clear c33
     try clear hcz10_0
     try clear hcz10_1
     try clear hcz10_2
     try clear hcz15_0
     try clear hcz15_1
     try clear hcz15_2
     try clear hcz24_0
     try clear hcz24_1
     try clear hcz24_2
     try clear hcz26_0
     try clear hcz26_1
     try clear hcz26_2
     try clear hcz29_0
     try clear hcz29_1
     try clear hcz29_2
     try clear hcz34_0
     try clear hcz34_1
     try clear hcz34_2
     try clear hfz10_0
     try clear hfz10_1
     try clear hfz10_2
     try clear hfz15_0
     try clear hfz15_1
     try clear hfz15_2
     try clear hfz24_0
     try clear hfz24_1
     try clear hfz24_2
     try clear hfz26_0
     try clear hfz26_1
     try clear hfz26_2
     try clear hfz29_0
     try clear hfz29_1
     try clear hfz29_2
     try clear hfz34_0
     try clear hfz34_1
     try clear hfz34_2
     try clear p2
     obtain ⟨x36_2, x209000_2, x209001_2, x219000_2, x219001_2, x219002_2, u219002, rfl, HA, HK2, HO_208002, HO_216002, HO_219002, BK207, BK208, BK215, BK218, HB⟩ := hrel
     cases gk with
     | zero => exact absurd HA.out (by simp [gain_Put.l0])
     | succ k2 =>
      have H := HA.out
      clear HA
      simp only [gain_Put.l0] at H
      by_cases c35 : x36_2 < 5
      ·rw [if_pos c35] at H
       have c35b0 : decide (x36_2 < 5) = true := decide_eq_true c35
       clear c35
       have HC36 := Am H
       clear H
       go_upto_if 40 with (fail)
       go_cut [14] (fun v14 wc => ∃ (kq : Nat) (x14_35 : Int), v14 = .int .i64 x14_35 ∧ Aside0 (gain_Put.j2 kq l1 l2 a3 x36_2 x14_35 x36_2 t209 t210 t211 x219000_2 x219001_2 x219002_2 = some (r1, r2, r3, r4)) ∧ Aside0 (kq ≤ k2) ∧ Aside0 (Kd.V (Kd.int .u8) 5 wc w.heap.size (fun k_ => (P0_2_ k_ ∨ w.heap.size ≤ k_) ∧ some k_ ≠ ((.slice Ao16 t211.length co16) : Value).ownBlock ∧ k_ ≠ gb207 ∧ k_ ≠ gb208 ∧ k_ ≠ gb215 ∧ k_ ≠ gb218) (.slice A0_2 l0_2.length c0_2) l0_2) ∧ Aside0 (Kd.R (Kd.int .u8) 5 wc w.heap.size (fun k_ => (w.heap.size ≤ k_)) (.slice Ao16 t211.length co16) t211) ∧ Aside0 (Kd.V (Kd.int .u8) 5 wc w.heap.size (fun k_ => (P0_2_ k_ ∨ w.heap.size ≤ k_) ∧ some k_ ≠ ((.slice Ao16 t211.length co16) : Value).ownBlock ∧ k_ ≠ gb207 ∧ k_ ≠ gb208 ∧ k_ ≠ gb215 ∧ k_ ≠ gb218) u219002 x219002_2) ∧ Aside0 (wc.heap[gb207]? = some (.cells #[.int .u64 a0_0, .int .u32 a0_1, (.slice A0_2 l0_2.length c0_2)] 52 (0, 0))) ∧ Aside0 (wc.heap[gb208]? = some (.cells #[.int .u64 x209000_2, .int .u32 x209001_2, (.slice none 0 0)] 52 (0, 0))) ∧ Aside0 (wc.heap[gb215]? = some (.cells #[.int .u64 t209, .int .u32 t210, (.slice Ao16 t211.length co16)] 52 (0, 0))) ∧ Aside0 (wc.heap[gb218]? = some (.cells #[.int .u64 x219000_2, .int .u32 x219001_2, u219002] 52 (0, 0))) ∧ Aside0 (Below w.heap.size w wc))
       case first =>
        have H := HC36.out
        clear HC36
        by_cases c37 : a3 = true
        ·subst c37
         have H1 : (gain_Put.j2 k2 l1 l2 true x36_2 0 x36_2 t209 t210 t211 x219000_2 x219001_2 x219002_2) = some (r1, r2, r3, r4) := by rw [if_pos rfl] at H; exact H
         clear H
         have H := H1
         clear H1
         have H' := Am H
         clear H
         go_wp2
         go_meet
         case rel => exact ⟨_, (0), rs_, H', ⟨by have := HJ5.out; have := HK2.out; first | omega | exact Nat.le_refl _⟩, ⟨by (with_reducible repeat (first | apply Kd.V_alloc | apply Kd.V_drewN | apply Kd.V_drew)); exact HO_208002.out⟩, ⟨by (with_reducible repeat (first | apply Kd.R_alloc | apply Kd.R_drewN | apply Kd.R_drew)); exact HO_216002.out⟩, ⟨by (with_reducible repeat (first | apply Kd.V_alloc | apply Kd.V_drewN | apply Kd.V_drew)); exact HO_219002.out⟩, ⟨by (with_reducible repeat (first | refine blk_drewN ?_ _ | refine blk_drew ?_ | refine blk_alloc ?_ _)); exact BK207.out⟩, ⟨by (with_reducible repeat (first | refine blk_drewN ?_ _ | refine blk_drew ?_ | refine blk_alloc ?_ _)); exact BK208.out⟩, ⟨by (with_reducible repeat (first | refine blk_drewN ?_ _ | refine blk_drew ?_ | refine blk_alloc ?_ _)); exact BK215.out⟩, ⟨by (with_reducible repeat (first | refine blk_drewN ?_ _ | refine blk_drew ?_ | refine blk_alloc ?_ _)); exact BK218.out⟩, ⟨bB HB.out⟩⟩
        ·replace c37 := Bool.eq_false_iff.mpr c37
         subst c37
         have H1 : (if 0 ≤ x36_2 then (if x36_2 < (l2.length : Int) then (gain_Put.j2 k2 l1 l2 false x36_2 (rd l2 x36_2) x36_2 t209 t210 t211 x219000_2 x219001_2 x219002_2) else (none)) else (none)) = some (r1, r2, r3, r4) := by rw [if_neg (show ¬ (false = true) by decide)] at H; exact H
         clear H
         have H := H1
         clear H1
         by_cases c38 : 0 ≤ x36_2
         ·rw [if_pos c38] at H
          have c38b0 : decide (0 ≤ x36_2) = true := decide_eq_true c38
          clear c38
          (first | rw [c38b0] | (simp only [i64_w, i32_w]; rw [c38b0]) | skip)
          by_cases c39 : x36_2 < (l2.length : Int)
          ·rw [if_pos c39] at H
           have c39b0 : decide (x36_2 < (l2.length : Int)) = true := decide_eq_true c39
           clear c39
           have H' := Am H
           clear H
           have p219 : 0 ≤ (x36_2 : Int) := of_decide_eq_true as_
           have q219 : x36_2 < (l2.length : Int) := of_decide_eq_true as_
           obtain ⟨ad219, e219, hx219_0⟩ := Kd.at_int HR2.out x36_2 p219 q219
           cases e219
           replace hx219_0 := (HB.out.cell (World.block_lt_of_cell? w _ hx219_0)).trans hx219_0
           replace p219 := eq_true p219
           replace q219 := eq_true q219
           go_wp2
           go_meet
           case rel => exact ⟨_, (rd l2 x36_2), rs_, H', ⟨by have := HJ5.out; have := HK2.out; first | omega | exact Nat.le_refl _⟩, ⟨by (with_reducible repeat (first | apply Kd.V_alloc | apply Kd.V_drewN | apply Kd.V_drew)); exact HO_208002.out⟩, ⟨by (with_reducible repeat (first | apply Kd.R_alloc | apply Kd.R_drewN | apply Kd.R_drew)); exact HO_216002.out⟩, ⟨by (with_reducible repeat (first | apply Kd.V_alloc | apply Kd.V_drewN | apply Kd.V_drew)); exact HO_219002.out⟩, ⟨by (with_reducible repeat (first | refine blk_drewN ?_ _ | refine blk_drew ?_ | refine blk_alloc ?_ _)); exact BK207.out⟩, ⟨by (with_reducible repeat (first | refine blk_drewN ?_ _ | refine blk_drew ?_ | refine blk_alloc ?_ _)); exact BK208.out⟩, ⟨by (with_reducible repeat (first | refine blk_drewN ?_ _ | refine blk_drew ?_ | refine blk_alloc ?_ _)); exact BK215.out⟩, ⟨by (with_reducible repeat (first | refine blk_drewN ?_ _ | refine blk_drew ?_ | refine blk_alloc ?_ _)); exact BK218.out⟩, ⟨bB HB.out⟩⟩
          ·rw [if_neg c39] at H
           exact absurd H (by simp)
         ·rw [if_neg c38] at H
          exact absurd H (by simp)
       case rest =>
        clear HC36
        try clear c1
        try clear c2
        try clear p2
        try clear q2
        try clear hx2
        try clear c3
        try clear c6
        try clear c8
        try clear c9
        try clear c13
        try clear c14
        try clear c18
        try clear c19
        try clear c21
        try clear p21
        try clear q21
        try clear hx21
        try clear c22
        try clear c23
        try clear c25
        try clear c27
        try clear c28
        try clear c31
        try clear c32
        try clear c33
        try clear c35
        try clear c35b0
        try clear c37
        try clear c38
        try clear c38b0
        try clear c39
        try clear c39b0
        try clear hcz10_0
        try clear hcz10_1
        try clear hcz10_2
        try clear hcz15_0
        try clear hcz15_1
        try clear hcz15_2
        try clear hcz24_0
        try clear hcz24_1
        try clear hcz24_2
        try clear hcz26_0
        try clear hcz26_1
        try clear hcz26_2
        try clear hcz29_0
        try clear hcz29_1
        try clear hcz29_2
        try clear hcz34_0
        try clear hcz34_1
        try clear hcz34_2
        try clear hfz10_0
        try clear hfz10_1
        try clear hfz10_2
        try clear hfz15_0
        try clear hfz15_1
        try clear hfz15_2
        try clear hfz24_0
        try clear hfz24_1
        try clear hfz24_2
        try clear hfz26_0
        try clear hfz26_1
        try clear hfz26_2
        try clear hfz29_0
        try clear hfz29_1
        try clear hfz29_2
        try clear hfz34_0
        try clear hfz34_1
        try clear hfz34_2
        try clear hx219_0
        try clear p2
        try clear p219
        try clear q219
        obtain ⟨kq, x14_35, rfl, HA, HJ35, HO_208002, HO_216002, HO_219002, BK207, BK208, BK215, BK218, HB⟩ := hcut
        cases kq with
        | zero => exact absurd HA.out (by simp [gain_Put.j2])
        | succ kj35 =>
         have H := HA.out
         clear HA
         simp only [gain_Put.j2] at H
         by_cases c40 : 0 ≤ x36_2
         ·rw [if_pos c40] at H
          have c40b0 : decide (0 ≤ x36_2) = true := decide_eq_true c40
          clear c40
          by_cases c41 : x36_2 < (l1.length : Int)
          ·rw [if_pos c41] at H
           have c41b0 : decide (x36_2 < (l1.length : Int)) = true := decide_eq_true c41
           clear c41
           replace H := Option.bind_eq_some_iff.mp H
           obtain ⟨⟨t221, t222, t223, t226⟩, A420, H⟩ := H
           replace H : (if t226 = 0 then (gain_Put.l0 kj35 l1 l2 a3 (wrap64 (x36_2 + 1)) t209 t210 t211 t221 t222 t223) else (some (t209, t210, t211, t226))) = some (r1, r2, r3, r4) := H
           have A42 := Am A420
           clear A420
           by_cases c43 : t226 = 0
           ·rw [if_pos c43] at H
            have c43b0 : (t226 == 0) = true := beq_iff_eq.mpr c43
            have c43b1 : (t226 != 0) = false := bne_eq_false_iff_eq.mpr c43
            clear c43
            have H' := Am H
            clear H
            obtain ⟨Ao44, co44, eo44⟩ := Kd.V_slice HO_219002.out
            subst eo44
            try go_wp2
            have n0_ := Am (Kd.V_drew HO_208002.out)
            have n1_ := Am (Kd.R_drew HO_216002.out)
            have n2_ := Am (Kd.V_drew HO_219002.out)
            have n3_ := Am (blk_drew BK207.out)
            have n4_ := Am (blk_drew BK208.out)
            have n5_ := Am (blk_drew BK215.out)
            have n6_ := Am (blk_drew BK218.out)
            have n7_ := Am (below_drew1 HB.out)
            clear HO_208002
            clear HO_216002
            clear HO_219002
            clear BK207
            clear BK208
            clear BK215
            clear BK218
            clear HB
            have HO_208002 := n0_
            have HO_216002 := n1_
            have HO_219002 := n2_
            have BK207 := n3_
            have BK208 := n4_
            have BK215 := n5_
            have BK218 := n6_
            have HB := n7_
            clear n0_ n1_ n2_ n3_ n4_ n5_ n6_ n7_
            have p220 : 0 ≤ (x36_2 : Int) := of_decide_eq_true as_
            have q220 : x36_2 < (l1.length : Int) := of_decide_eq_true as_
            obtain ⟨ad220, e220, hx220_0⟩ := Kd.at_int HR1.out x36_2 p220 q220
            have hw220_0 := hx220_0
            cases e220
            replace hx220_0 := (HB.out.cell (World.block_lt_of_cell? w _ hx220_0)).trans hx220_0
            replace p220 := eq_true p220
            replace q220 := eq_true q220
            refine start_ (n := 14) (S := fun w' => w'.cell? ⟨gb218, 0, none⟩ = some (.int .u64 x219000_2) ∧ w'.cell? ⟨gb218, 1, none⟩ = some (.int .u32 x219001_2) ∧ w'.cell? ⟨gb218, 2, none⟩ = some (.slice Ao44 x219002_2.length co44) ∧ w'.cell? (ad220.add (x36_2).toNat) = some (.int .i64 (rd l1 x36_2))) (ds := []) #[false, false, false, false, false, false, false, false, false, false, false, false, false, false] (by kernel_rfl) rfl rfl ⟨(blk_cell BK218.out 0).trans rfl, (blk_cell BK218.out 1).trans rfl, (blk_cell BK218.out 2).trans rfl, ((HB.out.cell (World.block_lt_of_cell? w _ hw220_0)).trans hw220_0)⟩ (fun hHeld => ?_); refine with_tabW gain_Put.tab11 gain_Put.bits11 (fun HT_ HW_ => ?_)
            generalize wc.drew = w45 at HO_208002 HO_216002 HO_219002 BK207 BK208 BK215 BK218 HB hx220_0 hHeld ⊢
            refine pure_ (i := 1) (N := some 47) (v := ?_) (a' := ?_) #[false, true, false, false, false, false, false, false, false, false, false, false, false, false] rfl rfl (any_of HT_.out (by kernel_rfl)) (fun _ _ _ h => h) (Or.inl ⟨by rfl, ?_⟩) ?_ ?_
            rotate_left
            ·intro w'
             go_simp
             with_reducible rfl
            rotate_left
            ·simp only [Act.put, List.setIfInBounds_toArray, List.set_cons_zero, List.set_cons_succ, i64_w, i32_w]
             rfl
            refine pure_ (i := 2) (N := some 48) (v := ?_) (a' := ?_) #[false, true, true, false, false, false, false, false, false, false, false, false, false, false] rfl rfl (any_of HT_.out (by kernel_rfl)) (fun _ _ _ h => h) (Or.inl ⟨by rfl, ?_⟩) ?_ ?_
            rotate_left
            ·intro w'
             go_simp
             with_reducible rfl
            rotate_left
            ·simp only [Act.put, List.setIfInBounds_toArray, List.set_cons_zero, List.set_cons_succ, i64_w, i32_w]
             rfl
            refine pure_ (i := 3) (N := some 49) (v := ?_) (a' := ?_) #[false, true, true, true, false, false, false, false, false, false, false, false, false, false] rfl rfl (any_of HT_.out (by kernel_rfl)) (fun _ _ _ h => h) (Or.inl ⟨by rfl, ?_⟩) ?_ ?_
            rotate_left
            ·intro w'
             go_simp
             with_reducible rfl
            rotate_left
            ·simp only [Act.put, List.setIfInBounds_toArray, List.set_cons_zero, List.set_cons_succ, i64_w, i32_w]
             rfl
            refine pure_ (i := 5) (N := some 51) (v := ?_) (a' := ?_) #[false, true, true, true, false, true, false, false, false, false, false, false, false, false] rfl rfl (any_of HT_.out (by kernel_rfl)) (fun _ _ _ h => h) (Or.inl ⟨by rfl, ?_⟩) ?_ ?_
            rotate_left
            ·intro w'
             go_simp
             with_reducible rfl
            rotate_left
            ·simp only [Act.put, List.setIfInBounds_toArray, List.set_cons_zero, List.set_cons_succ, i64_w, i32_w]
             rfl
            refine pure_ (i := 6) (N := some 52) (v := ?_) (a' := ?_) #[false, true, true, true, false, true, true, false, false, false, false, false, false, false] rfl rfl (any_of HT_.out (by kernel_rfl)) (fun _ _ _ h => h) (Or.inl ⟨by rfl, ?_⟩) ?_ ?_
            rotate_left
            ·intro w'
             go_simp
             with_reducible rfl
            rotate_left
            ·simp only [Act.put, List.setIfInBounds_toArray, List.set_cons_zero, List.set_cons_succ, i64_w, i32_w]
             rfl
            refine take_ (i := 0) (N := some 46) (v := ?_) (a' := ?_) #[true, true, true, true, false, true, true, false, false, false, false, false, false, false] rfl rfl (take_ofW HT_.out HW_.out (by kernel_rfl)) (fun _ _ _ h => h) (Or.inl ⟨by rfl, ?_⟩) hHeld ?_ ?_
            rotate_left
            ·rintro w' ⟨s0, s1, s2, s3⟩
             go_simp
             with_reducible rfl
            rotate_left
            ·simp only [Act.put, List.setIfInBounds_toArray, List.set_cons_zero, List.set_cons_succ, i64_w, i32_w]
             rfl
            refine take_ (i := 4) (N := some 50) (v := ?_) (a' := ?_) #[true, true, true, true, true, true, true, false, false, false, false, false, false, false] rfl rfl (take_ofW HT_.out HW_.out (by kernel_rfl)) (fun _ _ _ h => h) (Or.inl ⟨by rfl, ?_⟩) hHeld ?_ ?_
            rotate_left
            ·rintro w' ⟨s0, s1, s2, s3⟩
             go_simp
             with_reducible rfl
            rotate_left
            ·simp only [Act.put, List.setIfInBounds_toArray, List.set_cons_zero, List.set_cons_succ, i64_w, i32_w]
             rfl
            refine join_ (σ := Value × Nat) 2 #[true, true, true, true, true, true, true, true, true, true, true, true, false, false] (fun s_ => [(53, .tuple #[.agg #[.int .u64 t221, .int .u32 t222, s_.1], .int .i64 t226]), (15, .pointer (some ⟨s_.2, 0, none⟩)), (45, .tuple #[.agg #[.int .u64 t221, .int .u32 t222, s_.1], .int .i64 t226]), (54, .agg #[.int .u64 t221, .int .u32 t222, s_.1]), (55, .int .i64 t226)]) (fun s_ w' => (w'.cell? ⟨gb218, 0, none⟩ = some (.int .u64 x219000_2) ∧ w'.cell? ⟨gb218, 1, none⟩ = some (.int .u32 x219001_2) ∧ w'.cell? ⟨gb218, 2, none⟩ = some (.slice Ao44 x219002_2.length co44) ∧ w'.cell? (ad220.add (x36_2).toNat) = some (.int .i64 (rd l1 x36_2))) ∧ (Kd.R (Kd.int .u8) 5 w' w.heap.size (fun k_ => (w.heap.size ≤ k_) ∧ some k_ ≠ (.slice Ao16 t211.length co16 : Value).ownBlock) s_.1 t223) ∧ (Kd.V (Kd.int .u8) 5 w' w.heap.size (fun k_ => (P0_2_ k_ ∨ w.heap.size ≤ k_) ∧ some k_ ≠ (s_.1 : Value).ownBlock ∧ some k_ ≠ (.slice Ao16 t211.length co16 : Value).ownBlock ∧ k_ ≠ gb207 ∧ k_ ≠ gb208 ∧ k_ ≠ gb215 ∧ k_ ≠ gb218 ∧ k_ ≠ s_.2) (.slice A0_2 l0_2.length c0_2) l0_2) ∧ (Kd.R (Kd.int .u8) 5 w' w.heap.size (fun k_ => (w.heap.size ≤ k_) ∧ some k_ ≠ (s_.1 : Value).ownBlock) (.slice Ao16 t211.length co16) t211) ∧ (Kd.V (Kd.int .u8) 5 w' w.heap.size (fun k_ => (P0_2_ k_ ∨ w.heap.size ≤ k_) ∧ some k_ ≠ (s_.1 : Value).ownBlock ∧ some k_ ≠ (.slice Ao16 t211.length co16 : Value).ownBlock ∧ k_ ≠ gb207 ∧ k_ ≠ gb208 ∧ k_ ≠ gb215 ∧ k_ ≠ gb218 ∧ k_ ≠ s_.2) (.slice Ao44 x219002_2.length co44) x219002_2) ∧ (w'.heap[gb207]? = some (.cells #[.int .u64 a0_0, .int .u32 a0_1, .slice A0_2 l0_2.length c0_2] 52 (0, 0))) ∧ (w'.heap[gb208]? = some (.cells #[.int .u64 x209000_2, .int .u32 x209001_2, .slice none 0 0] 52 (0, 0))) ∧ (w'.heap[gb215]? = some (.cells #[.int .u64 t209, .int .u32 t210, .slice Ao16 t211.length co16] 52 (0, 0))) ∧ (w'.heap[gb218]? = some (.cells #[.int .u64 x219000_2, .int .u32 x219001_2, .slice Ao44 x219002_2.length co44] 52 (0, 0))) ∧ (w'.heap[s_.2]? = some (.cells #[.int .u64 0, .int .u32 0, .slice none 0 0] 52 (0, 0))) ∧ (w.heap.size ≤ s_.2) ∧ (w.heap.size ≤ s_.2) ∧ (gb207 ≠ s_.2) ∧ (s_.2 ≠ gb207) ∧ (gb208 ≠ s_.2) ∧ (s_.2 ≠ gb208) ∧ (gb215 ≠ s_.2) ∧ (s_.2 ≠ gb215) ∧ (gb218 ≠ s_.2) ∧ (s_.2 ≠ gb218) ∧ (Below w.heap.size w w')) ?_ ?_
            rotate_left
            ·intro hCont
             refine two_ (i := 7) (j := 11) (Ni := some 53) (Nj := some 15) #[true, true, true, true, true, true, true, true, false, false, false, false, false, false] #[true, true, true, true, true, true, true, false, false, false, false, true, false, false] rfl rfl rfl rfl (two_of HT_.out (by kernel_rfl)) (by decide) (by decide) (fun K hK => ?_) (fun K hK => ?_)
             ·skip
              refine goes_ Try.func86 (by kernel_rfl) rfl #[.agg #[.int .u64 x219000_2, .int .u32 x219001_2, .slice Ao44 x219002_2.length co44], .int .i64 (rd l1 x36_2), .int .i64 x14_35, .bool a3] (by rfl) rfl rfl ls_ ?_
              with_reducible refine (gain_put.calls kj35 x219000_2 x219001_2 _ _ x219002_2 (rd l1 x36_2) x14_35 a3 t221 t222 t223 t226 _ ?side1 ?side2 A42.out).mono ?_
              (case side1 => repeat (first | exact (Kd.V_reads' HO_219002.out).2.2 | (with_reducible refine Kd.C_alloc ?_ _) | (with_reducible refine Kd.C_drewN ?_ _) | (with_reducible refine Kd.C_drew ?_)))
              (case side2 => exact (Kd.V_reads' HO_219002.out).2.1)
              rintro e w46 ⟨v224, rfl, ho0, hb⟩
              refine ⟨_, rfl, ?_⟩
              have n0_ := Am (Kd.V_elder' (kV HO_208002.out) (Kd.R_base ho0) hb)
              have n1_ := Am (Kd.R_elder' (kR HO_216002.out) (Kd.R_base ho0) hb)
              have n2_ := Am (Kd.V_elder' (kV HO_219002.out) (Kd.R_base ho0) hb)
              have n3_ := Am (Kd.R_lower (Kd.R_new' (Kd.R_newM (M := fun k_ => (w.heap.size ≤ k_)) ho0 (below_size (bB HB.out)) (fun k_ h_ => h_)) (Kd.R_lt (kR HO_216002.out))) (below_size (bB HB.out)))
              have n4_ := Am (blk_below (g := gb207) (o := .cells #[.int .u64 a0_0, .int .u32 a0_1, .slice A0_2 l0_2.length c0_2] 52 (0, 0)) (bK BK207.out) hb)
              have n5_ := Am (blk_below (g := gb208) (o := .cells #[.int .u64 x209000_2, .int .u32 x209001_2, .slice none 0 0] 52 (0, 0)) (bK BK208.out) hb)
              have n6_ := Am (blk_below (g := gb215) (o := .cells #[.int .u64 t209, .int .u32 t210, .slice Ao16 t211.length co16] 52 (0, 0)) (bK BK215.out) hb)
              have n7_ := Am (blk_below (g := gb218) (o := .cells #[.int .u64 x219000_2, .int .u32 x219001_2, .slice Ao44 x219002_2.length co44] 52 (0, 0)) (bK BK218.out) hb)
              have n8_ := Am (below_step (bB HB.out) hb)
              clear HO_208002
              clear HO_216002
              clear HO_219002
              clear BK207
              clear BK208
              clear BK215
              clear BK218
              clear HB
              have HO_208002 := n0_
              have HO_216002 := n1_
              have HO_219002 := n2_
              have HO225 := n3_
              have BK207 := n4_
              have BK208 := n5_
              have BK215 := n6_
              have BK218 := n7_
              have HB := n8_
              clear n0_ n1_ n2_ n3_ n4_ n5_ n6_ n7_ n8_
              (try clear hb)
              (try clear hb2)
              (try clear hk)
              (try clear hi)
              (try clear ho0)
              refine hK.out _ _ ⟨(blk_cell BK218.out 0).trans rfl, (blk_cell BK218.out 1).trans rfl, (blk_cell BK218.out 2).trans rfl, ((HB.out.cell (World.block_lt_of_cell? w _ hw220_0)).trans hw220_0)⟩ (fun hHeld => ?_)
              clear hK K
              refine norm_ (a' := ?_) ?_ ?_
              rotate_left
              ·show Act.put _ (some 53) _ = _
               simp only [Act.put, List.setIfInBounds_toArray, List.set_cons_zero, List.set_cons_succ, i64_w, i32_w]
               rfl
              refine pure_ (i := 8) (N := some 45) (v := ?_) (a' := ?_) #[true, true, true, true, true, true, true, true, true, false, false, false, false, false] rfl rfl (any_of HT_.out (by kernel_rfl)) (fun _ _ _ h => h) (Or.inl ⟨by rfl, ?_⟩) ?_ ?_
              rotate_left
              ·intro w'
               go_simp
               with_reducible rfl
              rotate_left
              ·simp only [Act.put, List.setIfInBounds_toArray, List.set_cons_zero, List.set_cons_succ, i64_w, i32_w]
               rfl
              refine pure_ (i := 9) (N := some 54) (v := ?_) (a' := ?_) #[true, true, true, true, true, true, true, true, true, true, false, false, false, false] rfl rfl (any_of HT_.out (by kernel_rfl)) (fun _ _ _ h => h) (Or.inl ⟨by rfl, ?_⟩) ?_ ?_
              rotate_left
              ·intro w'
               go_simp
               with_reducible rfl
              rotate_left
              ·simp only [Act.put, List.setIfInBounds_toArray, List.set_cons_zero, List.set_cons_succ, i64_w, i32_w]
               rfl
              refine pure_ (i := 10) (N := some 55) (v := ?_) (a' := ?_) #[true, true, true, true, true, true, true, true, true, true, true, false, false, false] rfl rfl (any_of HT_.out (by kernel_rfl)) (fun _ _ _ h => h) (Or.inl ⟨by rfl, ?_⟩) ?_ ?_
              rotate_left
              ·intro w'
               go_simp
               with_reducible rfl
              rotate_left
              ·simp only [Act.put, List.setIfInBounds_toArray, List.set_cons_zero, List.set_cons_succ, i64_w, i32_w]
               rfl
              refine one_ (i := 11) (N := some 15) #[true, true, true, true, true, true, true, true, true, true, true, true, false, false] rfl rfl (one_of HT_.out (by kernel_rfl)) (by decide) (fun K hK => ?_)
              refine box_step ?hg (N := 15) ?hd (cs := #[.int .u64 0, .int .u32 0, .slice none 0 0]) (t := 52) ?hr ?_; (case hd => rfl); (case hg => rfl); (case hr => first | (go_simp; done) | (go_simp; rfl))
              intro gb227 hg w47 hbox hb
              have n0_ := Am (Kd.V_below (Kd.V_elderB (kV HO_208002.out) gb227 (Nat.le_of_eq hg.symm)) hb)
              have n1_ := Am (Kd.R_below (kR HO_216002.out) hb)
              have n2_ := Am (Kd.V_below (Kd.V_elderB (kV HO_219002.out) gb227 (Nat.le_of_eq hg.symm)) hb)
              have n3_ := Am (Kd.R_below (kR HO225.out) hb)
              have n4_ := Am (blk_below (g := gb207) (o := .cells #[.int .u64 a0_0, .int .u32 a0_1, .slice A0_2 l0_2.length c0_2] 52 (0, 0)) (bK BK207.out) hb)
              have n5_ := Am (blk_below (g := gb208) (o := .cells #[.int .u64 x209000_2, .int .u32 x209001_2, .slice none 0 0] 52 (0, 0)) (bK BK208.out) hb)
              have n6_ := Am (blk_below (g := gb215) (o := .cells #[.int .u64 t209, .int .u32 t210, .slice Ao16 t211.length co16] 52 (0, 0)) (bK BK215.out) hb)
              have n7_ := Am (blk_below (g := gb218) (o := .cells #[.int .u64 x219000_2, .int .u32 x219001_2, .slice Ao44 x219002_2.length co44] 52 (0, 0)) (bK BK218.out) hb)
              have n8_ := Am (below_step (bB HB.out) hb)
              have n9_ := Am (hbox)
              have n10_ := Am ((by rw [hg]; exact (below_size (bB HB.out)) : w.heap.size ≤ gb227))
              have n11_ := Am ((by rw [hg]; exact (below_size (bB HB.out)) : w.heap.size ≤ gb227))
              have n12_ := Am ((by rw [hg]; exact Nat.ne_of_lt (blk_lt (g := gb207) (o := .cells #[.int .u64 a0_0, .int .u32 a0_1, .slice A0_2 l0_2.length c0_2] 52 (0, 0)) (bK BK207.out)) : gb207 ≠ gb227))
              have n13_ := Am ((by rw [hg]; exact Nat.ne_of_gt (blk_lt (g := gb207) (o := .cells #[.int .u64 a0_0, .int .u32 a0_1, .slice A0_2 l0_2.length c0_2] 52 (0, 0)) (bK BK207.out)) : gb227 ≠ gb207))
              have n14_ := Am ((by rw [hg]; exact Nat.ne_of_lt (blk_lt (g := gb208) (o := .cells #[.int .u64 x209000_2, .int .u32 x209001_2, .slice none 0 0] 52 (0, 0)) (bK BK208.out)) : gb208 ≠ gb227))
              have n15_ := Am ((by rw [hg]; exact Nat.ne_of_gt (blk_lt (g := gb208) (o := .cells #[.int .u64 x209000_2, .int .u32 x209001_2, .slice none 0 0] 52 (0, 0)) (bK BK208.out)) : gb227 ≠ gb208))
              have n16_ := Am ((by rw [hg]; exact Nat.ne_of_lt (blk_lt (g := gb215) (o := .cells #[.int .u64 t209, .int .u32 t210, .slice Ao16 t211.length co16] 52 (0, 0)) (bK BK215.out)) : gb215 ≠ gb227))
              have n17_ := Am ((by rw [hg]; exact Nat.ne_of_gt (blk_lt (g := gb215) (o := .cells #[.int .u64 t209, .int .u32 t210, .slice Ao16 t211.length co16] 52 (0, 0)) (bK BK215.out)) : gb227 ≠ gb215))
              have n18_ := Am ((by rw [hg]; exact Nat.ne_of_lt (blk_lt (g := gb218) (o := .cells #[.int .u64 x219000_2, .int .u32 x219001_2, .slice Ao44 x219002_2.length co44] 52 (0, 0)) (bK BK218.out)) : gb218 ≠ gb227))
              have n19_ := Am ((by rw [hg]; exact Nat.ne_of_gt (blk_lt (g := gb218) (o := .cells #[.int .u64 x219000_2, .int .u32 x219001_2, .slice Ao44 x219002_2.length co44] 52 (0, 0)) (bK BK218.out)) : gb227 ≠ gb218))
              clear HO_208002
              clear HO_216002
              clear HO_219002
              clear HO225
              clear BK207
              clear BK208
              clear BK215
              clear BK218
              clear HB
              have HO_208002 := n0_
              have HO_216002 := n1_
              have HO_219002 := n2_
              have HO225 := n3_
              have BK207 := n4_
              have BK208 := n5_
              have BK215 := n6_
              have BK218 := n7_
              have HB := n8_
              have BK227 := n9_
              have GW227 := n10_
              have GE227 := n11_
              have NB207_227 := n12_
              have NB227_207 := n13_
              have NB208_227 := n14_
              have NB227_208 := n15_
              have NB215_227 := n16_
              have NB227_215 := n17_
              have NB218_227 := n18_
              have NB227_218 := n19_
              clear n0_ n1_ n2_ n3_ n4_ n5_ n6_ n7_ n8_ n9_ n10_ n11_ n12_ n13_ n14_ n15_ n16_ n17_ n18_ n19_
              clear hb hbox hg
              refine hK.out _ _ ⟨(blk_cell BK218.out 0).trans rfl, (blk_cell BK218.out 1).trans rfl, (blk_cell BK218.out 2).trans rfl, ((HB.out.cell (World.block_lt_of_cell? w _ hw220_0)).trans hw220_0)⟩ (fun hHeld => ?_)
              clear hK K
              refine norm_ (a' := ?_) ?_ ?_
              rotate_left
              ·show Act.put _ (some 15) _ = _
               simp only [Act.put, List.setIfInBounds_toArray, List.set_cons_zero, List.set_cons_succ, i64_w, i32_w]
               rfl
              exact norm_ (by simp only [putAll, Act.put, List.setIfInBounds_toArray, List.set_cons_zero, List.set_cons_succ]) (hCont (v224, gb227) _ ⟨hHeld, (by (with_reducible repeat (first | apply Kd.R_alloc | apply Kd.R_drewN | apply Kd.R_drew)); exact Kd.R_mono HO225.out (fun _ hk => ⟨hk.1.1, hk.2⟩)), (by (with_reducible repeat (first | apply Kd.V_alloc | apply Kd.V_drewN | apply Kd.V_drew)); exact Kd.V_mono HO_208002.out (fun _ hk => ⟨hk.1.1.1, ⟨hk.1.2, ⟨hk.1.1.2.1, ⟨hk.1.1.2.2.1, ⟨hk.1.1.2.2.2.1, ⟨hk.1.1.2.2.2.2.1, ⟨hk.1.1.2.2.2.2.2, hk.2⟩⟩⟩⟩⟩⟩⟩)), (kR HO_216002.out), (by (with_reducible repeat (first | apply Kd.V_alloc | apply Kd.V_drewN | apply Kd.V_drew)); exact Kd.V_mono HO_219002.out (fun _ hk => ⟨hk.1.1.1, ⟨hk.1.2, ⟨hk.1.1.2.1, ⟨hk.1.1.2.2.1, ⟨hk.1.1.2.2.2.1, ⟨hk.1.1.2.2.2.2.1, ⟨hk.1.1.2.2.2.2.2, hk.2⟩⟩⟩⟩⟩⟩⟩)), (bK BK207.out), (bK BK208.out), (bK BK215.out), (bK BK218.out), (bK BK227.out), GW227.out, GE227.out, NB207_227.out, NB227_207.out, NB208_227.out, NB227_208.out, NB215_227.out, NB227_215.out, NB218_227.out, NB227_218.out, (bB HB.out)⟩)
             ·skip
              refine box_step ?hg (N := 15) ?hd (cs := #[.int .u64 0, .int .u32 0, .slice none 0 0]) (t := 52) ?hr ?_; (case hd => rfl); (case hg => rfl); (case hr => first | (go_simp; done) | (go_simp; rfl))
              intro gb227 hg w46 hbox hb
              have n0_ := Am (Kd.V_below (Kd.V_elderB (kV HO_208002.out) gb227 (Nat.le_of_eq hg.symm)) hb)
              have n1_ := Am (Kd.R_below (kR HO_216002.out) hb)
              have n2_ := Am (Kd.V_below (Kd.V_elderB (kV HO_219002.out) gb227 (Nat.le_of_eq hg.symm)) hb)
              have n3_ := Am (blk_below (g := gb207) (o := .cells #[.int .u64 a0_0, .int .u32 a0_1, .slice A0_2 l0_2.length c0_2] 52 (0, 0)) (bK BK207.out) hb)
              have n4_ := Am (blk_below (g := gb208) (o := .cells #[.int .u64 x209000_2, .int .u32 x209001_2, .slice none 0 0] 52 (0, 0)) (bK BK208.out) hb)
              have n5_ := Am (blk_below (g := gb215) (o := .cells #[.int .u64 t209, .int .u32 t210, .slice Ao16 t211.length co16] 52 (0, 0)) (bK BK215.out) hb)
              have n6_ := Am (blk_below (g := gb218) (o := .cells #[.int .u64 x219000_2, .int .u32 x219001_2, .slice Ao44 x219002_2.length co44] 52 (0, 0)) (bK BK218.out) hb)
              have n7_ := Am (below_step (bB HB.out) hb)
              have n8_ := Am (hbox)
              have n9_ := Am ((by rw [hg]; exact (below_size (bB HB.out)) : w.heap.size ≤ gb227))
              have n10_ := Am ((by rw [hg]; exact (below_size (bB HB.out)) : w.heap.size ≤ gb227))
              have n11_ := Am ((by rw [hg]; exact Nat.ne_of_lt (blk_lt (g := gb207) (o := .cells #[.int .u64 a0_0, .int .u32 a0_1, .slice A0_2 l0_2.length c0_2] 52 (0, 0)) (bK BK207.out)) : gb207 ≠ gb227))
              have n12_ := Am ((by rw [hg]; exact Nat.ne_of_gt (blk_lt (g := gb207) (o := .cells #[.int .u64 a0_0, .int .u32 a0_1, .slice A0_2 l0_2.length c0_2] 52 (0, 0)) (bK BK207.out)) : gb227 ≠ gb207))
              have n13_ := Am ((by rw [hg]; exact Nat.ne_of_lt (blk_lt (g := gb208) (o := .cells #[.int .u64 x209000_2, .int .u32 x209001_2, .slice none 0 0] 52 (0, 0)) (bK BK208.out)) : gb208 ≠ gb227))
              have n14_ := Am ((by rw [hg]; exact Nat.ne_of_gt (blk_lt (g := gb208) (o := .cells #[.int .u64 x209000_2, .int .u32 x209001_2, .slice none 0 0] 52 (0, 0)) (bK BK208.out)) : gb227 ≠ gb208))
              have n15_ := Am ((by rw [hg]; exact Nat.ne_of_lt (blk_lt (g := gb215) (o := .cells #[.int .u64 t209, .int .u32 t210, .slice Ao16 t211.length co16] 52 (0, 0)) (bK BK215.out)) : gb215 ≠ gb227))
              have n16_ := Am ((by rw [hg]; exact Nat.ne_of_gt (blk_lt (g := gb215) (o := .cells #[.int .u64 t209, .int .u32 t210, .slice Ao16 t211.length co16] 52 (0, 0)) (bK BK215.out)) : gb227 ≠ gb215))
              have n17_ := Am ((by rw [hg]; exact Nat.ne_of_lt (blk_lt (g := gb218) (o := .cells #[.int .u64 x219000_2, .int .u32 x219001_2, .slice Ao44 x219002_2.length co44] 52 (0, 0)) (bK BK218.out)) : gb218 ≠ gb227))
              have n18_ := Am ((by rw [hg]; exact Nat.ne_of_gt (blk_lt (g := gb218) (o := .cells #[.int .u64 x219000_2, .int .u32 x219001_2, .slice Ao44 x219002_2.length co44] 52 (0, 0)) (bK BK218.out)) : gb227 ≠ gb218))
              clear HO_208002
              clear HO_216002
              clear HO_219002
              clear BK207
              clear BK208
              clear BK215
              clear BK218
              clear HB
              have HO_208002 := n0_
              have HO_216002 := n1_
              have HO_219002 := n2_
              have BK207 := n3_
              have BK208 := n4_
              have BK215 := n5_
              have BK218 := n6_
              have HB := n7_
              have BK227 := n8_
              have GW227 := n9_
              have GE227 := n10_
              have NB207_227 := n11_
              have NB227_207 := n12_
              have NB208_227 := n13_
              have NB227_208 := n14_
              have NB215_227 := n15_
              have NB227_215 := n16_
              have NB218_227 := n17_
              have NB227_218 := n18_
              clear n0_ n1_ n2_ n3_ n4_ n5_ n6_ n7_ n8_ n9_ n10_ n11_ n12_ n13_ n14_ n15_ n16_ n17_ n18_
              clear hb hbox hg
              refine hK.out _ _ ⟨(blk_cell BK218.out 0).trans rfl, (blk_cell BK218.out 1).trans rfl, (blk_cell BK218.out 2).trans rfl, ((HB.out.cell (World.block_lt_of_cell? w _ hw220_0)).trans hw220_0)⟩ (fun hHeld => ?_)
              clear hK K
              refine norm_ (a' := ?_) ?_ ?_
              rotate_left
              ·show Act.put _ (some 15) _ = _
               simp only [Act.put, List.setIfInBounds_toArray, List.set_cons_zero, List.set_cons_succ, i64_w, i32_w]
               rfl
              refine one_ (i := 7) (N := some 53) #[true, true, true, true, true, true, true, true, false, false, false, true, false, false] rfl rfl (one_of HT_.out (by kernel_rfl)) (by decide) (fun K hK => ?_)
              refine goes_ Try.func86 (by kernel_rfl) rfl #[.agg #[.int .u64 x219000_2, .int .u32 x219001_2, .slice Ao44 x219002_2.length co44], .int .i64 (rd l1 x36_2), .int .i64 x14_35, .bool a3] (by rfl) rfl rfl ls_ ?_
              with_reducible refine (gain_put.calls kj35 x219000_2 x219001_2 _ _ x219002_2 (rd l1 x36_2) x14_35 a3 t221 t222 t223 t226 _ ?side1 ?side2 A42.out).mono ?_
              (case side1 => repeat (first | exact (Kd.V_reads' HO_219002.out).2.2 | (with_reducible refine Kd.C_alloc ?_ _) | (with_reducible refine Kd.C_drewN ?_ _) | (with_reducible refine Kd.C_drew ?_)))
              (case side2 => exact (Kd.V_reads' HO_219002.out).2.1)
              rintro e w47 ⟨v224, rfl, ho0, hb⟩
              refine ⟨_, rfl, ?_⟩
              have n0_ := Am (Kd.V_elder' (kV HO_208002.out) (Kd.R_base ho0) hb)
              have n1_ := Am (Kd.R_elder' (kR HO_216002.out) (Kd.R_base ho0) hb)
              have n2_ := Am (Kd.V_elder' (kV HO_219002.out) (Kd.R_base ho0) hb)
              have n3_ := Am (Kd.R_lower (Kd.R_new' (Kd.R_newM (M := fun k_ => (w.heap.size ≤ k_)) ho0 (below_size (bB HB.out)) (fun k_ h_ => h_)) (Kd.R_lt (kR HO_216002.out))) (below_size (bB HB.out)))
              have n4_ := Am (blk_below (g := gb207) (o := .cells #[.int .u64 a0_0, .int .u32 a0_1, .slice A0_2 l0_2.length c0_2] 52 (0, 0)) (bK BK207.out) hb)
              have n5_ := Am (blk_below (g := gb208) (o := .cells #[.int .u64 x209000_2, .int .u32 x209001_2, .slice none 0 0] 52 (0, 0)) (bK BK208.out) hb)
              have n6_ := Am (blk_below (g := gb215) (o := .cells #[.int .u64 t209, .int .u32 t210, .slice Ao16 t211.length co16] 52 (0, 0)) (bK BK215.out) hb)
              have n7_ := Am (blk_below (g := gb218) (o := .cells #[.int .u64 x219000_2, .int .u32 x219001_2, .slice Ao44 x219002_2.length co44] 52 (0, 0)) (bK BK218.out) hb)
              have n8_ := Am (blk_below (g := gb227) (o := .cells #[.int .u64 0, .int .u32 0, .slice none 0 0] 52 (0, 0)) (bK BK227.out) hb)
              have n9_ := Am (below_step (bB HB.out) hb)
              clear HO_208002
              clear HO_216002
              clear HO_219002
              clear BK207
              clear BK208
              clear BK215
              clear BK218
              clear BK227
              clear HB
              have HO_208002 := n0_
              have HO_216002 := n1_
              have HO_219002 := n2_
              have HO225 := n3_
              have BK207 := n4_
              have BK208 := n5_
              have BK215 := n6_
              have BK218 := n7_
              have BK227 := n8_
              have HB := n9_
              clear n0_ n1_ n2_ n3_ n4_ n5_ n6_ n7_ n8_ n9_
              (try clear hb)
              (try clear hb2)
              (try clear hk)
              (try clear hi)
              (try clear ho0)
              refine hK.out _ _ ⟨(blk_cell BK218.out 0).trans rfl, (blk_cell BK218.out 1).trans rfl, (blk_cell BK218.out 2).trans rfl, ((HB.out.cell (World.block_lt_of_cell? w _ hw220_0)).trans hw220_0)⟩ (fun hHeld => ?_)
              clear hK K
              refine norm_ (a' := ?_) ?_ ?_
              rotate_left
              ·show Act.put _ (some 53) _ = _
               simp only [Act.put, List.setIfInBounds_toArray, List.set_cons_zero, List.set_cons_succ, i64_w, i32_w]
               rfl
              refine pure_ (i := 8) (N := some 45) (v := ?_) (a' := ?_) #[true, true, true, true, true, true, true, true, true, false, false, true, false, false] rfl rfl (any_of HT_.out (by kernel_rfl)) (fun _ _ _ h => h) (Or.inl ⟨by rfl, ?_⟩) ?_ ?_
              rotate_left
              ·intro w'
               go_simp
               with_reducible rfl
              rotate_left
              ·simp only [Act.put, List.setIfInBounds_toArray, List.set_cons_zero, List.set_cons_succ, i64_w, i32_w]
               rfl
              refine pure_ (i := 9) (N := some 54) (v := ?_) (a' := ?_) #[true, true, true, true, true, true, true, true, true, true, false, true, false, false] rfl rfl (any_of HT_.out (by kernel_rfl)) (fun _ _ _ h => h) (Or.inl ⟨by rfl, ?_⟩) ?_ ?_
              rotate_left
              ·intro w'
               go_simp
               with_reducible rfl
              rotate_left
              ·simp only [Act.put, List.setIfInBounds_toArray, List.set_cons_zero, List.set_cons_succ, i64_w, i32_w]
               rfl
              refine pure_ (i := 10) (N := some 55) (v := ?_) (a' := ?_) #[true, true, true, true, true, true, true, true, true, true, true, true, false, false] rfl rfl (any_of HT_.out (by kernel_rfl)) (fun _ _ _ h => h) (Or.inl ⟨by rfl, ?_⟩) ?_ ?_
              rotate_left
              ·intro w'
               go_simp
               with_reducible rfl
              rotate_left
              ·simp only [Act.put, List.setIfInBounds_toArray, List.set_cons_zero, List.set_cons_succ, i64_w, i32_w]
               rfl
              exact norm_ (by simp only [putAll, Act.put, List.setIfInBounds_toArray, List.set_cons_zero, List.set_cons_succ]) (hCont (v224, gb227) _ ⟨hHeld, (by (with_reducible repeat (first | apply Kd.R_alloc | apply Kd.R_drewN | apply Kd.R_drew)); exact Kd.R_mono HO225.out (fun _ hk => ⟨hk.1.1, hk.2⟩)), (by (with_reducible repeat (first | apply Kd.V_alloc | apply Kd.V_drewN | apply Kd.V_drew)); exact Kd.V_mono HO_208002.out (fun _ hk => ⟨hk.1.1.1, ⟨hk.2, ⟨hk.1.1.2.1, ⟨hk.1.1.2.2.1, ⟨hk.1.1.2.2.2.1, ⟨hk.1.1.2.2.2.2.1, ⟨hk.1.1.2.2.2.2.2, hk.1.2⟩⟩⟩⟩⟩⟩⟩)), (kR HO_216002.out), (by (with_reducible repeat (first | apply Kd.V_alloc | apply Kd.V_drewN | apply Kd.V_drew)); exact Kd.V_mono HO_219002.out (fun _ hk => ⟨hk.1.1.1, ⟨hk.2, ⟨hk.1.1.2.1, ⟨hk.1.1.2.2.1, ⟨hk.1.1.2.2.2.1, ⟨hk.1.1.2.2.2.2.1, ⟨hk.1.1.2.2.2.2.2, hk.1.2⟩⟩⟩⟩⟩⟩⟩)), (bK BK207.out), (bK BK208.out), (bK BK215.out), (bK BK218.out), (bK BK227.out), GW227.out, GE227.out, NB207_227.out, NB227_207.out, NB208_227.out, NB227_208.out, NB215_227.out, NB227_215.out, NB218_227.out, NB227_218.out, (bB HB.out)⟩)
            rintro ⟨v224, gb227⟩ w48 ⟨hS_, h0_, h1_, h2_, h3_, h4_, h5_, h6_, h7_, h8_, h9_, h10_, h11_, h12_, h13_, h14_, h15_, h16_, h17_, h18_, h19_⟩
            have n0_ : Aside0 (Kd.R (Kd.int .u8) 5 w48 w.heap.size (fun k_ => (w.heap.size ≤ k_) ∧ some k_ ≠ (.slice Ao16 t211.length co16 : Value).ownBlock) v224 t223) := ⟨h0_⟩
            have n1_ : Aside0 (Kd.V (Kd.int .u8) 5 w48 w.heap.size (fun k_ => (P0_2_ k_ ∨ w.heap.size ≤ k_) ∧ some k_ ≠ (v224 : Value).ownBlock ∧ some k_ ≠ (.slice Ao16 t211.length co16 : Value).ownBlock ∧ k_ ≠ gb207 ∧ k_ ≠ gb208 ∧ k_ ≠ gb215 ∧ k_ ≠ gb218 ∧ k_ ≠ gb227) (.slice A0_2 l0_2.length c0_2) l0_2) := ⟨h1_⟩
            have n2_ : Aside0 (Kd.R (Kd.int .u8) 5 w48 w.heap.size (fun k_ => (w.heap.size ≤ k_) ∧ some k_ ≠ (v224 : Value).ownBlock) (.slice Ao16 t211.length co16) t211) := ⟨h2_⟩
            have n3_ : Aside0 (Kd.V (Kd.int .u8) 5 w48 w.heap.size (fun k_ => (P0_2_ k_ ∨ w.heap.size ≤ k_) ∧ some k_ ≠ (v224 : Value).ownBlock ∧ some k_ ≠ (.slice Ao16 t211.length co16 : Value).ownBlock ∧ k_ ≠ gb207 ∧ k_ ≠ gb208 ∧ k_ ≠ gb215 ∧ k_ ≠ gb218 ∧ k_ ≠ gb227) (.slice Ao44 x219002_2.length co44) x219002_2) := ⟨h3_⟩
            have n4_ : Aside0 (w48.heap[gb207]? = some (.cells #[.int .u64 a0_0, .int .u32 a0_1, .slice A0_2 l0_2.length c0_2] 52 (0, 0))) := ⟨h4_⟩
            have n5_ : Aside0 (w48.heap[gb208]? = some (.cells #[.int .u64 x209000_2, .int .u32 x209001_2, .slice none 0 0] 52 (0, 0))) := ⟨h5_⟩
            have n6_ : Aside0 (w48.heap[gb215]? = some (.cells #[.int .u64 t209, .int .u32 t210, .slice Ao16 t211.length co16] 52 (0, 0))) := ⟨h6_⟩
            have n7_ : Aside0 (w48.heap[gb218]? = some (.cells #[.int .u64 x219000_2, .int .u32 x219001_2, .slice Ao44 x219002_2.length co44] 52 (0, 0))) := ⟨h7_⟩
            have n8_ : Aside0 (w48.heap[gb227]? = some (.cells #[.int .u64 0, .int .u32 0, .slice none 0 0] 52 (0, 0))) := ⟨h8_⟩
            have n9_ : Aside0 (w.heap.size ≤ gb227) := ⟨h9_⟩
            have n10_ : Aside0 (w.heap.size ≤ gb227) := ⟨h10_⟩
            have n11_ : Aside0 (gb207 ≠ gb227) := ⟨h11_⟩
            have n12_ : Aside0 (gb227 ≠ gb207) := ⟨h12_⟩
            have n13_ : Aside0 (gb208 ≠ gb227) := ⟨h13_⟩
            have n14_ : Aside0 (gb227 ≠ gb208) := ⟨h14_⟩
            have n15_ : Aside0 (gb215 ≠ gb227) := ⟨h15_⟩
            have n16_ : Aside0 (gb227 ≠ gb215) := ⟨h16_⟩
            have n17_ : Aside0 (gb218 ≠ gb227) := ⟨h17_⟩
            have n18_ : Aside0 (gb227 ≠ gb218) := ⟨h18_⟩
            have n19_ : Aside0 (Below w.heap.size w w48) := ⟨h19_⟩
            clear HO_208002
            clear HO_216002
            clear HO_219002
            clear BK207
            clear BK208
            clear BK215
            clear BK218
            clear HB
            clear h0_ h1_ h2_ h3_ h4_ h5_ h6_ h7_ h8_ h9_ h10_ h11_ h12_ h13_ h14_ h15_ h16_ h17_ h18_ h19_
            have HO225 := n0_
            have HO_208002 := n1_
            have HO_216002 := n2_
            have HO_219002 := n3_
            have BK207 := n4_
            have BK208 := n5_
            have BK215 := n6_
            have BK218 := n7_
            have BK227 := n8_
            have GW227 := n9_
            have GE227 := n10_
            have NB207_227 := n11_
            have NB227_207 := n12_
            have NB208_227 := n13_
            have NB227_208 := n14_
            have NB215_227 := n15_
            have NB227_215 := n16_
            have NB218_227 := n17_
            have NB227_218 := n18_
            have HB := n19_
            clear n0_ n1_ n2_ n3_ n4_ n5_ n6_ n7_ n8_ n9_ n10_ n11_ n12_ n13_ n14_ n15_ n16_ n17_ n18_ n19_
            have hHeld : w48.cell? ⟨gb218, 0, none⟩ = some (.int .u64 x219000_2) ∧ w48.cell? ⟨gb218, 1, none⟩ = some (.int .u32 x219001_2) ∧ w48.cell? ⟨gb218, 2, none⟩ = some (.slice Ao44 x219002_2.length co44) ∧ w48.cell? (ad220.add (x36_2).toNat) = some (.int .i64 (rd l1 x36_2)) := hS_
            obtain ⟨Ao51, co51, eo51⟩ := Kd.R_slice HO225.out
            (first | subst eo51 | (injection eo51 with f1_ f2_ f3_; have f4_ := f1_.symm; have f5_ := f3_.symm; clear f1_ f2_ f3_; subst f4_; subst f5_))
            refine norm_ (a' := ?_) ?_ ?_
            rotate_left
            ·simp only [putAll, Act.put, List.setIfInBounds_toArray, List.set_cons_zero, List.set_cons_succ]
             rfl
            refine one_ (i := 12) (N := none) #[true, true, true, true, true, true, true, true, true, true, true, true, true, false] rfl rfl (one_of HT_.out (by kernel_rfl)) (by decide) (fun K hK => ?_)
            have hs49 : w48.cell? ⟨gb227, 0, none⟩ = some (.int .u64 0) := (blk_cell BK227.out 0).trans rfl
            have hfs49 := blk_frozen BK227.out 0
            have hns49_0 := NB207_227.out
            have hns49_1 := NB208_227.out
            have hns49_2 := NB215_227.out
            have hns49_3 := NB218_227.out
            have hms49_0 := NB227_207.out
            have hms49_1 := NB227_208.out
            have hms49_2 := NB227_215.out
            have hms49_3 := NB227_218.out
            have hs50 : w48.cell? ⟨gb227, 1, none⟩ = some (.int .u32 0) := (blk_cell BK227.out 1).trans rfl
            have hfs50 := blk_frozen BK227.out 1
            have hns50_0 := NB207_227.out
            have hns50_1 := NB208_227.out
            have hns50_2 := NB215_227.out
            have hns50_3 := NB218_227.out
            have hms50_0 := NB227_207.out
            have hms50_1 := NB227_208.out
            have hms50_2 := NB227_215.out
            have hms50_3 := NB227_218.out
            have hs52 : w48.cell? ⟨gb227, 2, none⟩ = some (.slice none 0 0) := (blk_cell BK227.out 2).trans rfl
            have hfs52 := blk_frozen BK227.out 2
            have hns52_0 := NB207_227.out
            have hns52_1 := NB208_227.out
            have hns52_2 := NB215_227.out
            have hns52_3 := NB218_227.out
            have hms52_0 := NB227_207.out
            have hms52_1 := NB227_208.out
            have hms52_2 := NB227_215.out
            have hms52_3 := NB227_218.out
            refine skip_ (w1 := ?_) (by rfl) rfl ?_ ?_
            rotate_left
            ·go_simp
             rfl
            refine hK.out _ _ ⟨((cell_far (p := ⟨gb227, _, none⟩) NB218_227.out _).trans (((cell_far (p := ⟨gb227, _, none⟩) NB218_227.out _).trans (((cell_far (p := ⟨gb227, _, none⟩) NB218_227.out _).trans (hHeld.1)))))), ((cell_far (p := ⟨gb227, _, none⟩) NB218_227.out _).trans (((cell_far (p := ⟨gb227, _, none⟩) NB218_227.out _).trans (((cell_far (p := ⟨gb227, _, none⟩) NB218_227.out _).trans (hHeld.2.1)))))), ((cell_far (p := ⟨gb227, _, none⟩) NB218_227.out _).trans (((cell_far (p := ⟨gb227, _, none⟩) NB218_227.out _).trans (((cell_far (p := ⟨gb227, _, none⟩) NB218_227.out _).trans (hHeld.2.2.1)))))), ((cell_far (p := ⟨gb227, _, none⟩) (by first | exact Nat.ne_of_lt (Nat.lt_of_lt_of_le (by have := World.block_lt_of_cell? _ _ hw220_0; first | rwa [add_block] at this | exact this) GW227.out) | (rw [add_block]; exact Nat.ne_of_lt (Nat.lt_of_lt_of_le (by have := World.block_lt_of_cell? _ _ hw220_0; first | rwa [add_block] at this | exact this) GW227.out)) | (show (Addr.add _ _).block ≠ _; rw [add_block]; exact Nat.ne_of_lt (Nat.lt_of_lt_of_le (by have := World.block_lt_of_cell? _ _ hw220_0; first | rwa [add_block] at this | exact this) GW227.out)) | (dsimp only; exact Nat.ne_of_lt (Nat.lt_of_lt_of_le (by have := World.block_lt_of_cell? _ _ hw220_0; first | rwa [add_block] at this | exact this) GW227.out))) _).trans (((cell_far (p := ⟨gb227, _, none⟩) (by first | exact Nat.ne_of_lt (Nat.lt_of_lt_of_le (by have := World.block_lt_of_cell? _ _ hw220_0; first | rwa [add_block] at this | exact this) GW227.out) | (rw [add_block]; exact Nat.ne_of_lt (Nat.lt_of_lt_of_le (by have := World.block_lt_of_cell? _ _ hw220_0; first | rwa [add_block] at this | exact this) GW227.out)) | (show (Addr.add _ _).block ≠ _; rw [add_block]; exact Nat.ne_of_lt (Nat.lt_of_lt_of_le (by have := World.block_lt_of_cell? _ _ hw220_0; first | rwa [add_block] at this | exact this) GW227.out)) | (dsimp only; exact Nat.ne_of_lt (Nat.lt_of_lt_of_le (by have := World.block_lt_of_cell? _ _ hw220_0; first | rwa [add_block] at this | exact this) GW227.out))) _).trans (((cell_far (p := ⟨gb227, _, none⟩) (by first | exact Nat.ne_of_lt (Nat.lt_of_lt_of_le (by have := World.block_lt_of_cell? _ _ hw220_0; first | rwa [add_block] at this | exact this) GW227.out) | (rw [add_block]; exact Nat.ne_of_lt (Nat.lt_of_lt_of_le (by have := World.block_lt_of_cell? _ _ hw220_0; first | rwa [add_block] at this | exact this) GW227.out)) | (show (Addr.add _ _).block ≠ _; rw [add_block]; exact Nat.ne_of_lt (Nat.lt_of_lt_of_le (by have := World.block_lt_of_cell? _ _ hw220_0; first | rwa [add_block] at this | exact this) GW227.out)) | (dsimp only; exact Nat.ne_of_lt (Nat.lt_of_lt_of_le (by have := World.block_lt_of_cell? _ _ hw220_0; first | rwa [add_block] at this | exact this) GW227.out))) _).trans (hHeld.2.2.2))))))⟩ (fun hHeld => ?_)
            clear hK K
            refine pure_ (i := 13) (N := some 16) (v := ?_) (a' := ?_) #[true, true, true, true, true, true, true, true, true, true, true, true, true, true] rfl rfl (any_of HT_.out (by kernel_rfl)) (fun _ _ _ h => h) (Or.inl ⟨by rfl, ?_⟩) ?_ ?_
            rotate_left
            ·intro w'
             go_simp
             with_reducible rfl
            rotate_left
            ·simp only [Act.put, List.setIfInBounds_toArray, List.set_cons_zero, List.set_cons_succ, i64_w, i32_w]
             rfl
            refine done_ (done_of HT_.out (by kernel_rfl)) ?_
            have hnb53 := NB227_207.out
            have hnc53 := NB207_227.out
            have hnb54 := NB227_208.out
            have hnc54 := NB208_227.out
            have hnb55 := NB227_215.out
            have hnc55 := NB215_227.out
            have hnb56 := NB227_218.out
            have hnc56 := NB218_227.out
            have hcz57_0 : w48.cell? ⟨gb227, 0, none⟩ = some (.int .u64 0) := (blk_cell BK227.out 0).trans rfl
            have hcz57_1 : w48.cell? ⟨gb227, 1, none⟩ = some (.int .u32 0) := (blk_cell BK227.out 1).trans rfl
            have hcz57_2 : w48.cell? ⟨gb227, 2, none⟩ = some (.slice none 0 0) := (blk_cell BK227.out 2).trans rfl
            have hfz57_0 := blk_frozen BK227.out 0
            have hfz57_1 := blk_frozen BK227.out 1
            have hfz57_2 := blk_frozen BK227.out 2
            have hnb58 := NB218_207.out
            have hnc58 := NB207_218.out
            have hnb59 := NB218_208.out
            have hnc59 := NB208_218.out
            have hnb60 := NB218_215.out
            have hnc60 := NB215_218.out
            have hcz61_0 : w48.cell? ⟨gb218, 0, none⟩ = some (.int .u64 x219000_2) := (blk_cell BK218.out 0).trans rfl
            have hcz61_1 : w48.cell? ⟨gb218, 1, none⟩ = some (.int .u32 x219001_2) := (blk_cell BK218.out 1).trans rfl
            have hcz61_2 : w48.cell? ⟨gb218, 2, none⟩ = some (.slice Ao44 x219002_2.length co44) := (blk_cell BK218.out 2).trans rfl
            have hfz61_0 := blk_frozen BK218.out 0
            have hfz61_1 := blk_frozen BK218.out 1
            have hfz61_2 := blk_frozen BK218.out 2
            try go_wp2
            go_roundg kj35
            case measure => have := HJ5.out; have := HK2.out; have := HJ35.out; omega
            case rel => exact ⟨(wrap64 (x36_2 + 1)), (x209000_2), (x209001_2), (t221), (t222), (t223), (.slice Ao51 t223.length co51), rs_, H', ⟨by have := HJ5.out; have := HK2.out; have := HJ35.out; omega⟩, ⟨by (with_reducible repeat (first | apply Kd.V_alloc | apply Kd.V_drewN | apply Kd.V_drew)); exact Kd.V_mono (Kd.V_far (p := ⟨gb218, 2, none⟩) (Kd.V_far (p := ⟨gb218, 1, none⟩) (Kd.V_far (p := ⟨gb218, 0, none⟩) (Kd.V_far (p := ⟨gb227, 2, none⟩) (Kd.V_far (p := ⟨gb227, 1, none⟩) (Kd.V_far (p := ⟨gb227, 0, none⟩) (Kd.V_mono (Kd.V_mono HO_208002.out (fun k_ hk => (⟨hk, hk.2.2.2.2.2.2.2⟩ : _ ∧ k_ ≠ gb227))) (fun k_ hk => (⟨hk, hk.1.2.2.2.2.2.2.1⟩ : _ ∧ k_ ≠ gb218))) (fun _ hk => hk.1.2) (.int .u64 t221)) (fun _ hk => hk.1.2) (.int .u32 t222)) (fun _ hk => hk.1.2) (.slice Ao51 t223.length co51)) (fun _ hk => hk.2) (.int .u64 t221)) (fun _ hk => hk.2) (.int .u32 t222)) (fun _ hk => hk.2) (.slice Ao51 t223.length co51)) (fun _ hk => ⟨hk.1.1.1, ⟨hk.1.1.2.2.1, ⟨hk.1.1.2.2.2.1, ⟨hk.1.1.2.2.2.2.1, ⟨hk.1.1.2.2.2.2.2.1, hk.1.1.2.2.2.2.2.2.1⟩⟩⟩⟩⟩)⟩, ⟨by (with_reducible repeat (first | apply Kd.R_alloc | apply Kd.R_drewN | apply Kd.R_drew)); exact Kd.R_mono (Kd.R_far (p := ⟨gb218, 2, none⟩) (Kd.R_far (p := ⟨gb218, 1, none⟩) (Kd.R_far (p := ⟨gb218, 0, none⟩) (Kd.R_far (p := ⟨gb227, 2, none⟩) (Kd.R_far (p := ⟨gb227, 1, none⟩) (Kd.R_far (p := ⟨gb227, 0, none⟩) (Kd.R_types (Kd.R_types HO_216002.out BK227.out (by decide)) BK218.out (by decide)) (fun _ hk => hk.1.2) (.int .u64 t221)) (fun _ hk => hk.1.2) (.int .u32 t222)) (fun _ hk => hk.1.2) (.slice Ao51 t223.length co51)) (fun _ hk => hk.2) (.int .u64 t221)) (fun _ hk => hk.2) (.int .u32 t222)) (fun _ hk => hk.2) (.slice Ao51 t223.length co51)) (fun _ hk => hk.1.1.1)⟩, ⟨(by (first | refine RVor w.heap.size ?_ | refine RVor1 w.heap.size ?_); (with_reducible repeat (first | apply Kd.R_alloc | apply Kd.R_drewN | apply Kd.R_drew)); exact Kd.R_mono (Kd.R_far (p := ⟨gb218, 2, none⟩) (Kd.R_far (p := ⟨gb218, 1, none⟩) (Kd.R_far (p := ⟨gb218, 0, none⟩) (Kd.R_far (p := ⟨gb227, 2, none⟩) (Kd.R_far (p := ⟨gb227, 1, none⟩) (Kd.R_far (p := ⟨gb227, 0, none⟩) (Kd.R_types (Kd.R_types (Kd.R_types (Kd.R_types (Kd.R_types (Kd.R_types HO225.out BK207.out (by decide)) BK208.out (by decide)) BK215.out (by decide)) BK218.out (by decide)) BK227.out (by decide)) BK218.out (by decide)) (fun _ hk => hk.1.2) (.int .u64 t221)) (fun _ hk => hk.1.2) (.int .u32 t222)) (fun _ hk => hk.1.2) (.slice Ao51 t223.length co51)) (fun _ hk => hk.2) (.int .u64 t221)) (fun _ hk => hk.2) (.int .u32 t222)) (fun _ hk => hk.2) (.slice Ao51 t223.length co51)) (fun _ hk => ⟨hk.1.1.1.1.1.1.1, ⟨hk.1.1.1.1.1.1.2, ⟨hk.1.1.1.1.1.2, ⟨hk.1.1.1.1.2, ⟨hk.1.1.1.2, hk.1.1.2⟩⟩⟩⟩⟩))⟩, ⟨by (with_reducible repeat (first | refine blk_drewN ?_ _ | refine blk_drew ?_ | refine blk_alloc ?_ _)); refine blk_far ?_ NB207_218.out _; (with_reducible repeat (first | refine blk_drewN ?_ _ | refine blk_drew ?_ | refine blk_alloc ?_ _)); refine blk_far ?_ NB207_218.out _; (with_reducible repeat (first | refine blk_drewN ?_ _ | refine blk_drew ?_ | refine blk_alloc ?_ _)); refine blk_far ?_ NB207_218.out _; (with_reducible repeat (first | refine blk_drewN ?_ _ | refine blk_drew ?_ | refine blk_alloc ?_ _)); refine blk_far ?_ NB207_227.out _; (with_reducible repeat (first | refine blk_drewN ?_ _ | refine blk_drew ?_ | refine blk_alloc ?_ _)); refine blk_far ?_ NB207_227.out _; (with_reducible repeat (first | refine blk_drewN ?_ _ | refine blk_drew ?_ | refine blk_alloc ?_ _)); refine blk_far ?_ NB207_227.out _; (with_reducible repeat (first | refine blk_drewN ?_ _ | refine blk_drew ?_ | refine blk_alloc ?_ _)); exact BK207.out⟩, ⟨by (with_reducible repeat (first | refine blk_drewN ?_ _ | refine blk_drew ?_ | refine blk_alloc ?_ _)); refine blk_far ?_ NB208_218.out _; (with_reducible repeat (first | refine blk_drewN ?_ _ | refine blk_drew ?_ | refine blk_alloc ?_ _)); refine blk_far ?_ NB208_218.out _; (with_reducible repeat (first | refine blk_drewN ?_ _ | refine blk_drew ?_ | refine blk_alloc ?_ _)); refine blk_far ?_ NB208_218.out _; (with_reducible repeat (first | refine blk_drewN ?_ _ | refine blk_drew ?_ | refine blk_alloc ?_ _)); refine blk_far ?_ NB208_227.out _; (with_reducible repeat (first | refine blk_drewN ?_ _ | refine blk_drew ?_ | refine blk_alloc ?_ _)); refine blk_far ?_ NB208_227.out _; (with_reducible repeat (first | refine blk_drewN ?_ _ | refine blk_drew ?_ | refine blk_alloc ?_ _)); refine blk_far ?_ NB208_227.out _; (with_reducible repeat (first | refine blk_drewN ?_ _ | refine blk_drew ?_ | refine blk_alloc ?_ _)); exact BK208.out⟩, ⟨by (with_reducible repeat (first | refine blk_drewN ?_ _ | refine blk_drew ?_ | refine blk_alloc ?_ _)); refine blk_far ?_ NB215_218.out _; (with_reducible repeat (first | refine blk_drewN ?_ _ | refine blk_drew ?_ | refine blk_alloc ?_ _)); refine blk_far ?_ NB215_218.out _; (with_reducible repeat (first | refine blk_drewN ?_ _ | refine blk_drew ?_ | refine blk_alloc ?_ _)); refine blk_far ?_ NB215_218.out _; (with_reducible repeat (first | refine blk_drewN ?_ _ | refine blk_drew ?_ | refine blk_alloc ?_ _)); refine blk_far ?_ NB215_227.out _; (with_reducible repeat (first | refine blk_drewN ?_ _ | refine blk_drew ?_ | refine blk_alloc ?_ _)); refine blk_far ?_ NB215_227.out _; (with_reducible repeat (first | refine blk_drewN ?_ _ | refine blk_drew ?_ | refine blk_alloc ?_ _)); refine blk_far ?_ NB215_227.out _; (with_reducible repeat (first | refine blk_drewN ?_ _ | refine blk_drew ?_ | refine blk_alloc ?_ _)); exact BK215.out⟩, ⟨by (with_reducible repeat (first | refine blk_drewN ?_ _ | refine blk_drew ?_ | refine blk_alloc ?_ _)); refine blk_put (cs := #[.int .u64 t221, .int .u32 t222, .slice Ao44 x219002_2.length co44]) ?_ 2 _ rfl; (with_reducible repeat (first | refine blk_drewN ?_ _ | refine blk_drew ?_ | refine blk_alloc ?_ _)); refine blk_put (cs := #[.int .u64 t221, .int .u32 x219001_2, .slice Ao44 x219002_2.length co44]) ?_ 1 _ rfl; (with_reducible repeat (first | refine blk_drewN ?_ _ | refine blk_drew ?_ | refine blk_alloc ?_ _)); refine blk_put (cs := #[.int .u64 x219000_2, .int .u32 x219001_2, .slice Ao44 x219002_2.length co44]) ?_ 0 _ rfl; (with_reducible repeat (first | refine blk_drewN ?_ _ | refine blk_drew ?_ | refine blk_alloc ?_ _)); refine blk_far ?_ NB218_227.out _; (with_reducible repeat (first | refine blk_drewN ?_ _ | refine blk_drew ?_ | refine blk_alloc ?_ _)); refine blk_far ?_ NB218_227.out _; (with_reducible repeat (first | refine blk_drewN ?_ _ | refine blk_drew ?_ | refine blk_alloc ?_ _)); refine blk_far ?_ NB218_227.out _; (with_reducible repeat (first | refine blk_drewN ?_ _ | refine blk_drew ?_ | refine blk_alloc ?_ _)); exact BK218.out⟩, ⟨bB HB.out⟩⟩
           ·rw [if_neg c43] at H
            have c43b0 : (t226 == 0) = false := beq_eq_false_iff_ne.mpr c43
            have c43b1 : (t226 != 0) = true := bne_iff_ne.mpr c43
            simp only [Option.some.injEq, Prod.mk.injEq] at H
            obtain ⟨rfl, rfl, rfl, rfl⟩ := H
            obtain ⟨Ao62, co62, eo62⟩ := Kd.V_slice HO_219002.out
            subst eo62
            try go_wp2
            have n0_ := Am (Kd.V_drew HO_208002.out)
            have n1_ := Am (Kd.R_drew HO_216002.out)
            have n2_ := Am (Kd.V_drew HO_219002.out)
            have n3_ := Am (blk_drew BK207.out)
            have n4_ := Am (blk_drew BK208.out)
            have n5_ := Am (blk_drew BK215.out)
            have n6_ := Am (blk_drew BK218.out)
            have n7_ := Am (below_drew1 HB.out)
            clear HO_208002
            clear HO_216002
            clear HO_219002
            clear BK207
            clear BK208
            clear BK215
            clear BK218
            clear HB
            have HO_208002 := n0_
            have HO_216002 := n1_
            have HO_219002 := n2_
            have BK207 := n3_
            have BK208 := n4_
            have BK215 := n5_
            have BK218 := n6_
            have HB := n7_
            clear n0_ n1_ n2_ n3_ n4_ n5_ n6_ n7_
            have p220 : 0 ≤ (x36_2 : Int) := of_decide_eq_true as_
            have q220 : x36_2 < (l1.length : Int) := of_decide_eq_true as_
            obtain ⟨ad220, e220, hx220_0⟩ := Kd.at_int HR1.out x36_2 p220 q220
            have hw220_0 := hx220_0
            cases e220
            replace hx220_0 := (HB.out.cell (World.block_lt_of_cell? w _ hx220_0)).trans hx220_0
            replace p220 := eq_true p220
            replace q220 := eq_true q220
            refine start_ (n := 14) (S := fun w' => w'.cell? ⟨gb218, 0, none⟩ = some (.int .u64 x219000_2) ∧ w'.cell? ⟨gb218, 1, none⟩ = some (.int .u32 x219001_2) ∧ w'.cell? ⟨gb218, 2, none⟩ = some (.slice Ao62 x219002_2.length co62) ∧ w'.cell? (ad220.add (x36_2).toNat) = some (.int .i64 (rd l1 x36_2))) (ds := []) #[false, false, false, false, false, false, false, false, false, false, false, false, false, false] (by kernel_rfl) rfl rfl ⟨(blk_cell BK218.out 0).trans rfl, (blk_cell BK218.out 1).trans rfl, (blk_cell BK218.out 2).trans rfl, ((HB.out.cell (World.block_lt_of_cell? w _ hw220_0)).trans hw220_0)⟩ (fun hHeld => ?_); refine with_tabW gain_Put.tab11 gain_Put.bits11 (fun HT_ HW_ => ?_)
            generalize wc.drew = w63 at HO_208002 HO_216002 HO_219002 BK207 BK208 BK215 BK218 HB hx220_0 hHeld ⊢
            refine pure_ (i := 1) (N := some 47) (v := ?_) (a' := ?_) #[false, true, false, false, false, false, false, false, false, false, false, false, false, false] rfl rfl (any_of HT_.out (by kernel_rfl)) (fun _ _ _ h => h) (Or.inl ⟨by rfl, ?_⟩) ?_ ?_
            rotate_left
            ·intro w'
             go_simp
             with_reducible rfl
            rotate_left
            ·simp only [Act.put, List.setIfInBounds_toArray, List.set_cons_zero, List.set_cons_succ, i64_w, i32_w]
             rfl
            refine pure_ (i := 2) (N := some 48) (v := ?_) (a' := ?_) #[false, true, true, false, false, false, false, false, false, false, false, false, false, false] rfl rfl (any_of HT_.out (by kernel_rfl)) (fun _ _ _ h => h) (Or.inl ⟨by rfl, ?_⟩) ?_ ?_
            rotate_left
            ·intro w'
             go_simp
             with_reducible rfl
            rotate_left
            ·simp only [Act.put, List.setIfInBounds_toArray, List.set_cons_zero, List.set_cons_succ, i64_w, i32_w]
             rfl
            refine pure_ (i := 3) (N := some 49) (v := ?_) (a' := ?_) #[false, true, true, true, false, false, false, false, false, false, false, false, false, false] rfl rfl (any_of HT_.out (by kernel_rfl)) (fun _ _ _ h => h) (Or.inl ⟨by rfl, ?_⟩) ?_ ?_
            rotate_left
            ·intro w'
             go_simp
             with_reducible rfl
            rotate_left
            ·simp only [Act.put, List.setIfInBounds_toArray, List.set_cons_zero, List.set_cons_succ, i64_w, i32_w]
             rfl
            refine pure_ (i := 5) (N := some 51) (v := ?_) (a' := ?_) #[false, true, true, true, false, true, false, false, false, false, false, false, false, false] rfl rfl (any_of HT_.out (by kernel_rfl)) (fun _ _ _ h => h) (Or.inl ⟨by rfl, ?_⟩) ?_ ?_
            rotate_left
            ·intro w'
             go_simp
             with_reducible rfl
            rotate_left
            ·simp only [Act.put, List.setIfInBounds_toArray, List.set_cons_zero, List.set_cons_succ, i64_w, i32_w]
             rfl
            refine pure_ (i := 6) (N := some 52) (v := ?_) (a' := ?_) #[false, true, true, true, false, true, true, false, false, false, false, false, false, false] rfl rfl (any_of HT_.out (by kernel_rfl)) (fun _ _ _ h => h) (Or.inl ⟨by rfl, ?_⟩) ?_ ?_
            rotate_left
            ·intro w'
             go_simp
             with_reducible rfl
            rotate_left
            ·simp only [Act.put, List.setIfInBounds_toArray, List.set_cons_zero, List.set_cons_succ, i64_w, i32_w]
             rfl
            refine take_ (i := 0) (N := some 46) (v := ?_) (a' := ?_) #[true, true, true, true, false, true, true, false, false, false, false, false, false, false] rfl rfl (take_ofW HT_.out HW_.out (by kernel_rfl)) (fun _ _ _ h => h) (Or.inl ⟨by rfl, ?_⟩) hHeld ?_ ?_
            rotate_left
            ·rintro w' ⟨s0, s1, s2, s3⟩
             go_simp
             with_reducible rfl
            rotate_left
            ·simp only [Act.put, List.setIfInBounds_toArray, List.set_cons_zero, List.set_cons_succ, i64_w, i32_w]
             rfl
            refine take_ (i := 4) (N := some 50) (v := ?_) (a' := ?_) #[true, true, true, true, true, true, true, false, false, false, false, false, false, false] rfl rfl (take_ofW HT_.out HW_.out (by kernel_rfl)) (fun _ _ _ h => h) (Or.inl ⟨by rfl, ?_⟩) hHeld ?_ ?_
            rotate_left
            ·rintro w' ⟨s0, s1, s2, s3⟩
             go_simp
             with_reducible rfl
            rotate_left
            ·simp only [Act.put, List.setIfInBounds_toArray, List.set_cons_zero, List.set_cons_succ, i64_w, i32_w]
             rfl
            refine join_ (σ := Value × Nat) 2 #[true, true, true, true, true, true, true, true, true, true, true, true, false, false] (fun s_ => [(53, .tuple #[.agg #[.int .u64 t221, .int .u32 t222, s_.1], .int .i64 t226]), (15, .pointer (some ⟨s_.2, 0, none⟩)), (45, .tuple #[.agg #[.int .u64 t221, .int .u32 t222, s_.1], .int .i64 t226]), (54, .agg #[.int .u64 t221, .int .u32 t222, s_.1]), (55, .int .i64 t226)]) (fun s_ w' => (w'.cell? ⟨gb218, 0, none⟩ = some (.int .u64 x219000_2) ∧ w'.cell? ⟨gb218, 1, none⟩ = some (.int .u32 x219001_2) ∧ w'.cell? ⟨gb218, 2, none⟩ = some (.slice Ao62 x219002_2.length co62) ∧ w'.cell? (ad220.add (x36_2).toNat) = some (.int .i64 (rd l1 x36_2))) ∧ (Kd.R (Kd.int .u8) 5 w' w.heap.size (fun k_ => (w.heap.size ≤ k_) ∧ some k_ ≠ (.slice Ao16 t211.length co16 : Value).ownBlock) s_.1 t223) ∧ (Kd.V (Kd.int .u8) 5 w' w.heap.size (fun k_ => (P0_2_ k_ ∨ w.heap.size ≤ k_) ∧ some k_ ≠ (s_.1 : Value).ownBlock ∧ some k_ ≠ (.slice Ao16 t211.length co16 : Value).ownBlock ∧ k_ ≠ gb207 ∧ k_ ≠ gb208 ∧ k_ ≠ gb215 ∧ k_ ≠ gb218 ∧ k_ ≠ s_.2) (.slice A0_2 l0_2.length c0_2) l0_2) ∧ (Kd.R (Kd.int .u8) 5 w' w.heap.size (fun k_ => (w.heap.size ≤ k_) ∧ some k_ ≠ (s_.1 : Value).ownBlock) (.slice Ao16 t211.length co16) t211) ∧ (Kd.V (Kd.int .u8) 5 w' w.heap.size (fun k_ => (P0_2_ k_ ∨ w.heap.size ≤ k_) ∧ some k_ ≠ (s_.1 : Value).ownBlock ∧ some k_ ≠ (.slice Ao16 t211.length co16 : Value).ownBlock ∧ k_ ≠ gb207 ∧ k_ ≠ gb208 ∧ k_ ≠ gb215 ∧ k_ ≠ gb218 ∧ k_ ≠ s_.2) (.slice Ao62 x219002_2.length co62) x219002_2) ∧ (w'.heap[gb207]? = some (.cells #[.int .u64 a0_0, .int .u32 a0_1, .slice A0_2 l0_2.length c0_2] 52 (0, 0))) ∧ (w'.heap[gb208]? = some (.cells #[.int .u64 x209000_2, .int .u32 x209001_2, .slice none 0 0] 52 (0, 0))) ∧ (w'.heap[gb215]? = some (.cells #[.int .u64 t209, .int .u32 t210, .slice Ao16 t211.length co16] 52 (0, 0))) ∧ (w'.heap[gb218]? = some (.cells #[.int .u64 x219000_2, .int .u32 x219001_2, .slice Ao62 x219002_2.length co62] 52 (0, 0))) ∧ (w'.heap[s_.2]? = some (.cells #[.int .u64 0, .int .u32 0, .slice none 0 0] 52 (0, 0))) ∧ (w.heap.size ≤ s_.2) ∧ (w.heap.size ≤ s_.2) ∧ (gb207 ≠ s_.2) ∧ (s_.2 ≠ gb207) ∧ (gb208 ≠ s_.2) ∧ (s_.2 ≠ gb208) ∧ (gb215 ≠ s_.2) ∧ (s_.2 ≠ gb215) ∧ (gb218 ≠ s_.2) ∧ (s_.2 ≠ gb218) ∧ (Below w.heap.size w w')) ?_ ?_
            rotate_left
            ·intro hCont
             refine two_ (i := 7) (j := 11) (Ni := some 53) (Nj := some 15) #[true, true, true, true, true, true, true, true, false, false, false, false, false, false] #[true, true, true, true, true, true, true, false, false, false, false, true, false, false] rfl rfl rfl rfl (two_of HT_.out (by kernel_rfl)) (by decide) (by decide) (fun K hK => ?_) (fun K hK => ?_)
             ·skip
              refine goes_ Try.func86 (by kernel_rfl) rfl #[.agg #[.int .u64 x219000_2, .int .u32 x219001_2, .slice Ao62 x219002_2.length co62], .int .i64 (rd l1 x36_2), .int .i64 x14_35, .bool a3] (by rfl) rfl rfl ls_ ?_
              with_reducible refine (gain_put.calls kj35 x219000_2 x219001_2 _ _ x219002_2 (rd l1 x36_2) x14_35 a3 t221 t222 t223 t226 _ ?side1 ?side2 A42.out).mono ?_
              (case side1 => repeat (first | exact (Kd.V_reads' HO_219002.out).2.2 | (with_reducible refine Kd.C_alloc ?_ _) | (with_reducible refine Kd.C_drewN ?_ _) | (with_reducible refine Kd.C_drew ?_)))
              (case side2 => exact (Kd.V_reads' HO_219002.out).2.1)
              rintro e w64 ⟨v224, rfl, ho0, hb⟩
              refine ⟨_, rfl, ?_⟩
              have n0_ := Am (Kd.V_elder' (kV HO_208002.out) (Kd.R_base ho0) hb)
              have n1_ := Am (Kd.R_elder' (kR HO_216002.out) (Kd.R_base ho0) hb)
              have n2_ := Am (Kd.V_elder' (kV HO_219002.out) (Kd.R_base ho0) hb)
              have n3_ := Am (Kd.R_lower (Kd.R_new' (Kd.R_newM (M := fun k_ => (w.heap.size ≤ k_)) ho0 (below_size (bB HB.out)) (fun k_ h_ => h_)) (Kd.R_lt (kR HO_216002.out))) (below_size (bB HB.out)))
              have n4_ := Am (blk_below (g := gb207) (o := .cells #[.int .u64 a0_0, .int .u32 a0_1, .slice A0_2 l0_2.length c0_2] 52 (0, 0)) (bK BK207.out) hb)
              have n5_ := Am (blk_below (g := gb208) (o := .cells #[.int .u64 x209000_2, .int .u32 x209001_2, .slice none 0 0] 52 (0, 0)) (bK BK208.out) hb)
              have n6_ := Am (blk_below (g := gb215) (o := .cells #[.int .u64 t209, .int .u32 t210, .slice Ao16 t211.length co16] 52 (0, 0)) (bK BK215.out) hb)
              have n7_ := Am (blk_below (g := gb218) (o := .cells #[.int .u64 x219000_2, .int .u32 x219001_2, .slice Ao62 x219002_2.length co62] 52 (0, 0)) (bK BK218.out) hb)
              have n8_ := Am (below_step (bB HB.out) hb)
              clear HO_208002
              clear HO_216002
              clear HO_219002
              clear BK207
              clear BK208
              clear BK215
              clear BK218
              clear HB
              have HO_208002 := n0_
              have HO_216002 := n1_
              have HO_219002 := n2_
              have HO225 := n3_
              have BK207 := n4_
              have BK208 := n5_
              have BK215 := n6_
              have BK218 := n7_
              have HB := n8_
              clear n0_ n1_ n2_ n3_ n4_ n5_ n6_ n7_ n8_
              (try clear hb)
              (try clear hb2)
              (try clear hk)
              (try clear hi)
              (try clear ho0)
              refine hK.out _ _ ⟨(blk_cell BK218.out 0).trans rfl, (blk_cell BK218.out 1).trans rfl, (blk_cell BK218.out 2).trans rfl, ((HB.out.cell (World.block_lt_of_cell? w _ hw220_0)).trans hw220_0)⟩ (fun hHeld => ?_)
              clear hK K
              refine norm_ (a' := ?_) ?_ ?_
              rotate_left
              ·show Act.put _ (some 53) _ = _
               simp only [Act.put, List.setIfInBounds_toArray, List.set_cons_zero, List.set_cons_succ, i64_w, i32_w]
               rfl
              refine pure_ (i := 8) (N := some 45) (v := ?_) (a' := ?_) #[true, true, true, true, true, true, true, true, true, false, false, false, false, false] rfl rfl (any_of HT_.out (by kernel_rfl)) (fun _ _ _ h => h) (Or.inl ⟨by rfl, ?_⟩) ?_ ?_
              rotate_left
              ·intro w'
               go_simp
               with_reducible rfl
              rotate_left
              ·simp only [Act.put, List.setIfInBounds_toArray, List.set_cons_zero, List.set_cons_succ, i64_w, i32_w]
               rfl
              refine pure_ (i := 9) (N := some 54) (v := ?_) (a' := ?_) #[true, true, true, true, true, true, true, true, true, true, false, false, false, false] rfl rfl (any_of HT_.out (by kernel_rfl)) (fun _ _ _ h => h) (Or.inl ⟨by rfl, ?_⟩) ?_ ?_
              rotate_left
              ·intro w'
               go_simp
               with_reducible rfl
              rotate_left
              ·simp only [Act.put, List.setIfInBounds_toArray, List.set_cons_zero, List.set_cons_succ, i64_w, i32_w]
               rfl
              refine pure_ (i := 10) (N := some 55) (v := ?_) (a' := ?_) #[true, true, true, true, true, true, true, true, true, true, true, false, false, false] rfl rfl (any_of HT_.out (by kernel_rfl)) (fun _ _ _ h => h) (Or.inl ⟨by rfl, ?_⟩) ?_ ?_
              rotate_left
              ·intro w'
               go_simp
               with_reducible rfl
              rotate_left
              ·simp only [Act.put, List.setIfInBounds_toArray, List.set_cons_zero, List.set_cons_succ, i64_w, i32_w]
               rfl
              refine one_ (i := 11) (N := some 15) #[true, true, true, true, true, true, true, true, true, true, true, true, false, false] rfl rfl (one_of HT_.out (by kernel_rfl)) (by decide) (fun K hK => ?_)
              refine box_step ?hg (N := 15) ?hd (cs := #[.int .u64 0, .int .u32 0, .slice none 0 0]) (t := 52) ?hr ?_; (case hd => rfl); (case hg => rfl); (case hr => first | (go_simp; done) | (go_simp; rfl))
              intro gb227 hg w65 hbox hb
              have n0_ := Am (Kd.V_below (Kd.V_elderB (kV HO_208002.out) gb227 (Nat.le_of_eq hg.symm)) hb)
              have n1_ := Am (Kd.R_below (kR HO_216002.out) hb)
              have n2_ := Am (Kd.V_below (Kd.V_elderB (kV HO_219002.out) gb227 (Nat.le_of_eq hg.symm)) hb)
              have n3_ := Am (Kd.R_below (kR HO225.out) hb)
              have n4_ := Am (blk_below (g := gb207) (o := .cells #[.int .u64 a0_0, .int .u32 a0_1, .slice A0_2 l0_2.length c0_2] 52 (0, 0)) (bK BK207.out) hb)
              have n5_ := Am (blk_below (g := gb208) (o := .cells #[.int .u64 x209000_2, .int .u32 x209001_2, .slice none 0 0] 52 (0, 0)) (bK BK208.out) hb)
              have n6_ := Am (blk_below (g := gb215) (o := .cells #[.int .u64 t209, .int .u32 t210, .slice Ao16 t211.length co16] 52 (0, 0)) (bK BK215.out) hb)
              have n7_ := Am (blk_below (g := gb218) (o := .cells #[.int .u64 x219000_2, .int .u32 x219001_2, .slice Ao62 x219002_2.length co62] 52 (0, 0)) (bK BK218.out) hb)
              have n8_ := Am (below_step (bB HB.out) hb)
              have n9_ := Am (hbox)
              have n10_ := Am ((by rw [hg]; exact (below_size (bB HB.out)) : w.heap.size ≤ gb227))
              have n11_ := Am ((by rw [hg]; exact (below_size (bB HB.out)) : w.heap.size ≤ gb227))
              have n12_ := Am ((by rw [hg]; exact Nat.ne_of_lt (blk_lt (g := gb207) (o := .cells #[.int .u64 a0_0, .int .u32 a0_1, .slice A0_2 l0_2.length c0_2] 52 (0, 0)) (bK BK207.out)) : gb207 ≠ gb227))
              have n13_ := Am ((by rw [hg]; exact Nat.ne_of_gt (blk_lt (g := gb207) (o := .cells #[.int .u64 a0_0, .int .u32 a0_1, .slice A0_2 l0_2.length c0_2] 52 (0, 0)) (bK BK207.out)) : gb227 ≠ gb207))
              have n14_ := Am ((by rw [hg]; exact Nat.ne_of_lt (blk_lt (g := gb208) (o := .cells #[.int .u64 x209000_2, .int .u32 x209001_2, .slice none 0 0] 52 (0, 0)) (bK BK208.out)) : gb208 ≠ gb227))
              have n15_ := Am ((by rw [hg]; exact Nat.ne_of_gt (blk_lt (g := gb208) (o := .cells #[.int .u64 x209000_2, .int .u32 x209001_2, .slice none 0 0] 52 (0, 0)) (bK BK208.out)) : gb227 ≠ gb208))
              have n16_ := Am ((by rw [hg]; exact Nat.ne_of_lt (blk_lt (g := gb215) (o := .cells #[.int .u64 t209, .int .u32 t210, .slice Ao16 t211.length co16] 52 (0, 0)) (bK BK215.out)) : gb215 ≠ gb227))
              have n17_ := Am ((by rw [hg]; exact Nat.ne_of_gt (blk_lt (g := gb215) (o := .cells #[.int .u64 t209, .int .u32 t210, .slice Ao16 t211.length co16] 52 (0, 0)) (bK BK215.out)) : gb227 ≠ gb215))
              have n18_ := Am ((by rw [hg]; exact Nat.ne_of_lt (blk_lt (g := gb218) (o := .cells #[.int .u64 x219000_2, .int .u32 x219001_2, .slice Ao62 x219002_2.length co62] 52 (0, 0)) (bK BK218.out)) : gb218 ≠ gb227))
              have n19_ := Am ((by rw [hg]; exact Nat.ne_of_gt (blk_lt (g := gb218) (o := .cells #[.int .u64 x219000_2, .int .u32 x219001_2, .slice Ao62 x219002_2.length co62] 52 (0, 0)) (bK BK218.out)) : gb227 ≠ gb218))
              clear HO_208002
              clear HO_216002
              clear HO_219002
              clear HO225
              clear BK207
              clear BK208
              clear BK215
              clear BK218
              clear HB
              have HO_208002 := n0_
              have HO_216002 := n1_
              have HO_219002 := n2_
              have HO225 := n3_
              have BK207 := n4_
              have BK208 := n5_
              have BK215 := n6_
              have BK218 := n7_
              have HB := n8_
              have BK227 := n9_
              have GW227 := n10_
              have GE227 := n11_
              have NB207_227 := n12_
              have NB227_207 := n13_
              have NB208_227 := n14_
              have NB227_208 := n15_
              have NB215_227 := n16_
              have NB227_215 := n17_
              have NB218_227 := n18_
              have NB227_218 := n19_
              clear n0_ n1_ n2_ n3_ n4_ n5_ n6_ n7_ n8_ n9_ n10_ n11_ n12_ n13_ n14_ n15_ n16_ n17_ n18_ n19_
              clear hb hbox hg
              refine hK.out _ _ ⟨(blk_cell BK218.out 0).trans rfl, (blk_cell BK218.out 1).trans rfl, (blk_cell BK218.out 2).trans rfl, ((HB.out.cell (World.block_lt_of_cell? w _ hw220_0)).trans hw220_0)⟩ (fun hHeld => ?_)
              clear hK K
              refine norm_ (a' := ?_) ?_ ?_
              rotate_left
              ·show Act.put _ (some 15) _ = _
               simp only [Act.put, List.setIfInBounds_toArray, List.set_cons_zero, List.set_cons_succ, i64_w, i32_w]
               rfl
              exact norm_ (by simp only [putAll, Act.put, List.setIfInBounds_toArray, List.set_cons_zero, List.set_cons_succ]) (hCont (v224, gb227) _ ⟨hHeld, (by (with_reducible repeat (first | apply Kd.R_alloc | apply Kd.R_drewN | apply Kd.R_drew)); exact Kd.R_mono HO225.out (fun _ hk => ⟨hk.1.1, hk.2⟩)), (by (with_reducible repeat (first | apply Kd.V_alloc | apply Kd.V_drewN | apply Kd.V_drew)); exact Kd.V_mono HO_208002.out (fun _ hk => ⟨hk.1.1.1, ⟨hk.1.2, ⟨hk.1.1.2.1, ⟨hk.1.1.2.2.1, ⟨hk.1.1.2.2.2.1, ⟨hk.1.1.2.2.2.2.1, ⟨hk.1.1.2.2.2.2.2, hk.2⟩⟩⟩⟩⟩⟩⟩)), (kR HO_216002.out), (by (with_reducible repeat (first | apply Kd.V_alloc | apply Kd.V_drewN | apply Kd.V_drew)); exact Kd.V_mono HO_219002.out (fun _ hk => ⟨hk.1.1.1, ⟨hk.1.2, ⟨hk.1.1.2.1, ⟨hk.1.1.2.2.1, ⟨hk.1.1.2.2.2.1, ⟨hk.1.1.2.2.2.2.1, ⟨hk.1.1.2.2.2.2.2, hk.2⟩⟩⟩⟩⟩⟩⟩)), (bK BK207.out), (bK BK208.out), (bK BK215.out), (bK BK218.out), (bK BK227.out), GW227.out, GE227.out, NB207_227.out, NB227_207.out, NB208_227.out, NB227_208.out, NB215_227.out, NB227_215.out, NB218_227.out, NB227_218.out, (bB HB.out)⟩)
             ·skip
              refine box_step ?hg (N := 15) ?hd (cs := #[.int .u64 0, .int .u32 0, .slice none 0 0]) (t := 52) ?hr ?_; (case hd => rfl); (case hg => rfl); (case hr => first | (go_simp; done) | (go_simp; rfl))
              intro gb227 hg w64 hbox hb
              have n0_ := Am (Kd.V_below (Kd.V_elderB (kV HO_208002.out) gb227 (Nat.le_of_eq hg.symm)) hb)
              have n1_ := Am (Kd.R_below (kR HO_216002.out) hb)
              have n2_ := Am (Kd.V_below (Kd.V_elderB (kV HO_219002.out) gb227 (Nat.le_of_eq hg.symm)) hb)
              have n3_ := Am (blk_below (g := gb207) (o := .cells #[.int .u64 a0_0, .int .u32 a0_1, .slice A0_2 l0_2.length c0_2] 52 (0, 0)) (bK BK207.out) hb)
              have n4_ := Am (blk_below (g := gb208) (o := .cells #[.int .u64 x209000_2, .int .u32 x209001_2, .slice none 0 0] 52 (0, 0)) (bK BK208.out) hb)
              have n5_ := Am (blk_below (g := gb215) (o := .cells #[.int .u64 t209, .int .u32 t210, .slice Ao16 t211.length co16] 52 (0, 0)) (bK BK215.out) hb)
              have n6_ := Am (blk_below (g := gb218) (o := .cells #[.int .u64 x219000_2, .int .u32 x219001_2, .slice Ao62 x219002_2.length co62] 52 (0, 0)) (bK BK218.out) hb)
              have n7_ := Am (below_step (bB HB.out) hb)
              have n8_ := Am (hbox)
              have n9_ := Am ((by rw [hg]; exact (below_size (bB HB.out)) : w.heap.size ≤ gb227))
              have n10_ := Am ((by rw [hg]; exact (below_size (bB HB.out)) : w.heap.size ≤ gb227))
              have n11_ := Am ((by rw [hg]; exact Nat.ne_of_lt (blk_lt (g := gb207) (o := .cells #[.int .u64 a0_0, .int .u32 a0_1, .slice A0_2 l0_2.length c0_2] 52 (0, 0)) (bK BK207.out)) : gb207 ≠ gb227))
              have n12_ := Am ((by rw [hg]; exact Nat.ne_of_gt (blk_lt (g := gb207) (o := .cells #[.int .u64 a0_0, .int .u32 a0_1, .slice A0_2 l0_2.length c0_2] 52 (0, 0)) (bK BK207.out)) : gb227 ≠ gb207))
              have n13_ := Am ((by rw [hg]; exact Nat.ne_of_lt (blk_lt (g := gb208) (o := .cells #[.int .u64 x209000_2, .int .u32 x209001_2, .slice none 0 0] 52 (0, 0)) (bK BK208.out)) : gb208 ≠ gb227))
              have n14_ := Am ((by rw [hg]; exact Nat.ne_of_gt (blk_lt (g := gb208) (o := .cells #[.int .u64 x209000_2, .int .u32 x209001_2, .slice none 0 0] 52 (0, 0)) (bK BK208.out)) : gb227 ≠ gb208))
              have n15_ := Am ((by rw [hg]; exact Nat.ne_of_lt (blk_lt (g := gb215) (o := .cells #[.int .u64 t209, .int .u32 t210, .slice Ao16 t211.length co16] 52 (0, 0)) (bK BK215.out)) : gb215 ≠ gb227))
              have n16_ := Am ((by rw [hg]; exact Nat.ne_of_gt (blk_lt (g := gb215) (o := .cells #[.int .u64 t209, .int .u32 t210, .slice Ao16 t211.length co16] 52 (0, 0)) (bK BK215.out)) : gb227 ≠ gb215))
              have n17_ := Am ((by rw [hg]; exact Nat.ne_of_lt (blk_lt (g := gb218) (o := .cells #[.int .u64 x219000_2, .int .u32 x219001_2, .slice Ao62 x219002_2.length co62] 52 (0, 0)) (bK BK218.out)) : gb218 ≠ gb227))
              have n18_ := Am ((by rw [hg]; exact Nat.ne_of_gt (blk_lt (g := gb218) (o := .cells #[.int .u64 x219000_2, .int .u32 x219001_2, .slice Ao62 x219002_2.length co62] 52 (0, 0)) (bK BK218.out)) : gb227 ≠ gb218))
              clear HO_208002
              clear HO_216002
              clear HO_219002
              clear BK207
              clear BK208
              clear BK215
              clear BK218
              clear HB
              have HO_208002 := n0_
              have HO_216002 := n1_
              have HO_219002 := n2_
              have BK207 := n3_
              have BK208 := n4_
              have BK215 := n5_
              have BK218 := n6_
              have HB := n7_
              have BK227 := n8_
              have GW227 := n9_
              have GE227 := n10_
              have NB207_227 := n11_
              have NB227_207 := n12_
              have NB208_227 := n13_
              have NB227_208 := n14_
              have NB215_227 := n15_
              have NB227_215 := n16_
              have NB218_227 := n17_
              have NB227_218 := n18_
              clear n0_ n1_ n2_ n3_ n4_ n5_ n6_ n7_ n8_ n9_ n10_ n11_ n12_ n13_ n14_ n15_ n16_ n17_ n18_
              clear hb hbox hg
              refine hK.out _ _ ⟨(blk_cell BK218.out 0).trans rfl, (blk_cell BK218.out 1).trans rfl, (blk_cell BK218.out 2).trans rfl, ((HB.out.cell (World.block_lt_of_cell? w _ hw220_0)).trans hw220_0)⟩ (fun hHeld => ?_)
              clear hK K
              refine norm_ (a' := ?_) ?_ ?_
              rotate_left
              ·show Act.put _ (some 15) _ = _
               simp only [Act.put, List.setIfInBounds_toArray, List.set_cons_zero, List.set_cons_succ, i64_w, i32_w]
               rfl
              refine one_ (i := 7) (N := some 53) #[true, true, true, true, true, true, true, true, false, false, false, true, false, false] rfl rfl (one_of HT_.out (by kernel_rfl)) (by decide) (fun K hK => ?_)
              refine goes_ Try.func86 (by kernel_rfl) rfl #[.agg #[.int .u64 x219000_2, .int .u32 x219001_2, .slice Ao62 x219002_2.length co62], .int .i64 (rd l1 x36_2), .int .i64 x14_35, .bool a3] (by rfl) rfl rfl ls_ ?_
              with_reducible refine (gain_put.calls kj35 x219000_2 x219001_2 _ _ x219002_2 (rd l1 x36_2) x14_35 a3 t221 t222 t223 t226 _ ?side1 ?side2 A42.out).mono ?_
              (case side1 => repeat (first | exact (Kd.V_reads' HO_219002.out).2.2 | (with_reducible refine Kd.C_alloc ?_ _) | (with_reducible refine Kd.C_drewN ?_ _) | (with_reducible refine Kd.C_drew ?_)))
              (case side2 => exact (Kd.V_reads' HO_219002.out).2.1)
              rintro e w65 ⟨v224, rfl, ho0, hb⟩
              refine ⟨_, rfl, ?_⟩
              have n0_ := Am (Kd.V_elder' (kV HO_208002.out) (Kd.R_base ho0) hb)
              have n1_ := Am (Kd.R_elder' (kR HO_216002.out) (Kd.R_base ho0) hb)
              have n2_ := Am (Kd.V_elder' (kV HO_219002.out) (Kd.R_base ho0) hb)
              have n3_ := Am (Kd.R_lower (Kd.R_new' (Kd.R_newM (M := fun k_ => (w.heap.size ≤ k_)) ho0 (below_size (bB HB.out)) (fun k_ h_ => h_)) (Kd.R_lt (kR HO_216002.out))) (below_size (bB HB.out)))
              have n4_ := Am (blk_below (g := gb207) (o := .cells #[.int .u64 a0_0, .int .u32 a0_1, .slice A0_2 l0_2.length c0_2] 52 (0, 0)) (bK BK207.out) hb)
              have n5_ := Am (blk_below (g := gb208) (o := .cells #[.int .u64 x209000_2, .int .u32 x209001_2, .slice none 0 0] 52 (0, 0)) (bK BK208.out) hb)
              have n6_ := Am (blk_below (g := gb215) (o := .cells #[.int .u64 t209, .int .u32 t210, .slice Ao16 t211.length co16] 52 (0, 0)) (bK BK215.out) hb)
              have n7_ := Am (blk_below (g := gb218) (o := .cells #[.int .u64 x219000_2, .int .u32 x219001_2, .slice Ao62 x219002_2.length co62] 52 (0, 0)) (bK BK218.out) hb)
              have n8_ := Am (blk_below (g := gb227) (o := .cells #[.int .u64 0, .int .u32 0, .slice none 0 0] 52 (0, 0)) (bK BK227.out) hb)
              have n9_ := Am (below_step (bB HB.out) hb)
              clear HO_208002
              clear HO_216002
              clear HO_219002
              clear BK207
              clear BK208
              clear BK215
              clear BK218
              clear BK227
              clear HB
              have HO_208002 := n0_
              have HO_216002 := n1_
              have HO_219002 := n2_
              have HO225 := n3_
              have BK207 := n4_
              have BK208 := n5_
              have BK215 := n6_
              have BK218 := n7_
              have BK227 := n8_
              have HB := n9_
              clear n0_ n1_ n2_ n3_ n4_ n5_ n6_ n7_ n8_ n9_
              (try clear hb)
              (try clear hb2)
              (try clear hk)
              (try clear hi)
              (try clear ho0)
              refine hK.out _ _ ⟨(blk_cell BK218.out 0).trans rfl, (blk_cell BK218.out 1).trans rfl, (blk_cell BK218.out 2).trans rfl, ((HB.out.cell (World.block_lt_of_cell? w _ hw220_0)).trans hw220_0)⟩ (fun hHeld => ?_)
              clear hK K
              refine norm_ (a' := ?_) ?_ ?_
              rotate_left
              ·show Act.put _ (some 53) _ = _
               simp only [Act.put, List.setIfInBounds_toArray, List.set_cons_zero, List.set_cons_succ, i64_w, i32_w]
               rfl
              refine pure_ (i := 8) (N := some 45) (v := ?_) (a' := ?_) #[true, true, true, true, true, true, true, true, true, false, false, true, false, false] rfl rfl (any_of HT_.out (by kernel_rfl)) (fun _ _ _ h => h) (Or.inl ⟨by rfl, ?_⟩) ?_ ?_
              rotate_left
              ·intro w'
               go_simp
               with_reducible rfl
              rotate_left
              ·simp only [Act.put, List.setIfInBounds_toArray, List.set_cons_zero, List.set_cons_succ, i64_w, i32_w]
               rfl
              refine pure_ (i := 9) (N := some 54) (v := ?_) (a' := ?_) #[true, true, true, true, true, true, true, true, true, true, false, true, false, false] rfl rfl (any_of HT_.out (by kernel_rfl)) (fun _ _ _ h => h) (Or.inl ⟨by rfl, ?_⟩) ?_ ?_
              rotate_left
              ·intro w'
               go_simp
               with_reducible rfl
              rotate_left
              ·simp only [Act.put, List.setIfInBounds_toArray, List.set_cons_zero, List.set_cons_succ, i64_w, i32_w]
               rfl
              refine pure_ (i := 10) (N := some 55) (v := ?_) (a' := ?_) #[true, true, true, true, true, true, true, true, true, true, true, true, false, false] rfl rfl (any_of HT_.out (by kernel_rfl)) (fun _ _ _ h => h) (Or.inl ⟨by rfl, ?_⟩) ?_ ?_
              rotate_left
              ·intro w'
               go_simp
               with_reducible rfl
              rotate_left
              ·simp only [Act.put, List.setIfInBounds_toArray, List.set_cons_zero, List.set_cons_succ, i64_w, i32_w]
               rfl
              exact norm_ (by simp only [putAll, Act.put, List.setIfInBounds_toArray, List.set_cons_zero, List.set_cons_succ]) (hCont (v224, gb227) _ ⟨hHeld, (by (with_reducible repeat (first | apply Kd.R_alloc | apply Kd.R_drewN | apply Kd.R_drew)); exact Kd.R_mono HO225.out (fun _ hk => ⟨hk.1.1, hk.2⟩)), (by (with_reducible repeat (first | apply Kd.V_alloc | apply Kd.V_drewN | apply Kd.V_drew)); exact Kd.V_mono HO_208002.out (fun _ hk => ⟨hk.1.1.1, ⟨hk.2, ⟨hk.1.1.2.1, ⟨hk.1.1.2.2.1, ⟨hk.1.1.2.2.2.1, ⟨hk.1.1.2.2.2.2.1, ⟨hk.1.1.2.2.2.2.2, hk.1.2⟩⟩⟩⟩⟩⟩⟩)), (kR HO_216002.out), (by (with_reducible repeat (first | apply Kd.V_alloc | apply Kd.V_drewN | apply Kd.V_drew)); exact Kd.V_mono HO_219002.out (fun _ hk => ⟨hk.1.1.1, ⟨hk.2, ⟨hk.1.1.2.1, ⟨hk.1.1.2.2.1, ⟨hk.1.1.2.2.2.1, ⟨hk.1.1.2.2.2.2.1, ⟨hk.1.1.2.2.2.2.2, hk.1.2⟩⟩⟩⟩⟩⟩⟩)), (bK BK207.out), (bK BK208.out), (bK BK215.out), (bK BK218.out), (bK BK227.out), GW227.out, GE227.out, NB207_227.out, NB227_207.out, NB208_227.out, NB227_208.out, NB215_227.out, NB227_215.out, NB218_227.out, NB227_218.out, (bB HB.out)⟩)
            rintro ⟨v224, gb227⟩ w66 ⟨hS_, h0_, h1_, h2_, h3_, h4_, h5_, h6_, h7_, h8_, h9_, h10_, h11_, h12_, h13_, h14_, h15_, h16_, h17_, h18_, h19_⟩
            have n0_ : Aside0 (Kd.R (Kd.int .u8) 5 w66 w.heap.size (fun k_ => (w.heap.size ≤ k_) ∧ some k_ ≠ (.slice Ao16 t211.length co16 : Value).ownBlock) v224 t223) := ⟨h0_⟩
            have n1_ : Aside0 (Kd.V (Kd.int .u8) 5 w66 w.heap.size (fun k_ => (P0_2_ k_ ∨ w.heap.size ≤ k_) ∧ some k_ ≠ (v224 : Value).ownBlock ∧ some k_ ≠ (.slice Ao16 t211.length co16 : Value).ownBlock ∧ k_ ≠ gb207 ∧ k_ ≠ gb208 ∧ k_ ≠ gb215 ∧ k_ ≠ gb218 ∧ k_ ≠ gb227) (.slice A0_2 l0_2.length c0_2) l0_2) := ⟨h1_⟩
            have n2_ : Aside0 (Kd.R (Kd.int .u8) 5 w66 w.heap.size (fun k_ => (w.heap.size ≤ k_) ∧ some k_ ≠ (v224 : Value).ownBlock) (.slice Ao16 t211.length co16) t211) := ⟨h2_⟩
            have n3_ : Aside0 (Kd.V (Kd.int .u8) 5 w66 w.heap.size (fun k_ => (P0_2_ k_ ∨ w.heap.size ≤ k_) ∧ some k_ ≠ (v224 : Value).ownBlock ∧ some k_ ≠ (.slice Ao16 t211.length co16 : Value).ownBlock ∧ k_ ≠ gb207 ∧ k_ ≠ gb208 ∧ k_ ≠ gb215 ∧ k_ ≠ gb218 ∧ k_ ≠ gb227) (.slice Ao62 x219002_2.length co62) x219002_2) := ⟨h3_⟩
            have n4_ : Aside0 (w66.heap[gb207]? = some (.cells #[.int .u64 a0_0, .int .u32 a0_1, .slice A0_2 l0_2.length c0_2] 52 (0, 0))) := ⟨h4_⟩
            have n5_ : Aside0 (w66.heap[gb208]? = some (.cells #[.int .u64 x209000_2, .int .u32 x209001_2, .slice none 0 0] 52 (0, 0))) := ⟨h5_⟩
            have n6_ : Aside0 (w66.heap[gb215]? = some (.cells #[.int .u64 t209, .int .u32 t210, .slice Ao16 t211.length co16] 52 (0, 0))) := ⟨h6_⟩
            have n7_ : Aside0 (w66.heap[gb218]? = some (.cells #[.int .u64 x219000_2, .int .u32 x219001_2, .slice Ao62 x219002_2.length co62] 52 (0, 0))) := ⟨h7_⟩
            have n8_ : Aside0 (w66.heap[gb227]? = some (.cells #[.int .u64 0, .int .u32 0, .slice none 0 0] 52 (0, 0))) := ⟨h8_⟩
            have n9_ : Aside0 (w.heap.size ≤ gb227) := ⟨h9_⟩
            have n10_ : Aside0 (w.heap.size ≤ gb227) := ⟨h10_⟩
            have n11_ : Aside0 (gb207 ≠ gb227) := ⟨h11_⟩
            have n12_ : Aside0 (gb227 ≠ gb207) := ⟨h12_⟩
            have n13_ : Aside0 (gb208 ≠ gb227) := ⟨h13_⟩
            have n14_ : Aside0 (gb227 ≠ gb208) := ⟨h14_⟩
            have n15_ : Aside0 (gb215 ≠ gb227) := ⟨h15_⟩
            have n16_ : Aside0 (gb227 ≠ gb215) := ⟨h16_⟩
            have n17_ : Aside0 (gb218 ≠ gb227) := ⟨h17_⟩
            have n18_ : Aside0 (gb227 ≠ gb218) := ⟨h18_⟩
            have n19_ : Aside0 (Below w.heap.size w w66) := ⟨h19_⟩
            clear HO_208002
            clear HO_216002
            clear HO_219002
            clear BK207
            clear BK208
            clear BK215
            clear BK218
            clear HB
            clear h0_ h1_ h2_ h3_ h4_ h5_ h6_ h7_ h8_ h9_ h10_ h11_ h12_ h13_ h14_ h15_ h16_ h17_ h18_ h19_
            have HO225 := n0_
            have HO_208002 := n1_
            have HO_216002 := n2_
            have HO_219002 := n3_
            have BK207 := n4_
            have BK208 := n5_
            have BK215 := n6_
            have BK218 := n7_
            have BK227 := n8_
            have GW227 := n9_
            have GE227 := n10_
            have NB207_227 := n11_
            have NB227_207 := n12_
            have NB208_227 := n13_
            have NB227_208 := n14_
            have NB215_227 := n15_
            have NB227_215 := n16_
            have NB218_227 := n17_
            have NB227_218 := n18_
            have HB := n19_
            clear n0_ n1_ n2_ n3_ n4_ n5_ n6_ n7_ n8_ n9_ n10_ n11_ n12_ n13_ n14_ n15_ n16_ n17_ n18_ n19_
            have hHeld : w66.cell? ⟨gb218, 0, none⟩ = some (.int .u64 x219000_2) ∧ w66.cell? ⟨gb218, 1, none⟩ = some (.int .u32 x219001_2) ∧ w66.cell? ⟨gb218, 2, none⟩ = some (.slice Ao62 x219002_2.length co62) ∧ w66.cell? (ad220.add (x36_2).toNat) = some (.int .i64 (rd l1 x36_2)) := hS_
            obtain ⟨Ao69, co69, eo69⟩ := Kd.R_slice HO225.out
            (first | subst eo69 | (injection eo69 with f1_ f2_ f3_; have f4_ := f1_.symm; have f5_ := f3_.symm; clear f1_ f2_ f3_; subst f4_; subst f5_))
            refine norm_ (a' := ?_) ?_ ?_
            rotate_left
            ·simp only [putAll, Act.put, List.setIfInBounds_toArray, List.set_cons_zero, List.set_cons_succ]
             rfl
            refine one_ (i := 12) (N := none) #[true, true, true, true, true, true, true, true, true, true, true, true, true, false] rfl rfl (one_of HT_.out (by kernel_rfl)) (by decide) (fun K hK => ?_)
            have hs67 : w66.cell? ⟨gb227, 0, none⟩ = some (.int .u64 0) := (blk_cell BK227.out 0).trans rfl
            have hfs67 := blk_frozen BK227.out 0
            have hns67_0 := NB207_227.out
            have hns67_1 := NB208_227.out
            have hns67_2 := NB215_227.out
            have hns67_3 := NB218_227.out
            have hms67_0 := NB227_207.out
            have hms67_1 := NB227_208.out
            have hms67_2 := NB227_215.out
            have hms67_3 := NB227_218.out
            have hs68 : w66.cell? ⟨gb227, 1, none⟩ = some (.int .u32 0) := (blk_cell BK227.out 1).trans rfl
            have hfs68 := blk_frozen BK227.out 1
            have hns68_0 := NB207_227.out
            have hns68_1 := NB208_227.out
            have hns68_2 := NB215_227.out
            have hns68_3 := NB218_227.out
            have hms68_0 := NB227_207.out
            have hms68_1 := NB227_208.out
            have hms68_2 := NB227_215.out
            have hms68_3 := NB227_218.out
            have hs70 : w66.cell? ⟨gb227, 2, none⟩ = some (.slice none 0 0) := (blk_cell BK227.out 2).trans rfl
            have hfs70 := blk_frozen BK227.out 2
            have hns70_0 := NB207_227.out
            have hns70_1 := NB208_227.out
            have hns70_2 := NB215_227.out
            have hns70_3 := NB218_227.out
            have hms70_0 := NB227_207.out
            have hms70_1 := NB227_208.out
            have hms70_2 := NB227_215.out
            have hms70_3 := NB227_218.out
            refine skip_ (w1 := ?_) (by rfl) rfl ?_ ?_
            rotate_left
            ·go_simp
             rfl
            refine hK.out _ _ ⟨((cell_far (p := ⟨gb227, _, none⟩) NB218_227.out _).trans (((cell_far (p := ⟨gb227, _, none⟩) NB218_227.out _).trans (((cell_far (p := ⟨gb227, _, none⟩) NB218_227.out _).trans (hHeld.1)))))), ((cell_far (p := ⟨gb227, _, none⟩) NB218_227.out _).trans (((cell_far (p := ⟨gb227, _, none⟩) NB218_227.out _).trans (((cell_far (p := ⟨gb227, _, none⟩) NB218_227.out _).trans (hHeld.2.1)))))), ((cell_far (p := ⟨gb227, _, none⟩) NB218_227.out _).trans (((cell_far (p := ⟨gb227, _, none⟩) NB218_227.out _).trans (((cell_far (p := ⟨gb227, _, none⟩) NB218_227.out _).trans (hHeld.2.2.1)))))), ((cell_far (p := ⟨gb227, _, none⟩) (by first | exact Nat.ne_of_lt (Nat.lt_of_lt_of_le (by have := World.block_lt_of_cell? _ _ hw220_0; first | rwa [add_block] at this | exact this) GW227.out) | (rw [add_block]; exact Nat.ne_of_lt (Nat.lt_of_lt_of_le (by have := World.block_lt_of_cell? _ _ hw220_0; first | rwa [add_block] at this | exact this) GW227.out)) | (show (Addr.add _ _).block ≠ _; rw [add_block]; exact Nat.ne_of_lt (Nat.lt_of_lt_of_le (by have := World.block_lt_of_cell? _ _ hw220_0; first | rwa [add_block] at this | exact this) GW227.out)) | (dsimp only; exact Nat.ne_of_lt (Nat.lt_of_lt_of_le (by have := World.block_lt_of_cell? _ _ hw220_0; first | rwa [add_block] at this | exact this) GW227.out))) _).trans (((cell_far (p := ⟨gb227, _, none⟩) (by first | exact Nat.ne_of_lt (Nat.lt_of_lt_of_le (by have := World.block_lt_of_cell? _ _ hw220_0; first | rwa [add_block] at this | exact this) GW227.out) | (rw [add_block]; exact Nat.ne_of_lt (Nat.lt_of_lt_of_le (by have := World.block_lt_of_cell? _ _ hw220_0; first | rwa [add_block] at this | exact this) GW227.out)) | (show (Addr.add _ _).block ≠ _; rw [add_block]; exact Nat.ne_of_lt (Nat.lt_of_lt_of_le (by have := World.block_lt_of_cell? _ _ hw220_0; first | rwa [add_block] at this | exact this) GW227.out)) | (dsimp only; exact Nat.ne_of_lt (Nat.lt_of_lt_of_le (by have := World.block_lt_of_cell? _ _ hw220_0; first | rwa [add_block] at this | exact this) GW227.out))) _).trans (((cell_far (p := ⟨gb227, _, none⟩) (by first | exact Nat.ne_of_lt (Nat.lt_of_lt_of_le (by have := World.block_lt_of_cell? _ _ hw220_0; first | rwa [add_block] at this | exact this) GW227.out) | (rw [add_block]; exact Nat.ne_of_lt (Nat.lt_of_lt_of_le (by have := World.block_lt_of_cell? _ _ hw220_0; first | rwa [add_block] at this | exact this) GW227.out)) | (show (Addr.add _ _).block ≠ _; rw [add_block]; exact Nat.ne_of_lt (Nat.lt_of_lt_of_le (by have := World.block_lt_of_cell? _ _ hw220_0; first | rwa [add_block] at this | exact this) GW227.out)) | (dsimp only; exact Nat.ne_of_lt (Nat.lt_of_lt_of_le (by have := World.block_lt_of_cell? _ _ hw220_0; first | rwa [add_block] at this | exact this) GW227.out))) _).trans (hHeld.2.2.2))))))⟩ (fun hHeld => ?_)
            clear hK K
            refine pure_ (i := 13) (N := some 16) (v := ?_) (a' := ?_) #[true, true, true, true, true, true, true, true, true, true, true, true, true, true] rfl rfl (any_of HT_.out (by kernel_rfl)) (fun _ _ _ h => h) (Or.inl ⟨by rfl, ?_⟩) ?_ ?_
            rotate_left
            ·intro w'
             go_simp
             with_reducible rfl
            rotate_left
            ·simp only [Act.put, List.setIfInBounds_toArray, List.set_cons_zero, List.set_cons_succ, i64_w, i32_w]
             rfl
            refine done_ (done_of HT_.out (by kernel_rfl)) ?_
            have hnb71 := NB215_207.out
            have hnc71 := NB207_215.out
            have hnb72 := NB215_208.out
            have hnc72 := NB208_215.out
            have hnb73 := NB215_218.out
            have hnc73 := NB218_215.out
            have hnb74 := NB215_227.out
            have hnc74 := NB227_215.out
            have hcz75_0 : w66.cell? ⟨gb215, 0, none⟩ = some (.int .u64 t209) := (blk_cell BK215.out 0).trans rfl
            have hcz75_1 : w66.cell? ⟨gb215, 1, none⟩ = some (.int .u32 t210) := (blk_cell BK215.out 1).trans rfl
            have hcz75_2 : w66.cell? ⟨gb215, 2, none⟩ = some (.slice Ao16 t211.length co16) := (blk_cell BK215.out 2).trans rfl
            have hfz75_0 := blk_frozen BK215.out 0
            have hfz75_1 := blk_frozen BK215.out 1
            have hfz75_2 := blk_frozen BK215.out 2
            have hnb76 := NB208_207.out
            have hnc76 := NB207_208.out
            have hnb77 := NB208_218.out
            have hnc77 := NB218_208.out
            have hnb78 := NB208_227.out
            have hnc78 := NB227_208.out
            have hcz79_0 : w66.cell? ⟨gb208, 0, none⟩ = some (.int .u64 x209000_2) := (blk_cell BK208.out 0).trans rfl
            have hcz79_1 : w66.cell? ⟨gb208, 1, none⟩ = some (.int .u32 x209001_2) := (blk_cell BK208.out 1).trans rfl
            have hcz79_2 : w66.cell? ⟨gb208, 2, none⟩ = some (.slice none 0 0) := (blk_cell BK208.out 2).trans rfl
            have hfz79_0 := blk_frozen BK208.out 0
            have hfz79_1 := blk_frozen BK208.out 1
            have hfz79_2 := blk_frozen BK208.out 2
            try go_wp2
            refine bodyPost_ret (results_ct rfl _ _ gb208 52 #[.int .u64 t209, .int .u32 t210, .slice Ao16 t211.length co16] (0, 0) _ rfl (by (with_reducible repeat (first | refine blk_drewN ?_ _ | refine blk_drew ?_ | refine blk_alloc ?_ _)); refine blk_put (cs := #[.int .u64 t209, .int .u32 t210, .slice none 0 0]) ?_ 2 _ rfl; (with_reducible repeat (first | refine blk_drewN ?_ _ | refine blk_drew ?_ | refine blk_alloc ?_ _)); refine blk_put (cs := #[.int .u64 t209, .int .u32 x209001_2, .slice none 0 0]) ?_ 1 _ rfl; (with_reducible repeat (first | refine blk_drewN ?_ _ | refine blk_drew ?_ | refine blk_alloc ?_ _)); refine blk_put (cs := #[.int .u64 x209000_2, .int .u32 x209001_2, .slice none 0 0]) ?_ 0 _ rfl; (with_reducible repeat (first | refine blk_drewN ?_ _ | refine blk_drew ?_ | refine blk_alloc ?_ _)); refine blk_far ?_ NB208_227.out _; (with_reducible repeat (first | refine blk_drewN ?_ _ | refine blk_drew ?_ | refine blk_alloc ?_ _)); refine blk_far ?_ NB208_227.out _; (with_reducible repeat (first | refine blk_drewN ?_ _ | refine blk_drew ?_ | refine blk_alloc ?_ _)); refine blk_far ?_ NB208_227.out _; (with_reducible repeat (first | refine blk_drewN ?_ _ | refine blk_drew ?_ | refine blk_alloc ?_ _)); exact BK208.out) Try.underlying52 rfl (by kernel_rfl)) rfl ?_
            exact ⟨_, by first | rfl | (simp [errW_none, errW_some] <;> rfl) | (simp [*, errW_none, errW_some] <;> rfl), (by (first | refine RVor w.heap.size ?_ | refine RVor1 w.heap.size ?_); (with_reducible repeat (first | apply Kd.R_alloc | apply Kd.R_drewN | apply Kd.R_drew)); exact Kd.R_mono (Kd.R_far (p := ⟨gb208, 2, none⟩) (Kd.R_far (p := ⟨gb208, 1, none⟩) (Kd.R_far (p := ⟨gb208, 0, none⟩) (Kd.R_far (p := ⟨gb227, 2, none⟩) (Kd.R_far (p := ⟨gb227, 1, none⟩) (Kd.R_far (p := ⟨gb227, 0, none⟩) (Kd.R_types (Kd.R_types HO_216002.out BK227.out (by decide)) BK208.out (by decide)) (fun _ hk => hk.1.2) (.int .u64 t221)) (fun _ hk => hk.1.2) (.int .u32 t222)) (fun _ hk => hk.1.2) (.slice Ao69 t223.length co69)) (fun _ hk => hk.2) (.int .u64 t209)) (fun _ hk => hk.2) (.int .u32 t210)) (fun _ hk => hk.2) (.slice Ao16 t211.length co16)) (fun _ hk => hk.1.1.1)), bB HB.out⟩
          ·rw [if_neg c41] at H
           exact absurd H (by simp)
         ·rw [if_neg c40] at H
          exact absurd H (by simp)
      ·rw [if_neg c35] at H
       have c35b0 : decide (x36_2 < 5) = false := decide_eq_false c35
       clear c35
       simp only [Option.some.injEq, Prod.mk.injEq] at H
       obtain ⟨rfl, rfl, rfl, rfl⟩ := H
       have hnb80 := NB218_207.out
       have hnc80 := NB207_218.out
       have hnb81 := NB218_208.out
       have hnc81 := NB208_218.out
       have hnb82 := NB218_215.out
       have hnc82 := NB215_218.out
       have hcz83_0 : wr.cell? ⟨gb218, 0, none⟩ = some (.int .u64 x219000_2) := (blk_cell BK218.out 0).trans rfl
       have hcz83_1 : wr.cell? ⟨gb218, 1, none⟩ = some (.int .u32 x219001_2) := (blk_cell BK218.out 1).trans rfl
       have hcz83_2 : wr.cell? ⟨gb218, 2, none⟩ = some (u219002) := (blk_cell BK218.out 2).trans rfl
       have hfz83_0 := blk_frozen BK218.out 0
       have hfz83_1 := blk_frozen BK218.out 1
       have hfz83_2 := blk_frozen BK218.out 2
       have hnb84 := NB208_207.out
       have hnc84 := NB207_208.out
       have hnb85 := NB208_215.out
       have hnc85 := NB215_208.out
       have hcz86_0 : wr.cell? ⟨gb208, 0, none⟩ = some (.int .u64 x209000_2) := (blk_cell BK208.out 0).trans rfl
       have hcz86_1 : wr.cell? ⟨gb208, 1, none⟩ = some (.int .u32 x209001_2) := (blk_cell BK208.out 1).trans rfl
       have hcz86_2 : wr.cell? ⟨gb208, 2, none⟩ = some (.slice none 0 0) := (blk_cell BK208.out 2).trans rfl
       have hfz86_0 := blk_frozen BK208.out 0
       have hfz86_1 := blk_frozen BK208.out 1
       have hfz86_2 := blk_frozen BK208.out 2
       obtain ⟨Ao87, co87, eo87⟩ := Kd.V_slice HO_219002.out
       subst eo87
       go_wp2
       refine bodyPost_ret (results_ct rfl _ _ gb208 52 #[.int .u64 x219000_2, .int .u32 x219001_2, .slice Ao87 x219002_2.length co87] (0, 0) _ rfl (by (with_reducible repeat (first | refine blk_drewN ?_ _ | refine blk_drew ?_ | refine blk_alloc ?_ _)); refine blk_put (cs := #[.int .u64 x219000_2, .int .u32 x219001_2, .slice none 0 0]) ?_ 2 _ rfl; (with_reducible repeat (first | refine blk_drewN ?_ _ | refine blk_drew ?_ | refine blk_alloc ?_ _)); refine blk_put (cs := #[.int .u64 x219000_2, .int .u32 x209001_2, .slice none 0 0]) ?_ 1 _ rfl; (with_reducible repeat (first | refine blk_drewN ?_ _ | refine blk_drew ?_ | refine blk_alloc ?_ _)); refine blk_put (cs := #[.int .u64 x209000_2, .int .u32 x209001_2, .slice none 0 0]) ?_ 0 _ rfl; (with_reducible repeat (first | refine blk_drewN ?_ _ | refine blk_drew ?_ | refine blk_alloc ?_ _)); exact BK208.out) Try.underlying52 rfl (by kernel_rfl)) rfl ?_
       exact ⟨_, by first | rfl | (simp [errW_none, errW_some] <;> rfl) | (simp [*, errW_none, errW_some] <;> rfl), by (with_reducible repeat (first | apply Kd.V_alloc | apply Kd.V_drewN | apply Kd.V_drew)); exact Kd.V_mono (Kd.V_far (p := ⟨gb208, 2, none⟩) (Kd.V_far (p := ⟨gb208, 1, none⟩) (Kd.V_far (p := ⟨gb208, 0, none⟩) (Kd.V_mono HO_219002.out (fun k_ hk => (⟨hk, hk.2.2.2.1⟩ : _ ∧ k_ ≠ gb208))) (fun _ hk => hk.2) (.int .u64 x219000_2)) (fun _ hk => hk.2) (.int .u32 x219001_2)) (fun _ hk => hk.2) (.slice Ao87 x219002_2.length co87)) (fun _ hk => hk.1.1), bB HB.out⟩

end Go.Proofs.Ytgknajladloffaa.Q
