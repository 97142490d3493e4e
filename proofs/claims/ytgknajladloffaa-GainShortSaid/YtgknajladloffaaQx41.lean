-- by a program of this session (wip/myprint.py)
import Derived.Test.YtgknajladloffaaDx41
import Derived.Test.YtgknajladloffaaQx0
import Derived.Test.YtgknajladloffaaQx1
import Derived.Test.YtgknajladloffaaQx5
import Derived.Test.YtgknajladloffaaQx8
import Derived.Test.YtgknajladloffaaQx35
namespace Go.Proofs.Ytgknajladloffaa.Q
open Go.RowKit Go.Proofs.YtgknajladloffaaW.PrintWords Go.Proofs.YtgknajladloffaaW.PrintLast Go.Proofs.YtgknajladloffaaW.PrintMore
attribute [local go_sem] max2_int min2_int max_two min_two max_three min_three max_four min_four   -- for this text's walks alone
set_option linter.unusedVariables false
set_option linter.unusedSimpArgs false

/-! ### psalterylaw11_GainShort: function 6 -/
def psalterylaw11_GainShort.T7 : Bool × List (List Nat × List Nat) := (true, [([], []), ([], []), ([], []), ([1, 2], [1, 2]), ([3], [3]), ([4], [4]), ([], []), ([], []), ([], []), ([7, 8], [7, 8]), ([9], [9]), ([10], [10]), ([0, 5, 6, 11], [0, 5, 6, 11]), ([12], [12]), ([13], [13]), ([13], [13]), ([], []), ([16, 14, 12, 0, 1, 2, 3, 4, 5, 6, 7, 8, 9, 10, 11, 12, 13, 14, 16], [14, 16]), ([15, 17, 0, 1, 2, 3, 4, 5, 6, 7, 8, 9, 10, 11, 12, 13, 14, 15, 16, 17], [15])])
def psalterylaw11_GainShort.B7 : List Nat := [0, 0, 0, 6, 14, 30, 0, 0, 0, 384, 896, 1920, 4095, 8191, 16383, 16383, 0, 98303, 262143]
theorem psalterylaw11_GainShort.tab7 : rtab .any (opsOf Try.f6 7) = psalterylaw11_GainShort.T7 := by kernel_rfl
theorem psalterylaw11_GainShort.bits7 : waitsOk psalterylaw11_GainShort.T7.2 psalterylaw11_GainShort.B7 = true := by kernel_rfl
set_option maxHeartbeats 8000000 in
set_option maxRecDepth 100000 in
theorem psalterylaw11_GainShort.calls (k : Nat) (P0_ : Nat → Prop) (A0 : Option Addr) (c0 : Nat) (l0 : List (S58)) (r : Bool) (w : World) (hs0 : Kd.V k58 58 w w.heap.size (fun k_ => P0_ k_) (.slice A0 l0.length c0) l0) (h : psalterylaw11_GainShort.f k l0 = some r) :
  Calls Try.prog 6 #[.slice A0 l0.length c0] w fun e w' => e = .returned (.bool r) ∧ Below w.heap.size w w' := by
 have hu52 := Try.underlying52
 have HO0 := Am (show Kd.V k58 58 w w.heap.size (fun k_ => (P0_ k_ ∨ w.heap.size ≤ k_)) (.slice A0 l0.length c0) l0 from Kd.V_mono hs0 (fun k_ hk => .inl hk))
 have HB := Am (Below.refl w.heap.size w)
 have H : ((coder_New.f).bind fun bt741 => (psalterylaw11_GainShort.l0 k l0 (([0, 0, 0, 0, 0] : List Int)) 0 0 bt741.1 bt741.2.1 bt741.2.2)) = some r := h
 clear h
 replace H := Option.bind_eq_some_iff.mp H
 obtain ⟨⟨t741, t742, t743⟩, A20, H⟩ := H
 replace H : (psalterylaw11_GainShort.l0 k l0 (([0, 0, 0, 0, 0] : List Int)) 0 0 t741 t742 t743) = some r := H
 have A2 := Am A20
 clear A20
 obtain ⟨y747, hy747⟩ : ∃ y_ : List Int, y_ = (([0, 0, 0, 0, 0] : List Int)) := ⟨_, rfl⟩
 replace H : (psalterylaw11_GainShort.l0 k l0 y747 0 0 t741 t742 t743) = some r := by first | (rw [hy747]; with_reducible exact H) | (have H2_ := (Option.bind_some _ _).symm.trans H; rw [hy747]; with_reducible exact H2_) | (have H2_ := (Option.bind_some _ _).symm.trans H; with_reducible exact H2_) | with_reducible exact H | (rw [hy747]; exact H) | exact H
 have Ny747 := Am hy747
 clear hy747
 have H' := Am H
 clear H
 go_enter Try.func6, Try.ntmps6
 go_wp2_with (first | ((with_reducible refine gate_callee (f := 32) rfl ?_); refine goesL_ (some 9) rfl rfl Try.func32 (by kernel_rfl) rfl #[] rfl ls_ ?_; (with_reducible refine (coder_New.calls  t741 t742 t743 _ A2.out).mono ?_); rintro e w3 ⟨v744, rfl, ho0, hb⟩; refine ⟨_, rfl, ?_⟩; have n0_ := Am (Kd.V_elder' (kV HO0.out) (Kd.R_base ho0) hb); have n1_ := Am (Kd.R_lower (Kd.R_newM (M := fun k_ => (w.heap.size ≤ k_)) ho0 (below_size (bB HB.out)) (fun k_ h_ => h_)) (below_size (bB HB.out))); have n2_ := Am (below_step (bB HB.out) hb); clear HO0; clear HB; have HO0 := n0_; have HO745 := n1_; have HB := n2_; clear n0_ n1_ n2_; (try clear hb); (try clear hb2); (try clear hk); (try clear hi); (try clear ho0)) | ((with_reducible refine gate_dst (N := 3) rfl ?_); refine box_event ?hg (N := 3) ?hd (cs := #[.int .u64 0, .int .u32 0, .slice none 0 0]) (t := 52) ?hr ?_; (case hd => rfl); (case hg => rfl); (case hr => first | (go_simp; done) | (go_simp; rfl)); intro gb746 hg w4 hbox hb; have n0_ := Am (Kd.V_below (Kd.V_elderB (kV HO0.out) gb746 (Nat.le_of_eq hg.symm)) hb); have n1_ := Am (Kd.R_below (kR HO745.out) hb); have n2_ := Am (below_step (bB HB.out) hb); have n3_ := Am (hbox); have n4_ := Am ((by rw [hg]; exact (below_size (bB HB.out)) : w.heap.size ≤ gb746)); have n5_ := Am ((by rw [hg]; exact (below_size (bB HB.out)) : w.heap.size ≤ gb746)); clear HO0; clear HO745; clear HB; have HO0 := n0_; have HO745 := n1_; have HB := n2_; have BK746 := n3_; have GW746 := n4_; have GE746 := n5_; clear n0_ n1_ n2_ n3_ n4_ n5_; clear hb hbox hg; have hcz5_0 : w4.cell? ⟨gb746, 0, none⟩ = some (.int .u64 0) := (blk_cell BK746.out 0).trans rfl; have hcz5_1 : w4.cell? ⟨gb746, 1, none⟩ = some (.int .u32 0) := (blk_cell BK746.out 1).trans rfl; have hcz5_2 : w4.cell? ⟨gb746, 2, none⟩ = some (.slice none 0 0) := (blk_cell BK746.out 2).trans rfl; have hfz5_0 := blk_frozen BK746.out 0; have hfz5_1 := blk_frozen BK746.out 1; have hfz5_2 := blk_frozen BK746.out 2; obtain ⟨Ao6, co6, eo6⟩ := Kd.R_slice HO745.out; subst eo6) | ((with_reducible refine gate_dst (N := 10) rfl ?_); refine Kd.R_lit (Kd.int .i64) _ 3 ?hg (N := 10) ?hd (xs := ([0, 0, 0, 0, 0] : List Int)) (inner := [.int .i64 0, .int .i64 0, .int .i64 0, .int .i64 0, .int .i64 0]) (ok := fun _ => True) (okp := fun _ => True) ?hr ?hp (fun _ hk => hk) trivial (Below.refl _ _) (Nat.le_refl _) (by simp) ?_; (case hd => rfl); (case hg => rfl); (case hr => first | (go_simp; done) | (go_simp; rfl)); (case hp => exact (Reps.one (show Kd.M (Kd.int .i64) _ _ _ 0 [.int .i64 0] from rfl) (Reps.one (show Kd.M (Kd.int .i64) _ _ _ 0 [.int .i64 0] from rfl) (Reps.one (show Kd.M (Kd.int .i64) _ _ _ 0 [.int .i64 0] from rfl) (Reps.one (show Kd.M (Kd.int .i64) _ _ _ 0 [.int .i64 0] from rfl) (Reps.one (show Kd.M (Kd.int .i64) _ _ _ 0 [.int .i64 0] from rfl) (Reps.none _ _))))))); intro v748 w7 ho8 hb hg_ hnew_; clear hg_ hnew_; (first | rw [← Ny747.out] at ho8 | (simp only [Int.reduceToNat] at ho8; rw [← Ny747.out] at ho8)); have n0_ := Am (Kd.V_elder' (by (with_reducible repeat (first | apply Kd.V_alloc | apply Kd.V_drewN | apply Kd.V_drew)); exact (Kd.V_mono (Kd.V_far (p := ⟨gb746, 2, none⟩) (Kd.V_far (p := ⟨gb746, 1, none⟩) (Kd.V_far (p := ⟨gb746, 0, none⟩) (Kd.V_mono HO0.out (fun k_ hk => (⟨hk, hk.2⟩ : _ ∧ k_ ≠ gb746))) (fun _ hk => hk.2) (.int .u64 t741)) (fun _ hk => hk.2) (.int .u32 t742)) (fun _ hk => hk.2) (.slice Ao6 t743.length co6)) (fun _ h_ => h_.1))) (Kd.R_base ho8) hb); have n1_ := Am (Kd.R_below (by (with_reducible repeat (first | apply Kd.R_alloc | apply Kd.R_drewN | apply Kd.R_drew)); exact (Kd.R_mono (Kd.R_far (p := ⟨gb746, 2, none⟩) (Kd.R_far (p := ⟨gb746, 1, none⟩) (Kd.R_far (p := ⟨gb746, 0, none⟩) (Kd.R_types HO745.out BK746.out (by decide)) (fun _ hk => hk.2) (.int .u64 t741)) (fun _ hk => hk.2) (.int .u32 t742)) (fun _ hk => hk.2) (.slice Ao6 t743.length co6)) (fun _ h_ => h_.1))) hb); have n2_ := Am (Kd.R_lower (Kd.R_newM (M := fun k_ => (w.heap.size ≤ k_)) ho8 (below_size (bB HB.out)) (fun k_ h_ => h_)) (below_size (bB HB.out))); have n3_ := Am (blk_below (g := gb746) (o := .cells #[.int .u64 t741, .int .u32 t742, .slice Ao6 t743.length co6] 52 (0, 0)) (by (with_reducible repeat (first | refine blk_drewN ?_ _ | refine blk_drew ?_ | refine blk_alloc ?_ _)); refine blk_put (cs := #[.int .u64 t741, .int .u32 t742, .slice none 0 0]) ?_ 2 _ rfl; (with_reducible repeat (first | refine blk_drewN ?_ _ | refine blk_drew ?_ | refine blk_alloc ?_ _)); refine blk_put (cs := #[.int .u64 t741, .int .u32 0, .slice none 0 0]) ?_ 1 _ rfl; (with_reducible repeat (first | refine blk_drewN ?_ _ | refine blk_drew ?_ | refine blk_alloc ?_ _)); refine blk_put (cs := #[.int .u64 0, .int .u32 0, .slice none 0 0]) ?_ 0 _ rfl; (with_reducible repeat (first | refine blk_drewN ?_ _ | refine blk_drew ?_ | refine blk_alloc ?_ _)); exact BK746.out) hb); have n4_ := Am (below_step (bB HB.out) hb); clear HO0; clear HO745; clear BK746; clear HB; have HO0 := n0_; have HO745 := n1_; have HO749 := n2_; have BK746 := n3_; have HB := n4_; clear n0_ n1_ n2_ n3_ n4_; clear hb ho8))
 go_loopg [4, 5, 6] k (fun kq v4 v5 v6 w' => ∃ (x4_1 : List Int) (x5_1 : Int) (x6_1 : Int) (x747000_1 : Int) (x747001_1 : Int) (x747002_1 : List Int) (u747002 : Value), v5 = .int .i64 x5_1 ∧ v6 = .int .i64 x6_1 ∧ Aside0 (psalterylaw11_GainShort.l0 kq l0 x4_1 x5_1 x6_1 x747000_1 x747001_1 x747002_1 = some r) ∧ Aside0 (kq ≤ k) ∧ Aside0 (Kd.V k58 58 w' w.heap.size (fun k_ => (P0_ k_ ∨ w.heap.size ≤ k_) ∧ k_ ≠ gb746) (.slice A0 l0.length c0) l0) ∧ Aside0 (Kd.V (Kd.int .i64) 3 w' w.heap.size (fun k_ => (P0_ k_ ∨ w.heap.size ≤ k_) ∧ k_ ≠ gb746) v4 x4_1) ∧ Aside0 (Kd.V (Kd.int .u8) 5 w' w.heap.size (fun k_ => (P0_ k_ ∨ w.heap.size ≤ k_) ∧ k_ ≠ gb746) u747002 x747002_1) ∧ Aside0 (w'.heap[gb746]? = some (.cells #[.int .u64 x747000_1, .int .u32 x747001_1, u747002] 52 (0, 0))) ∧ Aside0 (Below w.heap.size w w'))
 case atStart => exact ⟨(y747), (0), (0), (t741), (t742), (t743), (.slice Ao6 t743.length co6), rs_, rs_, H', ⟨Nat.le_refl _⟩, ⟨by (with_reducible repeat (first | apply Kd.V_alloc | apply Kd.V_drewN | apply Kd.V_drew)); exact Kd.V_mono HO0.out (fun _ hk => ⟨hk.1.1.1, hk.1.2⟩)⟩, ⟨(by (first | refine RVor w.heap.size ?_ | refine RVor1 w.heap.size ?_); (with_reducible repeat (first | apply Kd.R_alloc | apply Kd.R_drewN | apply Kd.R_drew)); exact Kd.R_mono (Kd.R_types HO749.out BK746.out (by decide)) (fun _ hk => ⟨hk.1.1, hk.2⟩))⟩, ⟨(by (first | refine RVor w.heap.size ?_ | refine RVor1 w.heap.size ?_); (with_reducible repeat (first | apply Kd.R_alloc | apply Kd.R_drewN | apply Kd.R_drew)); exact Kd.R_mono (Kd.R_types HO745.out BK746.out (by decide)) (fun _ hk => ⟨hk.1.1, hk.2⟩))⟩, ⟨by (with_reducible repeat (first | refine blk_drewN ?_ _ | refine blk_drew ?_ | refine blk_alloc ?_ _)); exact BK746.out⟩, ⟨bB HB.out⟩⟩
 case round =>
  clear H'
  try clear p2
  try clear c3
  try clear c6
  try clear hcz5_0
  try clear hcz5_1
  try clear hcz5_2
  try clear hfz5_0
  try clear hfz5_1
  try clear hfz5_2
  obtain ⟨x4_1, x5_1, x6_1, x747000_1, x747001_1, x747002_1, u747002, rfl, rfl, HA, HK1, HO_0, HO_4, HO_747002, BK746, HB⟩ := hrel
  cases gk with
  | zero => exact absurd HA.out (by simp [psalterylaw11_GainShort.l0])
  | succ k1 =>
   have H := HA.out
   clear HA
   simp only [psalterylaw11_GainShort.l0] at H
   have HC9 := Am H
   clear H
   go_upto_region 5 with (fail)
   go_cut [18] (fun v18 wc => ∃ (kq : Nat) (x18_8 : Bool), v18 = .bool x18_8 ∧ Aside0 (psalterylaw11_GainShort.j1 kq l0 x4_1 x5_1 x6_1 x18_8 x747000_1 x747001_1 x747002_1 = some r) ∧ Aside0 (kq ≤ k1) ∧ Aside0 (Kd.V k58 58 wc w.heap.size (fun k_ => (P0_ k_ ∨ w.heap.size ≤ k_) ∧ k_ ≠ gb746) (.slice A0 l0.length c0) l0) ∧ Aside0 (Kd.V (Kd.int .i64) 3 wc w.heap.size (fun k_ => (P0_ k_ ∨ w.heap.size ≤ k_) ∧ k_ ≠ gb746) u4 x4_1) ∧ Aside0 (Kd.V (Kd.int .u8) 5 wc w.heap.size (fun k_ => (P0_ k_ ∨ w.heap.size ≤ k_) ∧ k_ ≠ gb746) u747002 x747002_1) ∧ Aside0 (wc.heap[gb746]? = some (.cells #[.int .u64 x747000_1, .int .u32 x747001_1, u747002] 52 (0, 0))) ∧ Aside0 (Below w.heap.size w wc))
   case first =>
    have H := HC9.out
    clear HC9
    by_cases c10 : x6_1 < (l0.length : Int)
    ·rw [if_pos c10] at H
     have c10b0 : decide (x6_1 < (l0.length : Int)) = true := decide_eq_true c10
     clear c10
     (first | rw [c10b0] | (simp only [i64_w, i32_w]; rw [c10b0]) | skip)
     have H' := Am H
     clear H
     go_wp2
     go_meet
     case rel => exact ⟨_, (decide (x6_1 < 20)), rs_, H', ⟨by have := HK1.out; first | omega | exact Nat.le_refl _⟩, ⟨by (with_reducible repeat (first | apply Kd.V_alloc | apply Kd.V_drewN | apply Kd.V_drew)); exact HO_0.out⟩, ⟨by (with_reducible repeat (first | apply Kd.V_alloc | apply Kd.V_drewN | apply Kd.V_drew)); exact HO_4.out⟩, ⟨by (with_reducible repeat (first | apply Kd.V_alloc | apply Kd.V_drewN | apply Kd.V_drew)); exact HO_747002.out⟩, ⟨by (with_reducible repeat (first | refine blk_drewN ?_ _ | refine blk_drew ?_ | refine blk_alloc ?_ _)); exact BK746.out⟩, ⟨bB HB.out⟩⟩
    ·rw [if_neg c10] at H
     have c10b0 : decide (x6_1 < (l0.length : Int)) = false := decide_eq_false c10
     clear c10
     (first | rw [c10b0] | (simp only [i64_w, i32_w]; rw [c10b0]) | skip)
     have H' := Am H
     clear H
     go_wp2
     go_meet
     case rel => exact ⟨_, (false), rs_, H', ⟨by have := HK1.out; first | omega | exact Nat.le_refl _⟩, ⟨by (with_reducible repeat (first | apply Kd.V_alloc | apply Kd.V_drewN | apply Kd.V_drew)); exact HO_0.out⟩, ⟨by (with_reducible repeat (first | apply Kd.V_alloc | apply Kd.V_drewN | apply Kd.V_drew)); exact HO_4.out⟩, ⟨by (with_reducible repeat (first | apply Kd.V_alloc | apply Kd.V_drewN | apply Kd.V_drew)); exact HO_747002.out⟩, ⟨by (with_reducible repeat (first | refine blk_drewN ?_ _ | refine blk_drew ?_ | refine blk_alloc ?_ _)); exact BK746.out⟩, ⟨bB HB.out⟩⟩
   case rest =>
    clear HC9
    try clear c1
    try clear p2
    try clear c3
    try clear c6
    try clear c10
    try clear c10b0
    try clear hcz5_0
    try clear hcz5_1
    try clear hcz5_2
    try clear hfz5_0
    try clear hfz5_1
    try clear hfz5_2
    try clear p2
    obtain ⟨kq, x18_8, rfl, HA, HJ8, HO_0, HO_4, HO_747002, BK746, HB⟩ := hcut
    cases kq with
    | zero => exact absurd HA.out (by simp [psalterylaw11_GainShort.j1])
    | succ kj8 =>
     have H := HA.out
     clear HA
     simp only [psalterylaw11_GainShort.j1] at H
     by_cases c11 : x18_8 = true
     ·subst c11
      have H1 : (if 0 ≤ x6_1 then (if x6_1 < (l0.length : Int) then ((gain_Put.f kj8 x747000_1 x747001_1 x747002_1 ((rd_T58 l0 x6_1).f0) x4_1 ((rd_T58 l0 x6_1).f1)).bind fun bt753 => (if bt753.2.2.2 = 0 then ((gain_Most.f ((rd_T58 l0 x6_1).f1)).bind fun t761 => (psalterylaw11_GainShort.l0 kj8 l0 ((rd_T58 l0 x6_1).f0) (wrap64 (x5_1 + t761)) (wrap64 (x6_1 + 1)) bt753.1 bt753.2.1 bt753.2.2.1)) else (psalterylaw11_GainShort.l0 kj8 l0 x4_1 x5_1 (wrap64 (x6_1 + 1)) x747000_1 x747001_1 x747002_1))) else (none)) else (none)) = some r := by rw [if_pos rfl] at H; exact H
      clear H
      have H := H1
      clear H1
      by_cases c12 : 0 ≤ x6_1
      ·rw [if_pos c12] at H
       have c12b0 : decide (0 ≤ x6_1) = true := decide_eq_true c12
       clear c12
       by_cases c13 : x6_1 < (l0.length : Int)
       ·rw [if_pos c13] at H
        have c13b0 : decide (x6_1 < (l0.length : Int)) = true := decide_eq_true c13
        clear c13
        replace H := Option.bind_eq_some_iff.mp H
        obtain ⟨⟨t753, t754, t755, t758⟩, A140, H⟩ := H
        replace H : (if t758 = 0 then ((gain_Most.f ((rd_T58 l0 x6_1).f1)).bind fun t761 => (psalterylaw11_GainShort.l0 kj8 l0 ((rd_T58 l0 x6_1).f0) (wrap64 (x5_1 + t761)) (wrap64 (x6_1 + 1)) t753 t754 t755)) else (psalterylaw11_GainShort.l0 kj8 l0 x4_1 x5_1 (wrap64 (x6_1 + 1)) x747000_1 x747001_1 x747002_1)) = some r := H
        have A14 := Am A140
        clear A140
        by_cases c15 : t758 = 0
        ·rw [if_pos c15] at H
         have c15b0 : (t758 == 0) = true := beq_iff_eq.mpr c15
         have c15b1 : (t758 != 0) = false := bne_eq_false_iff_eq.mpr c15
         clear c15
         replace H := Option.bind_eq_some_iff.mp H
         obtain ⟨t761, A160, H⟩ := H
         replace H : (psalterylaw11_GainShort.l0 kj8 l0 ((rd_T58 l0 x6_1).f0) (wrap64 (x5_1 + t761)) (wrap64 (x6_1 + 1)) t753 t754 t755) = some r := H
         have A16 := Am A160
         clear A160
         have H' := Am H
         clear H
         obtain ⟨Ao17, co17, eo17⟩ := Kd.V_slice HO_747002.out
         subst eo17
         obtain ⟨Ao18, co18, eo18⟩ := Kd.V_slice HO_4.out
         subst eo18
         try go_wp2
         have n0_ := Am (Kd.V_drew HO_0.out)
         have n1_ := Am (Kd.V_drew HO_4.out)
         have n2_ := Am (Kd.V_drew HO_747002.out)
         have n3_ := Am (blk_drew BK746.out)
         have n4_ := Am (below_drew1 HB.out)
         clear HO_0
         clear HO_4
         clear HO_747002
         clear BK746
         clear HB
         have HO_0 := n0_
         have HO_4 := n1_
         have HO_747002 := n2_
         have BK746 := n3_
         have HB := n4_
         clear n0_ n1_ n2_ n3_ n4_
         have p751 : 0 ≤ (x6_1 : Int) := of_decide_eq_true as_
         have q751 : x6_1 < (l0.length : Int) := of_decide_eq_true as_
         obtain ⟨ad751, A751_0, c751_0, e751, hx751_0, hx751_1, hl751_0, hi751_0⟩ := at_T58 (Kd.V_reads' HO_0.out).2.2 x6_1 p751 q751
         cases e751
         obtain ⟨ce751, hce751, hMe751, hcc751⟩ := Kd.V_get HO_0.out z58 x6_1 p751 (by first | exact q751 | exact of_decide_eq_true as_ | (have e_ := (Kd.V_reads' HO_0.out).1; omega))
         obtain ⟨ua751_0, uc751_0, rfl, ul751_0, ge751_0⟩ := k58_openF hMe751
         have hv751_0 := hcc751 0 _ rfl
         rw [Nat.add_zero] at hv751_0
         replace hv751_0 := Option.some.inj (hv751_0.symm.trans hx751_0)
         injection hv751_0 with hva_ hvn_ hvc_
         rw [hva_] at ge751_0
         rw [hvc_] at ul751_0
         have HL751_0 := Am (show Kd.V (Kd.int .i64) 3 _ w.heap.size _ _ ((rd_T58 l0 x6_1).f0) from Kd.V_mk ul751_0 ge751_0)
         clear hva_ hvn_ hvc_ ge751_0 ul751_0
         clear hcc751 hce751
         have HR751_0 := Am hi751_0
         have HC751_0 := Am hl751_0
         clear hi751_0 hl751_0
         replace p751 := eq_true p751
         replace q751 := eq_true q751
         have p752 : 0 ≤ (x6_1 : Int) := of_decide_eq_true as_
         have q752 : x6_1 < (l0.length : Int) := of_decide_eq_true as_
         obtain ⟨ad752, A752_0, c752_0, e752, hx752_0, hx752_1, hl752_0, hi752_0⟩ := at_T58 (Kd.V_reads' HO_0.out).2.2 x6_1 p752 q752
         obtain rfl : ad751 = ad752 := (by injection e752)
         obtain ⟨ce752, hce752, hMe752, hcc752⟩ := Kd.V_get HO_0.out z58 x6_1 p752 (by first | exact q752 | exact of_decide_eq_true as_ | (have e_ := (Kd.V_reads' HO_0.out).1; omega))
         obtain ⟨ua752_0, uc752_0, rfl, ul752_0, ge752_0⟩ := k58_openF hMe752
         have hv752_0 := hcc752 0 _ rfl
         rw [Nat.add_zero] at hv752_0
         replace hv752_0 := Option.some.inj (hv752_0.symm.trans hx752_0)
         injection hv752_0 with hva_ hvn_ hvc_
         rw [hva_] at ge752_0
         rw [hvc_] at ul752_0
         have HL752_0 := Am (show Kd.V (Kd.int .i64) 3 _ w.heap.size _ _ ((rd_T58 l0 x6_1).f0) from Kd.V_mk ul752_0 ge752_0)
         clear hva_ hvn_ hvc_ ge752_0 ul752_0
         clear hcc752 hce752
         have HR752_0 := Am hi752_0
         have HC752_0 := Am hl752_0
         clear hi752_0 hl752_0
         replace p752 := eq_true p752
         replace q752 := eq_true q752
         have ea_ := Option.some.inj (hx751_0.symm.trans hx752_0)
         injection ea_ with ea_ en_ ec_
         subst ea_
         subst ec_
         clear en_
         refine start_ (n := 19) (S := fun w' => w'.cell? ⟨gb746, 0, none⟩ = some (.int .u64 x747000_1) ∧ w'.cell? ⟨gb746, 1, none⟩ = some (.int .u32 x747001_1) ∧ w'.cell? ⟨gb746, 2, none⟩ = some (.slice Ao17 x747002_1.length co17) ∧ w'.cell? (ad751.add ((x6_1).toNat * 2)) = some (.slice A751_0 ((rd_T58 l0 x6_1).f0).length c751_0) ∧ w'.cell? ⟨(ad751.add ((x6_1).toNat * 2)).block, (ad751.add ((x6_1).toNat * 2)).off + 1, none⟩ = some (.bool ((rd_T58 l0 x6_1).f1)) ∧ w'.cell? (ad751.add ((x6_1).toNat * 2)) = some (.slice A751_0 ((rd_T58 l0 x6_1).f0).length c751_0) ∧ w'.cell? ⟨(ad751.add ((x6_1).toNat * 2)).block, (ad751.add ((x6_1).toNat * 2)).off + 1, none⟩ = some (.bool ((rd_T58 l0 x6_1).f1))) (ds := []) #[false, false, false, false, false, false, false, false, false, false, false, false, false, false, false, false, false, false, false] (by kernel_rfl) rfl rfl ⟨(blk_cell BK746.out 0).trans rfl, (blk_cell BK746.out 1).trans rfl, (blk_cell BK746.out 2).trans rfl, hx751_0, hx751_1, hx752_0, hx752_1⟩ (fun hHeld => ?_); refine with_tabW psalterylaw11_GainShort.tab7 psalterylaw11_GainShort.bits7 (fun HT_ HW_ => ?_)
         generalize wc.drew = w19 at HO_0 HO_4 HO_747002 BK746 HB HL751_0 HL752_0 HR751_0 HR752_0 hx751_0 hx751_1 hx752_0 hx752_1 hHeld ⊢
         refine pure_ (i := 1) (N := some 23) (v := ?_) (a' := ?_) #[false, true, false, false, false, false, false, false, false, false, false, false, false, false, false, false, false, false, false] rfl rfl (any_of HT_.out (by kernel_rfl)) (fun _ _ _ h => h) (Or.inl ⟨by rfl, ?_⟩) ?_ ?_
         rotate_left
         ·intro w'
          go_simp
          with_reducible rfl
         rotate_left
         ·simp only [Act.put, List.setIfInBounds_toArray, List.set_cons_zero, List.set_cons_succ, i64_w, i32_w]
          rfl
         refine pure_ (i := 2) (N := some 24) (v := ?_) (a' := ?_) #[false, true, true, false, false, false, false, false, false, false, false, false, false, false, false, false, false, false, false] rfl rfl (any_of HT_.out (by kernel_rfl)) (fun _ _ _ h => h) (Or.inl ⟨by rfl, ?_⟩) ?_ ?_
         rotate_left
         ·intro w'
          go_simp
          with_reducible rfl
         rotate_left
         ·simp only [Act.put, List.setIfInBounds_toArray, List.set_cons_zero, List.set_cons_succ, i64_w, i32_w]
          rfl
         refine pure_ (i := 3) (N := some 25) (v := ?_) (a' := ?_) #[false, true, true, true, false, false, false, false, false, false, false, false, false, false, false, false, false, false, false] rfl rfl (any_of HT_.out (by kernel_rfl)) (fun _ _ _ h => h) (Or.inl ⟨by rfl, ?_⟩) ?_ ?_
         rotate_left
         ·intro w'
          go_simp
          with_reducible rfl
         rotate_left
         ·simp only [Act.put, List.setIfInBounds_toArray, List.set_cons_zero, List.set_cons_succ, i64_w, i32_w]
          rfl
         refine pure_ (i := 4) (N := some 26) (v := ?_) (a' := ?_) #[false, true, true, true, true, false, false, false, false, false, false, false, false, false, false, false, false, false, false] rfl rfl (any_of HT_.out (by kernel_rfl)) (fun _ _ _ h => h) (Or.inl ⟨by rfl, ?_⟩) ?_ ?_
         rotate_left
         ·intro w'
          go_simp
          with_reducible rfl
         rotate_left
         ·simp only [Act.put, List.setIfInBounds_toArray, List.set_cons_zero, List.set_cons_succ, i64_w, i32_w]
          rfl
         refine pure_ (i := 6) (N := some 28) (v := ?_) (a' := ?_) #[false, true, true, true, true, false, true, false, false, false, false, false, false, false, false, false, false, false, false] rfl rfl (any_of HT_.out (by kernel_rfl)) (fun _ _ _ h => h) (Or.inl ⟨by rfl, ?_⟩) ?_ ?_
         rotate_left
         ·intro w'
          go_simp
          with_reducible rfl
         rotate_left
         ·simp only [Act.put, List.setIfInBounds_toArray, List.set_cons_zero, List.set_cons_succ, i64_w, i32_w]
          rfl
         refine pure_ (i := 7) (N := some 29) (v := ?_) (a' := ?_) #[false, true, true, true, true, false, true, true, false, false, false, false, false, false, false, false, false, false, false] rfl rfl (any_of HT_.out (by kernel_rfl)) (fun _ _ _ h => h) (Or.inl ⟨by rfl, ?_⟩) ?_ ?_
         rotate_left
         ·intro w'
          go_simp
          with_reducible rfl
         rotate_left
         ·simp only [Act.put, List.setIfInBounds_toArray, List.set_cons_zero, List.set_cons_succ, i64_w, i32_w]
          rfl
         refine pure_ (i := 8) (N := some 30) (v := ?_) (a' := ?_) #[false, true, true, true, true, false, true, true, true, false, false, false, false, false, false, false, false, false, false] rfl rfl (any_of HT_.out (by kernel_rfl)) (fun _ _ _ h => h) (Or.inl ⟨by rfl, ?_⟩) ?_ ?_
         rotate_left
         ·intro w'
          go_simp
          with_reducible rfl
         rotate_left
         ·simp only [Act.put, List.setIfInBounds_toArray, List.set_cons_zero, List.set_cons_succ, i64_w, i32_w]
          rfl
         refine pure_ (i := 9) (N := some 31) (v := ?_) (a' := ?_) #[false, true, true, true, true, false, true, true, true, true, false, false, false, false, false, false, false, false, false] rfl rfl (any_of HT_.out (by kernel_rfl)) (fun _ _ _ h => h) (Or.inl ⟨by rfl, ?_⟩) ?_ ?_
         rotate_left
         ·intro w'
          go_simp
          with_reducible rfl
         rotate_left
         ·simp only [Act.put, List.setIfInBounds_toArray, List.set_cons_zero, List.set_cons_succ, i64_w, i32_w]
          rfl
         refine pure_ (i := 10) (N := some 32) (v := ?_) (a' := ?_) #[false, true, true, true, true, false, true, true, true, true, true, false, false, false, false, false, false, false, false] rfl rfl (any_of HT_.out (by kernel_rfl)) (fun _ _ _ h => h) (Or.inl ⟨by rfl, ?_⟩) ?_ ?_
         rotate_left
         ·intro w'
          go_simp
          with_reducible rfl
         rotate_left
         ·simp only [Act.put, List.setIfInBounds_toArray, List.set_cons_zero, List.set_cons_succ, i64_w, i32_w]
          rfl
         refine take_ (i := 0) (N := some 22) (v := ?_) (a' := ?_) #[true, true, true, true, true, false, true, true, true, true, true, false, false, false, false, false, false, false, false] rfl rfl (take_ofW HT_.out HW_.out (by kernel_rfl)) (fun _ _ _ h => h) (Or.inl ⟨by rfl, ?_⟩) hHeld ?_ ?_
         rotate_left
         ·rintro w' ⟨s0, s1, s2, s3, s4, s5, s6⟩
          go_simp
          with_reducible rfl
         rotate_left
         ·simp only [Act.put, List.setIfInBounds_toArray, List.set_cons_zero, List.set_cons_succ, i64_w, i32_w]
          rfl
         refine take_ (i := 5) (N := some 27) (v := ?_) (a' := ?_) #[true, true, true, true, true, true, true, true, true, true, true, false, false, false, false, false, false, false, false] rfl rfl (take_ofW HT_.out HW_.out (by kernel_rfl)) (fun _ _ _ h => h) (Or.inl ⟨by rfl, ?_⟩) hHeld ?_ ?_
         rotate_left
         ·rintro w' ⟨s0, s1, s2, s3, s4, s5, s6⟩
          go_simp
          with_reducible rfl
         rotate_left
         ·simp only [Act.put, List.setIfInBounds_toArray, List.set_cons_zero, List.set_cons_succ, i64_w, i32_w]
          rfl
         refine take_ (i := 11) (N := some 33) (v := ?_) (a' := ?_) #[true, true, true, true, true, true, true, true, true, true, true, true, false, false, false, false, false, false, false] rfl rfl (take_ofW HT_.out HW_.out (by kernel_rfl)) (fun _ _ _ h => h) (Or.inl ⟨by rfl, ?_⟩) hHeld ?_ ?_
         rotate_left
         ·rintro w' ⟨s0, s1, s2, s3, s4, s5, s6⟩
          go_simp
          with_reducible rfl
         rotate_left
         ·simp only [Act.put, List.setIfInBounds_toArray, List.set_cons_zero, List.set_cons_succ, i64_w, i32_w]
          rfl
         refine join_ (σ := Value × Nat) 2 #[true, true, true, true, true, true, true, true, true, true, true, true, true, true, true, true, true, false, false] (fun s_ => [(34, .tuple #[.agg #[.int .u64 t753, .int .u32 t754, s_.1], .int .i64 t758]), (7, .pointer (some ⟨s_.2, 0, none⟩)), (21, .tuple #[.agg #[.int .u64 t753, .int .u32 t754, s_.1], .int .i64 t758]), (35, .agg #[.int .u64 t753, .int .u32 t754, s_.1]), (36, .int .i64 t758)]) (fun s_ w' => (w'.cell? ⟨gb746, 0, none⟩ = some (.int .u64 x747000_1) ∧ w'.cell? ⟨gb746, 1, none⟩ = some (.int .u32 x747001_1) ∧ w'.cell? ⟨gb746, 2, none⟩ = some (.slice Ao17 x747002_1.length co17) ∧ w'.cell? (ad751.add ((x6_1).toNat * 2)) = some (.slice A751_0 ((rd_T58 l0 x6_1).f0).length c751_0) ∧ w'.cell? ⟨(ad751.add ((x6_1).toNat * 2)).block, (ad751.add ((x6_1).toNat * 2)).off + 1, none⟩ = some (.bool ((rd_T58 l0 x6_1).f1)) ∧ w'.cell? (ad751.add ((x6_1).toNat * 2)) = some (.slice A751_0 ((rd_T58 l0 x6_1).f0).length c751_0) ∧ w'.cell? ⟨(ad751.add ((x6_1).toNat * 2)).block, (ad751.add ((x6_1).toNat * 2)).off + 1, none⟩ = some (.bool ((rd_T58 l0 x6_1).f1))) ∧ (Kd.V (Kd.int .i64) 3 w' w.heap.size (fun k_ => (P0_ k_ ∨ w.heap.size ≤ k_) ∧ k_ ≠ gb746 ∧ k_ ≠ s_.2) (.slice A751_0 ((rd_T58 l0 x6_1).f0).length c751_0) ((rd_T58 l0 x6_1).f0)) ∧ (Kd.V (Kd.int .i64) 3 w' w.heap.size (fun k_ => (P0_ k_ ∨ w.heap.size ≤ k_) ∧ k_ ≠ gb746 ∧ k_ ≠ s_.2) (.slice A751_0 ((rd_T58 l0 x6_1).f0).length c751_0) ((rd_T58 l0 x6_1).f0)) ∧ (Kd.V (Kd.int .u8) 5 w' w.heap.size (fun k_ => (P0_ k_ ∨ w.heap.size ≤ k_) ∧ k_ ≠ gb746 ∧ k_ ≠ s_.2) s_.1 t755) ∧ (Kd.V k58 58 w' w.heap.size (fun k_ => (P0_ k_ ∨ w.heap.size ≤ k_) ∧ k_ ≠ gb746 ∧ k_ ≠ s_.2) (.slice (some ad751) l0.length c0) l0) ∧ (Kd.V (Kd.int .i64) 3 w' w.heap.size (fun k_ => (P0_ k_ ∨ w.heap.size ≤ k_) ∧ k_ ≠ gb746 ∧ k_ ≠ s_.2) (.slice Ao18 x4_1.length co18) x4_1) ∧ (Kd.V (Kd.int .u8) 5 w' w.heap.size (fun k_ => (P0_ k_ ∨ w.heap.size ≤ k_) ∧ k_ ≠ gb746 ∧ k_ ≠ s_.2) (.slice Ao17 x747002_1.length co17) x747002_1) ∧ (w'.heap[gb746]? = some (.cells #[.int .u64 x747000_1, .int .u32 x747001_1, .slice Ao17 x747002_1.length co17] 52 (0, 0))) ∧ (w'.heap[s_.2]? = some (.cells #[.int .u64 0, .int .u32 0, .slice none 0 0] 52 (0, 0))) ∧ (w.heap.size ≤ s_.2) ∧ (w.heap.size ≤ s_.2) ∧ (gb746 ≠ s_.2) ∧ (s_.2 ≠ gb746) ∧ (Below w.heap.size w w')) ?_ ?_
         rotate_left
         ·intro hCont
          refine two_ (i := 12) (j := 16) (Ni := some 34) (Nj := some 7) #[true, true, true, true, true, true, true, true, true, true, true, true, true, false, false, false, false, false, false] #[true, true, true, true, true, true, true, true, true, true, true, true, false, false, false, false, true, false, false] rfl rfl rfl rfl (two_of HT_.out (by kernel_rfl)) (by decide) (by decide) (fun K hK => ?_) (fun K hK => ?_)
          ·skip
           refine goes_ Try.func33 (by kernel_rfl) rfl #[.agg #[.int .u64 x747000_1, .int .u32 x747001_1, .slice Ao17 x747002_1.length co17], .slice A751_0 ((rd_T58 l0 x6_1).f0).length c751_0, .slice Ao18 x4_1.length co18, .bool ((rd_T58 l0 x6_1).f1)] (by rfl) rfl rfl ls_ ?_
           with_reducible refine (gain_Put.calls kj8 x747000_1 x747001_1 (fun k_ => ((P0_ k_ ∨ w.heap.size ≤ k_) ∧ k_ ≠ gb746)) _ _ x747002_1 _ _ ((rd_T58 l0 x6_1).f0) _ _ x4_1 ((rd_T58 l0 x6_1).f1) t753 t754 t755 t758 _ ?side1 ?side2 ?side3 ?side4 ?side5 A14.out).mono ?_
           (case side1 => exact HO_747002.out)
           (case side2 => repeat (first | exact (by repeat (first | (with_reducible exact HR751_0.out) | (with_reducible refine Kd.C_alloc ?_ _) | (with_reducible refine Kd.C_drewN ?_ _) | (with_reducible refine Kd.C_drew ?_) | exact HR751_0.out)) | (with_reducible refine Kd.C_alloc ?_ _) | (with_reducible refine Kd.C_drewN ?_ _) | (with_reducible refine Kd.C_drew ?_)))
           (case side3 => exact HC751_0.out)
           (case side4 => repeat (first | exact (Kd.V_reads' HO_4.out).2.2 | (with_reducible refine Kd.C_alloc ?_ _) | (with_reducible refine Kd.C_drewN ?_ _) | (with_reducible refine Kd.C_drew ?_)))
           (case side5 => exact (Kd.V_reads' HO_4.out).2.1)
           rintro e w20 ⟨v756, rfl, ho0, hb⟩
           have HS3_ := (hb.cell (World.block_lt_of_cell? _ _ (hHeld.2.2.2.1))).trans (hHeld.2.2.2.1)
           have HS4_ := (hb.cell (World.block_lt_of_cell? _ _ (hHeld.2.2.2.2.1))).trans (hHeld.2.2.2.2.1)
           have HS5_ := (hb.cell (World.block_lt_of_cell? _ _ (hHeld.2.2.2.2.2.1))).trans (hHeld.2.2.2.2.2.1)
           have HS6_ := (hb.cell (World.block_lt_of_cell? _ _ (hHeld.2.2.2.2.2.2))).trans (hHeld.2.2.2.2.2.2)
           refine ⟨_, rfl, ?_⟩
           have n0_ := Am (Kd.V_below (kV HO_0.out) hb)
           have n1_ := Am (Kd.V_below (kV HO_4.out) hb)
           have n2_ := Am (Kd.V_below (kV HO_747002.out) hb)
           have n3_ := Am (Kd.V_below (kV HL751_0.out) hb)
           have n4_ := Am (Kd.V_below (kV HL752_0.out) hb)
           have n5_ := Am (Kd.V_lower (Kd.V_mono (ok' := fun k_ => (P0_ k_ ∨ w.heap.size ≤ k_) ∧ k_ ≠ gb746) ho0 (fun k_ hk_ => ⟨Or.elim hk_ (fun hs_ => hs_.1) (fun hn_ => (.inr (Nat.le_trans (below_size (bB HB.out)) hn_))), Or.elim hk_ (fun hs_ => hs_.2) (fun hn_ => (Kd.freshB (g := gb746) (o := .cells #[.int .u64 x747000_1, .int .u32 x747001_1, .slice Ao17 x747002_1.length co17] 52 (0, 0)) (bK BK746.out) k_ hn_))⟩)) (below_size (bB HB.out)))
           have n6_ := Am (blk_below (g := gb746) (o := .cells #[.int .u64 x747000_1, .int .u32 x747001_1, .slice Ao17 x747002_1.length co17] 52 (0, 0)) (bK BK746.out) hb)
           have n7_ := Am (Kd.C_below (by repeat (first | (with_reducible exact HR751_0.out) | (with_reducible refine Kd.C_alloc ?_ _) | (with_reducible refine Kd.C_drewN ?_ _) | (with_reducible refine Kd.C_drew ?_) | exact HR751_0.out)) hb)
           have n8_ := Am (Kd.C_below (by repeat (first | (with_reducible exact HR752_0.out) | (with_reducible refine Kd.C_alloc ?_ _) | (with_reducible refine Kd.C_drewN ?_ _) | (with_reducible refine Kd.C_drew ?_) | exact HR752_0.out)) hb)
           have n9_ := Am (below_step (bB HB.out) hb)
           clear HO_0
           clear HO_4
           clear HO_747002
           clear HL751_0
           clear HL752_0
           clear BK746
           clear HR751_0
           clear HR752_0
           clear HB
           have HO_0 := n0_
           have HO_4 := n1_
           have HO_747002 := n2_
           have HL751_0 := n3_
           have HL752_0 := n4_
           have HO757 := n5_
           have BK746 := n6_
           have HR751_0 := n7_
           have HR752_0 := n8_
           have HB := n9_
           clear n0_ n1_ n2_ n3_ n4_ n5_ n6_ n7_ n8_ n9_
           (try clear hb)
           (try clear hb2)
           (try clear hk)
           (try clear hi)
           (try clear ho0)
           refine hK.out _ _ ⟨(blk_cell BK746.out 0).trans rfl, (blk_cell BK746.out 1).trans rfl, (blk_cell BK746.out 2).trans rfl, HS3_, HS4_, HS5_, HS6_⟩ (fun hHeld => ?_)
           clear hK K
           refine norm_ (a' := ?_) ?_ ?_
           rotate_left
           ·show Act.put _ (some 34) _ = _
            simp only [Act.put, List.setIfInBounds_toArray, List.set_cons_zero, List.set_cons_succ, i64_w, i32_w]
            rfl
           refine pure_ (i := 13) (N := some 21) (v := ?_) (a' := ?_) #[true, true, true, true, true, true, true, true, true, true, true, true, true, true, false, false, false, false, false] rfl rfl (any_of HT_.out (by kernel_rfl)) (fun _ _ _ h => h) (Or.inl ⟨by rfl, ?_⟩) ?_ ?_
           rotate_left
           ·intro w'
            go_simp
            with_reducible rfl
           rotate_left
           ·simp only [Act.put, List.setIfInBounds_toArray, List.set_cons_zero, List.set_cons_succ, i64_w, i32_w]
            rfl
           refine pure_ (i := 14) (N := some 35) (v := ?_) (a' := ?_) #[true, true, true, true, true, true, true, true, true, true, true, true, true, true, true, false, false, false, false] rfl rfl (any_of HT_.out (by kernel_rfl)) (fun _ _ _ h => h) (Or.inl ⟨by rfl, ?_⟩) ?_ ?_
           rotate_left
           ·intro w'
            go_simp
            with_reducible rfl
           rotate_left
           ·simp only [Act.put, List.setIfInBounds_toArray, List.set_cons_zero, List.set_cons_succ, i64_w, i32_w]
            rfl
           refine pure_ (i := 15) (N := some 36) (v := ?_) (a' := ?_) #[true, true, true, true, true, true, true, true, true, true, true, true, true, true, true, true, false, false, false] rfl rfl (any_of HT_.out (by kernel_rfl)) (fun _ _ _ h => h) (Or.inl ⟨by rfl, ?_⟩) ?_ ?_
           rotate_left
           ·intro w'
            go_simp
            with_reducible rfl
           rotate_left
           ·simp only [Act.put, List.setIfInBounds_toArray, List.set_cons_zero, List.set_cons_succ, i64_w, i32_w]
            rfl
           refine one_ (i := 16) (N := some 7) #[true, true, true, true, true, true, true, true, true, true, true, true, true, true, true, true, true, false, false] rfl rfl (one_of HT_.out (by kernel_rfl)) (by decide) (fun K hK => ?_)
           refine box_step ?hg (N := 7) ?hd (cs := #[.int .u64 0, .int .u32 0, .slice none 0 0]) (t := 52) ?hr ?_; (case hd => rfl); (case hg => rfl); (case hr => first | (go_simp; done) | (go_simp; rfl))
           intro gb759 hg w21 hbox hb
           have HS3_ := (hb.cell (World.block_lt_of_cell? _ _ (hHeld.2.2.2.1))).trans (hHeld.2.2.2.1)
           have HS4_ := (hb.cell (World.block_lt_of_cell? _ _ (hHeld.2.2.2.2.1))).trans (hHeld.2.2.2.2.1)
           have HS5_ := (hb.cell (World.block_lt_of_cell? _ _ (hHeld.2.2.2.2.2.1))).trans (hHeld.2.2.2.2.2.1)
           have HS6_ := (hb.cell (World.block_lt_of_cell? _ _ (hHeld.2.2.2.2.2.2))).trans (hHeld.2.2.2.2.2.2)
           have n0_ := Am (Kd.V_below (Kd.V_elderB (kV HO_0.out) gb759 (Nat.le_of_eq hg.symm)) hb)
           have n1_ := Am (Kd.V_below (Kd.V_elderB (kV HO_4.out) gb759 (Nat.le_of_eq hg.symm)) hb)
           have n2_ := Am (Kd.V_below (Kd.V_elderB (kV HO_747002.out) gb759 (Nat.le_of_eq hg.symm)) hb)
           have n3_ := Am (Kd.V_below (Kd.V_elderB (kV HL751_0.out) gb759 (Nat.le_of_eq hg.symm)) hb)
           have n4_ := Am (Kd.V_below (Kd.V_elderB (kV HL752_0.out) gb759 (Nat.le_of_eq hg.symm)) hb)
           have n5_ := Am (Kd.V_below (Kd.V_elderB (kV HO757.out) gb759 (Nat.le_of_eq hg.symm)) hb)
           have n6_ := Am (blk_below (g := gb746) (o := .cells #[.int .u64 x747000_1, .int .u32 x747001_1, .slice Ao17 x747002_1.length co17] 52 (0, 0)) (bK BK746.out) hb)
           have n7_ := Am (Kd.C_below (by repeat (first | (with_reducible exact HR751_0.out) | (with_reducible refine Kd.C_alloc ?_ _) | (with_reducible refine Kd.C_drewN ?_ _) | (with_reducible refine Kd.C_drew ?_) | exact HR751_0.out)) hb)
           have n8_ := Am (Kd.C_below (by repeat (first | (with_reducible exact HR752_0.out) | (with_reducible refine Kd.C_alloc ?_ _) | (with_reducible refine Kd.C_drewN ?_ _) | (with_reducible refine Kd.C_drew ?_) | exact HR752_0.out)) hb)
           have n9_ := Am (below_step (bB HB.out) hb)
           have n10_ := Am (hbox)
           have n11_ := Am ((by rw [hg]; exact (below_size (bB HB.out)) : w.heap.size ≤ gb759))
           have n12_ := Am ((by rw [hg]; exact (below_size (bB HB.out)) : w.heap.size ≤ gb759))
           have n13_ := Am ((by rw [hg]; exact Nat.ne_of_lt (blk_lt (g := gb746) (o := .cells #[.int .u64 x747000_1, .int .u32 x747001_1, .slice Ao17 x747002_1.length co17] 52 (0, 0)) (bK BK746.out)) : gb746 ≠ gb759))
           have n14_ := Am ((by rw [hg]; exact Nat.ne_of_gt (blk_lt (g := gb746) (o := .cells #[.int .u64 x747000_1, .int .u32 x747001_1, .slice Ao17 x747002_1.length co17] 52 (0, 0)) (bK BK746.out)) : gb759 ≠ gb746))
           clear HO_0
           clear HO_4
           clear HO_747002
           clear HL751_0
           clear HL752_0
           clear HO757
           clear BK746
           clear HR751_0
           clear HR752_0
           clear HB
           have HO_0 := n0_
           have HO_4 := n1_
           have HO_747002 := n2_
           have HL751_0 := n3_
           have HL752_0 := n4_
           have HO757 := n5_
           have BK746 := n6_
           have HR751_0 := n7_
           have HR752_0 := n8_
           have HB := n9_
           have BK759 := n10_
           have GW759 := n11_
           have GE759 := n12_
           have NB746_759 := n13_
           have NB759_746 := n14_
           clear n0_ n1_ n2_ n3_ n4_ n5_ n6_ n7_ n8_ n9_ n10_ n11_ n12_ n13_ n14_
           clear hb hbox hg
           refine hK.out _ _ ⟨(blk_cell BK746.out 0).trans rfl, (blk_cell BK746.out 1).trans rfl, (blk_cell BK746.out 2).trans rfl, HS3_, HS4_, HS5_, HS6_⟩ (fun hHeld => ?_)
           clear hK K
           refine norm_ (a' := ?_) ?_ ?_
           rotate_left
           ·show Act.put _ (some 7) _ = _
            simp only [Act.put, List.setIfInBounds_toArray, List.set_cons_zero, List.set_cons_succ, i64_w, i32_w]
            rfl
           exact norm_ (by simp only [putAll, Act.put, List.setIfInBounds_toArray, List.set_cons_zero, List.set_cons_succ]) (hCont (v756, gb759) _ ⟨hHeld, (by (with_reducible repeat (first | apply Kd.V_alloc | apply Kd.V_drewN | apply Kd.V_drew)); exact Kd.V_mono HL751_0.out (fun _ hk => ⟨hk.1.1, ⟨hk.1.2, hk.2⟩⟩)), (by (with_reducible repeat (first | apply Kd.V_alloc | apply Kd.V_drewN | apply Kd.V_drew)); exact Kd.V_mono HL752_0.out (fun _ hk => ⟨hk.1.1, ⟨hk.1.2, hk.2⟩⟩)), (by (with_reducible repeat (first | apply Kd.V_alloc | apply Kd.V_drewN | apply Kd.V_drew)); exact Kd.V_mono HO757.out (fun _ hk => ⟨hk.1.1, ⟨hk.1.2, hk.2⟩⟩)), (by (with_reducible repeat (first | apply Kd.V_alloc | apply Kd.V_drewN | apply Kd.V_drew)); exact Kd.V_mono HO_0.out (fun _ hk => ⟨hk.1.1, ⟨hk.1.2, hk.2⟩⟩)), (by (with_reducible repeat (first | apply Kd.V_alloc | apply Kd.V_drewN | apply Kd.V_drew)); exact Kd.V_mono HO_4.out (fun _ hk => ⟨hk.1.1, ⟨hk.1.2, hk.2⟩⟩)), (by (with_reducible repeat (first | apply Kd.V_alloc | apply Kd.V_drewN | apply Kd.V_drew)); exact Kd.V_mono HO_747002.out (fun _ hk => ⟨hk.1.1, ⟨hk.1.2, hk.2⟩⟩)), (bK BK746.out), (bK BK759.out), GW759.out, GE759.out, NB746_759.out, NB759_746.out, (bB HB.out)⟩)
          ·skip
           refine box_step ?hg (N := 7) ?hd (cs := #[.int .u64 0, .int .u32 0, .slice none 0 0]) (t := 52) ?hr ?_; (case hd => rfl); (case hg => rfl); (case hr => first | (go_simp; done) | (go_simp; rfl))
           intro gb759 hg w20 hbox hb
           have HS3_ := (hb.cell (World.block_lt_of_cell? _ _ (hHeld.2.2.2.1))).trans (hHeld.2.2.2.1)
           have HS4_ := (hb.cell (World.block_lt_of_cell? _ _ (hHeld.2.2.2.2.1))).trans (hHeld.2.2.2.2.1)
           have HS5_ := (hb.cell (World.block_lt_of_cell? _ _ (hHeld.2.2.2.2.2.1))).trans (hHeld.2.2.2.2.2.1)
           have HS6_ := (hb.cell (World.block_lt_of_cell? _ _ (hHeld.2.2.2.2.2.2))).trans (hHeld.2.2.2.2.2.2)
           have n0_ := Am (Kd.V_below (Kd.V_elderB (kV HO_0.out) gb759 (Nat.le_of_eq hg.symm)) hb)
           have n1_ := Am (Kd.V_below (Kd.V_elderB (kV HO_4.out) gb759 (Nat.le_of_eq hg.symm)) hb)
           have n2_ := Am (Kd.V_below (Kd.V_elderB (kV HO_747002.out) gb759 (Nat.le_of_eq hg.symm)) hb)
           have n3_ := Am (Kd.V_below (Kd.V_elderB (kV HL751_0.out) gb759 (Nat.le_of_eq hg.symm)) hb)
           have n4_ := Am (Kd.V_below (Kd.V_elderB (kV HL752_0.out) gb759 (Nat.le_of_eq hg.symm)) hb)
           have n5_ := Am (blk_below (g := gb746) (o := .cells #[.int .u64 x747000_1, .int .u32 x747001_1, .slice Ao17 x747002_1.length co17] 52 (0, 0)) (bK BK746.out) hb)
           have n6_ := Am (Kd.C_below (by repeat (first | (with_reducible exact HR751_0.out) | (with_reducible refine Kd.C_alloc ?_ _) | (with_reducible refine Kd.C_drewN ?_ _) | (with_reducible refine Kd.C_drew ?_) | exact HR751_0.out)) hb)
           have n7_ := Am (Kd.C_below (by repeat (first | (with_reducible exact HR752_0.out) | (with_reducible refine Kd.C_alloc ?_ _) | (with_reducible refine Kd.C_drewN ?_ _) | (with_reducible refine Kd.C_drew ?_) | exact HR752_0.out)) hb)
           have n8_ := Am (below_step (bB HB.out) hb)
           have n9_ := Am (hbox)
           have n10_ := Am ((by rw [hg]; exact (below_size (bB HB.out)) : w.heap.size ≤ gb759))
           have n11_ := Am ((by rw [hg]; exact (below_size (bB HB.out)) : w.heap.size ≤ gb759))
           have n12_ := Am ((by rw [hg]; exact Nat.ne_of_lt (blk_lt (g := gb746) (o := .cells #[.int .u64 x747000_1, .int .u32 x747001_1, .slice Ao17 x747002_1.length co17] 52 (0, 0)) (bK BK746.out)) : gb746 ≠ gb759))
           have n13_ := Am ((by rw [hg]; exact Nat.ne_of_gt (blk_lt (g := gb746) (o := .cells #[.int .u64 x747000_1, .int .u32 x747001_1, .slice Ao17 x747002_1.length co17] 52 (0, 0)) (bK BK746.out)) : gb759 ≠ gb746))
           clear HO_0
           clear HO_4
           clear HO_747002
           clear HL751_0
           clear HL752_0
           clear BK746
           clear HR751_0
           clear HR752_0
           clear HB
           have HO_0 := n0_
           have HO_4 := n1_
           have HO_747002 := n2_
           have HL751_0 := n3_
           have HL752_0 := n4_
           have BK746 := n5_
           have HR751_0 := n6_
           have HR752_0 := n7_
           have HB := n8_
           have BK759 := n9_
           have GW759 := n10_
           have GE759 := n11_
           have NB746_759 := n12_
           have NB759_746 := n13_
           clear n0_ n1_ n2_ n3_ n4_ n5_ n6_ n7_ n8_ n9_ n10_ n11_ n12_ n13_
           clear hb hbox hg
           refine hK.out _ _ ⟨(blk_cell BK746.out 0).trans rfl, (blk_cell BK746.out 1).trans rfl, (blk_cell BK746.out 2).trans rfl, HS3_, HS4_, HS5_, HS6_⟩ (fun hHeld => ?_)
           clear hK K
           refine norm_ (a' := ?_) ?_ ?_
           rotate_left
           ·show Act.put _ (some 7) _ = _
            simp only [Act.put, List.setIfInBounds_toArray, List.set_cons_zero, List.set_cons_succ, i64_w, i32_w]
            rfl
           refine one_ (i := 12) (N := some 34) #[true, true, true, true, true, true, true, true, true, true, true, true, true, false, false, false, true, false, false] rfl rfl (one_of HT_.out (by kernel_rfl)) (by decide) (fun K hK => ?_)
           refine goes_ Try.func33 (by kernel_rfl) rfl #[.agg #[.int .u64 x747000_1, .int .u32 x747001_1, .slice Ao17 x747002_1.length co17], .slice A751_0 ((rd_T58 l0 x6_1).f0).length c751_0, .slice Ao18 x4_1.length co18, .bool ((rd_T58 l0 x6_1).f1)] (by rfl) rfl rfl ls_ ?_
           with_reducible refine (gain_Put.calls kj8 x747000_1 x747001_1 (fun k_ => (((P0_ k_ ∨ w.heap.size ≤ k_) ∧ k_ ≠ gb746) ∧ k_ ≠ gb759)) _ _ x747002_1 _ _ ((rd_T58 l0 x6_1).f0) _ _ x4_1 ((rd_T58 l0 x6_1).f1) t753 t754 t755 t758 _ ?side1 ?side2 ?side3 ?side4 ?side5 A14.out).mono ?_
           (case side1 => exact HO_747002.out)
           (case side2 => repeat (first | exact (by repeat (first | (with_reducible exact HR751_0.out) | (with_reducible refine Kd.C_alloc ?_ _) | (with_reducible refine Kd.C_drewN ?_ _) | (with_reducible refine Kd.C_drew ?_) | exact HR751_0.out)) | (with_reducible refine Kd.C_alloc ?_ _) | (with_reducible refine Kd.C_drewN ?_ _) | (with_reducible refine Kd.C_drew ?_)))
           (case side3 => exact HC751_0.out)
           (case side4 => repeat (first | exact (Kd.V_reads' HO_4.out).2.2 | (with_reducible refine Kd.C_alloc ?_ _) | (with_reducible refine Kd.C_drewN ?_ _) | (with_reducible refine Kd.C_drew ?_)))
           (case side5 => exact (Kd.V_reads' HO_4.out).2.1)
           rintro e w21 ⟨v756, rfl, ho0, hb⟩
           have HS3_ := (hb.cell (World.block_lt_of_cell? _ _ (hHeld.2.2.2.1))).trans (hHeld.2.2.2.1)
           have HS4_ := (hb.cell (World.block_lt_of_cell? _ _ (hHeld.2.2.2.2.1))).trans (hHeld.2.2.2.2.1)
           have HS5_ := (hb.cell (World.block_lt_of_cell? _ _ (hHeld.2.2.2.2.2.1))).trans (hHeld.2.2.2.2.2.1)
           have HS6_ := (hb.cell (World.block_lt_of_cell? _ _ (hHeld.2.2.2.2.2.2))).trans (hHeld.2.2.2.2.2.2)
           refine ⟨_, rfl, ?_⟩
           have n0_ := Am (Kd.V_below (kV HO_0.out) hb)
           have n1_ := Am (Kd.V_below (kV HO_4.out) hb)
           have n2_ := Am (Kd.V_below (kV HO_747002.out) hb)
           have n3_ := Am (Kd.V_below (kV HL751_0.out) hb)
           have n4_ := Am (Kd.V_below (kV HL752_0.out) hb)
           have n5_ := Am (Kd.V_lower (Kd.V_mono (ok' := fun k_ => (P0_ k_ ∨ w.heap.size ≤ k_) ∧ k_ ≠ gb746 ∧ k_ ≠ gb759) ho0 (fun k_ hk_ => ⟨Or.elim hk_ (fun hs_ => hs_.1.1) (fun hn_ => (.inr (Nat.le_trans (below_size (bB HB.out)) hn_))), Or.elim hk_ (fun hs_ => hs_.1.2) (fun hn_ => (Kd.freshB (g := gb746) (o := .cells #[.int .u64 x747000_1, .int .u32 x747001_1, .slice Ao17 x747002_1.length co17] 52 (0, 0)) (bK BK746.out) k_ hn_)), Or.elim hk_ (fun hs_ => hs_.2) (fun hn_ => (Kd.freshB (g := gb759) (o := .cells #[.int .u64 0, .int .u32 0, .slice none 0 0] 52 (0, 0)) (bK BK759.out) k_ hn_))⟩)) (below_size (bB HB.out)))
           have n6_ := Am (blk_below (g := gb746) (o := .cells #[.int .u64 x747000_1, .int .u32 x747001_1, .slice Ao17 x747002_1.length co17] 52 (0, 0)) (bK BK746.out) hb)
           have n7_ := Am (Kd.C_below (by repeat (first | (with_reducible exact HR751_0.out) | (with_reducible refine Kd.C_alloc ?_ _) | (with_reducible refine Kd.C_drewN ?_ _) | (with_reducible refine Kd.C_drew ?_) | exact HR751_0.out)) hb)
           have n8_ := Am (Kd.C_below (by repeat (first | (with_reducible exact HR752_0.out) | (with_reducible refine Kd.C_alloc ?_ _) | (with_reducible refine Kd.C_drewN ?_ _) | (with_reducible refine Kd.C_drew ?_) | exact HR752_0.out)) hb)
           have n9_ := Am (blk_below (g := gb759) (o := .cells #[.int .u64 0, .int .u32 0, .slice none 0 0] 52 (0, 0)) (bK BK759.out) hb)
           have n10_ := Am (below_step (bB HB.out) hb)
           clear HO_0
           clear HO_4
           clear HO_747002
           clear HL751_0
           clear HL752_0
           clear BK746
           clear HR751_0
           clear HR752_0
           clear BK759
           clear HB
           have HO_0 := n0_
           have HO_4 := n1_
           have HO_747002 := n2_
           have HL751_0 := n3_
           have HL752_0 := n4_
           have HO757 := n5_
           have BK746 := n6_
           have HR751_0 := n7_
           have HR752_0 := n8_
           have BK759 := n9_
           have HB := n10_
           clear n0_ n1_ n2_ n3_ n4_ n5_ n6_ n7_ n8_ n9_ n10_
           (try clear hb)
           (try clear hb2)
           (try clear hk)
           (try clear hi)
           (try clear ho0)
           refine hK.out _ _ ⟨(blk_cell BK746.out 0).trans rfl, (blk_cell BK746.out 1).trans rfl, (blk_cell BK746.out 2).trans rfl, HS3_, HS4_, HS5_, HS6_⟩ (fun hHeld => ?_)
           clear hK K
           refine norm_ (a' := ?_) ?_ ?_
           rotate_left
           ·show Act.put _ (some 34) _ = _
            simp only [Act.put, List.setIfInBounds_toArray, List.set_cons_zero, List.set_cons_succ, i64_w, i32_w]
            rfl
           refine pure_ (i := 13) (N := some 21) (v := ?_) (a' := ?_) #[true, true, true, true, true, true, true, true, true, true, true, true, true, true, false, false, true, false, false] rfl rfl (any_of HT_.out (by kernel_rfl)) (fun _ _ _ h => h) (Or.inl ⟨by rfl, ?_⟩) ?_ ?_
           rotate_left
           ·intro w'
            go_simp
            with_reducible rfl
           rotate_left
           ·simp only [Act.put, List.setIfInBounds_toArray, List.set_cons_zero, List.set_cons_succ, i64_w, i32_w]
            rfl
           refine pure_ (i := 14) (N := some 35) (v := ?_) (a' := ?_) #[true, true, true, true, true, true, true, true, true, true, true, true, true, true, true, false, true, false, false] rfl rfl (any_of HT_.out (by kernel_rfl)) (fun _ _ _ h => h) (Or.inl ⟨by rfl, ?_⟩) ?_ ?_
           rotate_left
           ·intro w'
            go_simp
            with_reducible rfl
           rotate_left
           ·simp only [Act.put, List.setIfInBounds_toArray, List.set_cons_zero, List.set_cons_succ, i64_w, i32_w]
            rfl
           refine pure_ (i := 15) (N := some 36) (v := ?_) (a' := ?_) #[true, true, true, true, true, true, true, true, true, true, true, true, true, true, true, true, true, false, false] rfl rfl (any_of HT_.out (by kernel_rfl)) (fun _ _ _ h => h) (Or.inl ⟨by rfl, ?_⟩) ?_ ?_
           rotate_left
           ·intro w'
            go_simp
            with_reducible rfl
           rotate_left
           ·simp only [Act.put, List.setIfInBounds_toArray, List.set_cons_zero, List.set_cons_succ, i64_w, i32_w]
            rfl
           exact norm_ (by simp only [putAll, Act.put, List.setIfInBounds_toArray, List.set_cons_zero, List.set_cons_succ]) (hCont (v756, gb759) _ ⟨hHeld, (by (with_reducible repeat (first | apply Kd.V_alloc | apply Kd.V_drewN | apply Kd.V_drew)); exact Kd.V_mono HL751_0.out (fun _ hk => ⟨hk.1.1, ⟨hk.1.2, hk.2⟩⟩)), (by (with_reducible repeat (first | apply Kd.V_alloc | apply Kd.V_drewN | apply Kd.V_drew)); exact Kd.V_mono HL752_0.out (fun _ hk => ⟨hk.1.1, ⟨hk.1.2, hk.2⟩⟩)), (kV HO757.out), (by (with_reducible repeat (first | apply Kd.V_alloc | apply Kd.V_drewN | apply Kd.V_drew)); exact Kd.V_mono HO_0.out (fun _ hk => ⟨hk.1.1, ⟨hk.1.2, hk.2⟩⟩)), (by (with_reducible repeat (first | apply Kd.V_alloc | apply Kd.V_drewN | apply Kd.V_drew)); exact Kd.V_mono HO_4.out (fun _ hk => ⟨hk.1.1, ⟨hk.1.2, hk.2⟩⟩)), (by (with_reducible repeat (first | apply Kd.V_alloc | apply Kd.V_drewN | apply Kd.V_drew)); exact Kd.V_mono HO_747002.out (fun _ hk => ⟨hk.1.1, ⟨hk.1.2, hk.2⟩⟩)), (bK BK746.out), (bK BK759.out), GW759.out, GE759.out, NB746_759.out, NB759_746.out, (bB HB.out)⟩)
         rintro ⟨v756, gb759⟩ w22 ⟨hS_, h0_, h1_, h2_, h3_, h4_, h5_, h6_, h7_, h8_, h9_, h10_, h11_, h12_⟩
         have n0_ : Aside0 (Kd.V (Kd.int .i64) 3 w22 w.heap.size (fun k_ => (P0_ k_ ∨ w.heap.size ≤ k_) ∧ k_ ≠ gb746 ∧ k_ ≠ gb759) (.slice A751_0 ((rd_T58 l0 x6_1).f0).length c751_0) ((rd_T58 l0 x6_1).f0)) := ⟨h0_⟩
         have n1_ : Aside0 (Kd.V (Kd.int .i64) 3 w22 w.heap.size (fun k_ => (P0_ k_ ∨ w.heap.size ≤ k_) ∧ k_ ≠ gb746 ∧ k_ ≠ gb759) (.slice A751_0 ((rd_T58 l0 x6_1).f0).length c751_0) ((rd_T58 l0 x6_1).f0)) := ⟨h1_⟩
         have n2_ : Aside0 (Kd.V (Kd.int .u8) 5 w22 w.heap.size (fun k_ => (P0_ k_ ∨ w.heap.size ≤ k_) ∧ k_ ≠ gb746 ∧ k_ ≠ gb759) v756 t755) := ⟨h2_⟩
         have n3_ : Aside0 (Kd.V k58 58 w22 w.heap.size (fun k_ => (P0_ k_ ∨ w.heap.size ≤ k_) ∧ k_ ≠ gb746 ∧ k_ ≠ gb759) (.slice (some ad751) l0.length c0) l0) := ⟨h3_⟩
         have n4_ : Aside0 (Kd.V (Kd.int .i64) 3 w22 w.heap.size (fun k_ => (P0_ k_ ∨ w.heap.size ≤ k_) ∧ k_ ≠ gb746 ∧ k_ ≠ gb759) (.slice Ao18 x4_1.length co18) x4_1) := ⟨h4_⟩
         have n5_ : Aside0 (Kd.V (Kd.int .u8) 5 w22 w.heap.size (fun k_ => (P0_ k_ ∨ w.heap.size ≤ k_) ∧ k_ ≠ gb746 ∧ k_ ≠ gb759) (.slice Ao17 x747002_1.length co17) x747002_1) := ⟨h5_⟩
         have n6_ : Aside0 (w22.heap[gb746]? = some (.cells #[.int .u64 x747000_1, .int .u32 x747001_1, .slice Ao17 x747002_1.length co17] 52 (0, 0))) := ⟨h6_⟩
         have n7_ : Aside0 (w22.heap[gb759]? = some (.cells #[.int .u64 0, .int .u32 0, .slice none 0 0] 52 (0, 0))) := ⟨h7_⟩
         have n8_ : Aside0 (w.heap.size ≤ gb759) := ⟨h8_⟩
         have n9_ : Aside0 (w.heap.size ≤ gb759) := ⟨h9_⟩
         have n10_ : Aside0 (gb746 ≠ gb759) := ⟨h10_⟩
         have n11_ : Aside0 (gb759 ≠ gb746) := ⟨h11_⟩
         have n12_ : Aside0 (Below w.heap.size w w22) := ⟨h12_⟩
         clear HO_0
         clear HO_4
         clear HO_747002
         clear BK746
         clear HB
         clear h0_ h1_ h2_ h3_ h4_ h5_ h6_ h7_ h8_ h9_ h10_ h11_ h12_
         have HL751_0 := n0_
         have HL752_0 := n1_
         have HO757 := n2_
         have HO_0 := n3_
         have HO_4 := n4_
         have HO_747002 := n5_
         have BK746 := n6_
         have BK759 := n7_
         have GW759 := n8_
         have GE759 := n9_
         have NB746_759 := n10_
         have NB759_746 := n11_
         have HB := n12_
         clear n0_ n1_ n2_ n3_ n4_ n5_ n6_ n7_ n8_ n9_ n10_ n11_ n12_
         have hHeld : w22.cell? ⟨gb746, 0, none⟩ = some (.int .u64 x747000_1) ∧ w22.cell? ⟨gb746, 1, none⟩ = some (.int .u32 x747001_1) ∧ w22.cell? ⟨gb746, 2, none⟩ = some (.slice Ao17 x747002_1.length co17) ∧ w22.cell? (ad751.add ((x6_1).toNat * 2)) = some (.slice A751_0 ((rd_T58 l0 x6_1).f0).length c751_0) ∧ w22.cell? ⟨(ad751.add ((x6_1).toNat * 2)).block, (ad751.add ((x6_1).toNat * 2)).off + 1, none⟩ = some (.bool ((rd_T58 l0 x6_1).f1)) ∧ w22.cell? (ad751.add ((x6_1).toNat * 2)) = some (.slice A751_0 ((rd_T58 l0 x6_1).f0).length c751_0) ∧ w22.cell? ⟨(ad751.add ((x6_1).toNat * 2)).block, (ad751.add ((x6_1).toNat * 2)).off + 1, none⟩ = some (.bool ((rd_T58 l0 x6_1).f1)) := hS_
         obtain ⟨Ao25, co25, eo25⟩ := Kd.V_slice HO757.out
         (first | subst eo25 | (injection eo25 with f1_ f2_ f3_; have f4_ := f1_.symm; have f5_ := f3_.symm; clear f1_ f2_ f3_; subst f4_; subst f5_))
         refine norm_ (a' := ?_) ?_ ?_
         rotate_left
         ·simp only [putAll, Act.put, List.setIfInBounds_toArray, List.set_cons_zero, List.set_cons_succ]
          rfl
         refine one_ (i := 17) (N := none) #[true, true, true, true, true, true, true, true, true, true, true, true, true, true, true, true, true, true, false] rfl rfl (one_of HT_.out (by kernel_rfl)) (by decide) (fun K hK => ?_)
         have hs23 : w22.cell? ⟨gb759, 0, none⟩ = some (.int .u64 0) := (blk_cell BK759.out 0).trans rfl
         have hfs23 := blk_frozen BK759.out 0
         have hns23_0 := NB746_759.out
         have hms23_0 := NB759_746.out
         have hs24 : w22.cell? ⟨gb759, 1, none⟩ = some (.int .u32 0) := (blk_cell BK759.out 1).trans rfl
         have hfs24 := blk_frozen BK759.out 1
         have hns24_0 := NB746_759.out
         have hms24_0 := NB759_746.out
         have hs26 : w22.cell? ⟨gb759, 2, none⟩ = some (.slice none 0 0) := (blk_cell BK759.out 2).trans rfl
         have hfs26 := blk_frozen BK759.out 2
         have hns26_0 := NB746_759.out
         have hms26_0 := NB759_746.out
         refine skip_ (w1 := ?_) (by rfl) rfl ?_ ?_
         rotate_left
         ·go_simp
          rfl
         refine hK.out _ _ ⟨((cell_far (p := ⟨gb759, _, none⟩) NB746_759.out _).trans (((cell_far (p := ⟨gb759, _, none⟩) NB746_759.out _).trans (((cell_far (p := ⟨gb759, _, none⟩) NB746_759.out _).trans (hHeld.1)))))), ((cell_far (p := ⟨gb759, _, none⟩) NB746_759.out _).trans (((cell_far (p := ⟨gb759, _, none⟩) NB746_759.out _).trans (((cell_far (p := ⟨gb759, _, none⟩) NB746_759.out _).trans (hHeld.2.1)))))), ((cell_far (p := ⟨gb759, _, none⟩) NB746_759.out _).trans (((cell_far (p := ⟨gb759, _, none⟩) NB746_759.out _).trans (((cell_far (p := ⟨gb759, _, none⟩) NB746_759.out _).trans (hHeld.2.2.1)))))), ((cell_far (p := ⟨gb759, _, none⟩) (aB (V_awayB HO_0.out (of_eq_true p752) (of_eq_true q752) (by decide) (fun _ hk => hk.2.2))) _).trans (((cell_far (p := ⟨gb759, _, none⟩) (aB (V_awayB HO_0.out (of_eq_true p752) (of_eq_true q752) (by decide) (fun _ hk => hk.2.2))) _).trans (((cell_far (p := ⟨gb759, _, none⟩) (aB (V_awayB HO_0.out (of_eq_true p752) (of_eq_true q752) (by decide) (fun _ hk => hk.2.2))) _).trans (hHeld.2.2.2.1)))))), ((cell_far (p := ⟨gb759, _, none⟩) (aB (V_awayB HO_0.out (of_eq_true p752) (of_eq_true q752) (by decide) (fun _ hk => hk.2.2))) _).trans (((cell_far (p := ⟨gb759, _, none⟩) (aB (V_awayB HO_0.out (of_eq_true p752) (of_eq_true q752) (by decide) (fun _ hk => hk.2.2))) _).trans (((cell_far (p := ⟨gb759, _, none⟩) (aB (V_awayB HO_0.out (of_eq_true p752) (of_eq_true q752) (by decide) (fun _ hk => hk.2.2))) _).trans (hHeld.2.2.2.2.1)))))), ((cell_far (p := ⟨gb759, _, none⟩) (aB (V_awayB HO_0.out (of_eq_true p752) (of_eq_true q752) (by decide) (fun _ hk => hk.2.2))) _).trans (((cell_far (p := ⟨gb759, _, none⟩) (aB (V_awayB HO_0.out (of_eq_true p752) (of_eq_true q752) (by decide) (fun _ hk => hk.2.2))) _).trans (((cell_far (p := ⟨gb759, _, none⟩) (aB (V_awayB HO_0.out (of_eq_true p752) (of_eq_true q752) (by decide) (fun _ hk => hk.2.2))) _).trans (hHeld.2.2.2.2.2.1)))))), ((cell_far (p := ⟨gb759, _, none⟩) (aB (V_awayB HO_0.out (of_eq_true p752) (of_eq_true q752) (by decide) (fun _ hk => hk.2.2))) _).trans (((cell_far (p := ⟨gb759, _, none⟩) (aB (V_awayB HO_0.out (of_eq_true p752) (of_eq_true q752) (by decide) (fun _ hk => hk.2.2))) _).trans (((cell_far (p := ⟨gb759, _, none⟩) (aB (V_awayB HO_0.out (of_eq_true p752) (of_eq_true q752) (by decide) (fun _ hk => hk.2.2))) _).trans (hHeld.2.2.2.2.2.2))))))⟩ (fun hHeld => ?_)
         clear hK K
         refine pure_ (i := 18) (N := some 8) (v := ?_) (a' := ?_) #[true, true, true, true, true, true, true, true, true, true, true, true, true, true, true, true, true, true, true] rfl rfl (any_of HT_.out (by kernel_rfl)) (fun _ _ _ h => h) (Or.inl ⟨by rfl, ?_⟩) ?_ ?_
         rotate_left
         ·intro w'
          go_simp
          with_reducible rfl
         rotate_left
         ·simp only [Act.put, List.setIfInBounds_toArray, List.set_cons_zero, List.set_cons_succ, i64_w, i32_w]
          rfl
         refine done_ (done_of HT_.out (by kernel_rfl)) ?_
         have n0_ : Aside0 (Kd.V k58 58 (((w22.setCell ⟨gb759, 0, none⟩ (.int .u64 t753)).setCell ⟨gb759, 1, none⟩ (.int .u32 t754)).setCell ⟨gb759, 2, none⟩ (.slice Ao25 t755.length co25)) w.heap.size (fun k_ => (P0_ k_ ∨ w.heap.size ≤ k_) ∧ k_ ≠ gb746 ∧ k_ ≠ gb759) (.slice (some ad751) l0.length c0) l0) := ⟨by (with_reducible repeat (first | apply Kd.V_alloc | apply Kd.V_drewN | apply Kd.V_drew)); exact Kd.V_mono (Kd.V_far (p := ⟨gb759, 2, none⟩) (Kd.V_far (p := ⟨gb759, 1, none⟩) (Kd.V_far (p := ⟨gb759, 0, none⟩) (Kd.V_mono HO_0.out (fun k_ hk => (⟨hk, hk.2.2⟩ : _ ∧ k_ ≠ gb759))) (fun _ hk => hk.2) (.int .u64 t753)) (fun _ hk => hk.2) (.int .u32 t754)) (fun _ hk => hk.2) (.slice Ao25 t755.length co25)) (fun _ hk => ⟨hk.1.1, ⟨hk.1.2.1, hk.1.2.2⟩⟩)⟩
         have n1_ : Aside0 (Kd.V (Kd.int .i64) 3 (((w22.setCell ⟨gb759, 0, none⟩ (.int .u64 t753)).setCell ⟨gb759, 1, none⟩ (.int .u32 t754)).setCell ⟨gb759, 2, none⟩ (.slice Ao25 t755.length co25)) w.heap.size (fun k_ => (P0_ k_ ∨ w.heap.size ≤ k_) ∧ k_ ≠ gb746 ∧ k_ ≠ gb759) (.slice Ao18 x4_1.length co18) x4_1) := ⟨by (with_reducible repeat (first | apply Kd.V_alloc | apply Kd.V_drewN | apply Kd.V_drew)); exact Kd.V_mono (Kd.V_far (p := ⟨gb759, 2, none⟩) (Kd.V_far (p := ⟨gb759, 1, none⟩) (Kd.V_far (p := ⟨gb759, 0, none⟩) (Kd.V_mono HO_4.out (fun k_ hk => (⟨hk, hk.2.2⟩ : _ ∧ k_ ≠ gb759))) (fun _ hk => hk.2) (.int .u64 t753)) (fun _ hk => hk.2) (.int .u32 t754)) (fun _ hk => hk.2) (.slice Ao25 t755.length co25)) (fun _ hk => ⟨hk.1.1, ⟨hk.1.2.1, hk.1.2.2⟩⟩)⟩
         have n2_ : Aside0 (Kd.V (Kd.int .u8) 5 (((w22.setCell ⟨gb759, 0, none⟩ (.int .u64 t753)).setCell ⟨gb759, 1, none⟩ (.int .u32 t754)).setCell ⟨gb759, 2, none⟩ (.slice Ao25 t755.length co25)) w.heap.size (fun k_ => (P0_ k_ ∨ w.heap.size ≤ k_) ∧ k_ ≠ gb746 ∧ k_ ≠ gb759) (.slice Ao17 x747002_1.length co17) x747002_1) := ⟨by (with_reducible repeat (first | apply Kd.V_alloc | apply Kd.V_drewN | apply Kd.V_drew)); exact Kd.V_mono (Kd.V_far (p := ⟨gb759, 2, none⟩) (Kd.V_far (p := ⟨gb759, 1, none⟩) (Kd.V_far (p := ⟨gb759, 0, none⟩) (Kd.V_mono HO_747002.out (fun k_ hk => (⟨hk, hk.2.2⟩ : _ ∧ k_ ≠ gb759))) (fun _ hk => hk.2) (.int .u64 t753)) (fun _ hk => hk.2) (.int .u32 t754)) (fun _ hk => hk.2) (.slice Ao25 t755.length co25)) (fun _ hk => ⟨hk.1.1, ⟨hk.1.2.1, hk.1.2.2⟩⟩)⟩
         have n3_ : Aside0 (Kd.V (Kd.int .i64) 3 (((w22.setCell ⟨gb759, 0, none⟩ (.int .u64 t753)).setCell ⟨gb759, 1, none⟩ (.int .u32 t754)).setCell ⟨gb759, 2, none⟩ (.slice Ao25 t755.length co25)) w.heap.size (fun k_ => (P0_ k_ ∨ w.heap.size ≤ k_) ∧ k_ ≠ gb746 ∧ k_ ≠ gb759) (.slice A751_0 ((rd_T58 l0 x6_1).f0).length c751_0) ((rd_T58 l0 x6_1).f0)) := ⟨by (with_reducible repeat (first | apply Kd.V_alloc | apply Kd.V_drewN | apply Kd.V_drew)); exact Kd.V_mono (Kd.V_far (p := ⟨gb759, 2, none⟩) (Kd.V_far (p := ⟨gb759, 1, none⟩) (Kd.V_far (p := ⟨gb759, 0, none⟩) (Kd.V_mono HL751_0.out (fun k_ hk => (⟨hk, hk.2.2⟩ : _ ∧ k_ ≠ gb759))) (fun _ hk => hk.2) (.int .u64 t753)) (fun _ hk => hk.2) (.int .u32 t754)) (fun _ hk => hk.2) (.slice Ao25 t755.length co25)) (fun _ hk => ⟨hk.1.1, ⟨hk.1.2.1, hk.1.2.2⟩⟩)⟩
         have n4_ : Aside0 (Kd.V (Kd.int .i64) 3 (((w22.setCell ⟨gb759, 0, none⟩ (.int .u64 t753)).setCell ⟨gb759, 1, none⟩ (.int .u32 t754)).setCell ⟨gb759, 2, none⟩ (.slice Ao25 t755.length co25)) w.heap.size (fun k_ => (P0_ k_ ∨ w.heap.size ≤ k_) ∧ k_ ≠ gb746 ∧ k_ ≠ gb759) (.slice A751_0 ((rd_T58 l0 x6_1).f0).length c751_0) ((rd_T58 l0 x6_1).f0)) := ⟨by (with_reducible repeat (first | apply Kd.V_alloc | apply Kd.V_drewN | apply Kd.V_drew)); exact Kd.V_mono (Kd.V_far (p := ⟨gb759, 2, none⟩) (Kd.V_far (p := ⟨gb759, 1, none⟩) (Kd.V_far (p := ⟨gb759, 0, none⟩) (Kd.V_mono HL752_0.out (fun k_ hk => (⟨hk, hk.2.2⟩ : _ ∧ k_ ≠ gb759))) (fun _ hk => hk.2) (.int .u64 t753)) (fun _ hk => hk.2) (.int .u32 t754)) (fun _ hk => hk.2) (.slice Ao25 t755.length co25)) (fun _ hk => ⟨hk.1.1, ⟨hk.1.2.1, hk.1.2.2⟩⟩)⟩
         have n5_ : Aside0 (Kd.V (Kd.int .u8) 5 (((w22.setCell ⟨gb759, 0, none⟩ (.int .u64 t753)).setCell ⟨gb759, 1, none⟩ (.int .u32 t754)).setCell ⟨gb759, 2, none⟩ (.slice Ao25 t755.length co25)) w.heap.size (fun k_ => (P0_ k_ ∨ w.heap.size ≤ k_) ∧ k_ ≠ gb746 ∧ k_ ≠ gb759) (.slice Ao25 t755.length co25) t755) := ⟨by (with_reducible repeat (first | apply Kd.V_alloc | apply Kd.V_drewN | apply Kd.V_drew)); exact Kd.V_mono (Kd.V_far (p := ⟨gb759, 2, none⟩) (Kd.V_far (p := ⟨gb759, 1, none⟩) (Kd.V_far (p := ⟨gb759, 0, none⟩) (Kd.V_mono HO757.out (fun k_ hk => (⟨hk, hk.2.2⟩ : _ ∧ k_ ≠ gb759))) (fun _ hk => hk.2) (.int .u64 t753)) (fun _ hk => hk.2) (.int .u32 t754)) (fun _ hk => hk.2) (.slice Ao25 t755.length co25)) (fun _ hk => ⟨hk.1.1, ⟨hk.1.2.1, hk.1.2.2⟩⟩)⟩
         have n6_ : Aside0 ((((w22.setCell ⟨gb759, 0, none⟩ (.int .u64 t753)).setCell ⟨gb759, 1, none⟩ (.int .u32 t754)).setCell ⟨gb759, 2, none⟩ (.slice Ao25 t755.length co25)).heap[gb746]? = some (.cells #[.int .u64 x747000_1, .int .u32 x747001_1, .slice Ao17 x747002_1.length co17] 52 (0, 0))) := ⟨by (with_reducible repeat (first | refine blk_drewN ?_ _ | refine blk_drew ?_ | refine blk_alloc ?_ _)); refine blk_far ?_ NB746_759.out _; (with_reducible repeat (first | refine blk_drewN ?_ _ | refine blk_drew ?_ | refine blk_alloc ?_ _)); refine blk_far ?_ NB746_759.out _; (with_reducible repeat (first | refine blk_drewN ?_ _ | refine blk_drew ?_ | refine blk_alloc ?_ _)); refine blk_far ?_ NB746_759.out _; (with_reducible repeat (first | refine blk_drewN ?_ _ | refine blk_drew ?_ | refine blk_alloc ?_ _)); exact BK746.out⟩
         have n7_ : Aside0 ((((w22.setCell ⟨gb759, 0, none⟩ (.int .u64 t753)).setCell ⟨gb759, 1, none⟩ (.int .u32 t754)).setCell ⟨gb759, 2, none⟩ (.slice Ao25 t755.length co25)).heap[gb759]? = some (.cells #[.int .u64 t753, .int .u32 t754, .slice Ao25 t755.length co25] 52 (0, 0))) := ⟨by (with_reducible repeat (first | refine blk_drewN ?_ _ | refine blk_drew ?_ | refine blk_alloc ?_ _)); refine blk_put (cs := #[.int .u64 t753, .int .u32 t754, .slice none 0 0]) ?_ 2 _ rfl; (with_reducible repeat (first | refine blk_drewN ?_ _ | refine blk_drew ?_ | refine blk_alloc ?_ _)); refine blk_put (cs := #[.int .u64 t753, .int .u32 0, .slice none 0 0]) ?_ 1 _ rfl; (with_reducible repeat (first | refine blk_drewN ?_ _ | refine blk_drew ?_ | refine blk_alloc ?_ _)); refine blk_put (cs := #[.int .u64 0, .int .u32 0, .slice none 0 0]) ?_ 0 _ rfl; (with_reducible repeat (first | refine blk_drewN ?_ _ | refine blk_drew ?_ | refine blk_alloc ?_ _)); exact BK759.out⟩
         have n8_ : Aside0 (Below w.heap.size w (((w22.setCell ⟨gb759, 0, none⟩ (.int .u64 t753)).setCell ⟨gb759, 1, none⟩ (.int .u32 t754)).setCell ⟨gb759, 2, none⟩ (.slice Ao25 t755.length co25))) := ⟨bB HB.out⟩
         (try clear HO_0)
         (try clear HO_4)
         (try clear HO_747002)
         (try clear HL751_0)
         (try clear HL752_0)
         (try clear HO757)
         (try clear BK746)
         (try clear BK759)
         (try clear HB)
         generalize (((w22.setCell ⟨gb759, 0, none⟩ (.int .u64 t753)).setCell ⟨gb759, 1, none⟩ (.int .u32 t754)).setCell ⟨gb759, 2, none⟩ (.slice Ao25 t755.length co25)) = w27 at n0_ n1_ n2_ n3_ n4_ n5_ n6_ n7_ n8_ ⊢
         have HO_0 := n0_
         have HO_4 := n1_
         have HO_747002 := n2_
         have HL751_0 := n3_
         have HL752_0 := n4_
         have HO757 := n5_
         have BK746 := n6_
         have BK759 := n7_
         have HB := n8_
         clear n0_ n1_ n2_ n3_ n4_ n5_ n6_ n7_ n8_
         have p760 : 0 ≤ (x6_1 : Int) := of_decide_eq_true as_
         have q760 : x6_1 < (l0.length : Int) := of_decide_eq_true as_
         obtain ⟨ad760, A760_0, c760_0, e760, hx760_0, hx760_1, hl760_0, hi760_0⟩ := at_T58 (Kd.V_reads' HO_0.out).2.2 x6_1 p760 q760
         obtain rfl : ad751 = ad760 := (by injection e760)
         obtain ⟨ce760, hce760, hMe760, hcc760⟩ := Kd.V_get HO_0.out z58 x6_1 p760 (by first | exact q760 | exact of_decide_eq_true as_ | (have e_ := (Kd.V_reads' HO_0.out).1; omega))
         obtain ⟨ua760_0, uc760_0, rfl, ul760_0, ge760_0⟩ := k58_openF hMe760
         have hv760_0 := hcc760 0 _ rfl
         rw [Nat.add_zero] at hv760_0
         replace hv760_0 := Option.some.inj (hv760_0.symm.trans hx760_0)
         injection hv760_0 with hva_ hvn_ hvc_
         rw [hva_] at ge760_0
         rw [hvc_] at ul760_0
         have HL760_0 := Am (show Kd.V (Kd.int .i64) 3 _ w.heap.size _ _ ((rd_T58 l0 x6_1).f0) from Kd.V_mk ul760_0 ge760_0)
         clear hva_ hvn_ hvc_ ge760_0 ul760_0
         clear hcc760 hce760
         have HR760_0 := Am hi760_0
         have HC760_0 := Am hl760_0
         clear hi760_0 hl760_0
         replace p760 := eq_true p760
         replace q760 := eq_true q760
         try go_wp2_with (first | ((with_reducible refine gate_callee (f := 39) rfl ?_); refine goesL_ (some 45) rfl rfl Try.func39 (by kernel_rfl) rfl #[.bool ((rd_T58 l0 x6_1).f1)] rfl ls_ ?_; (with_reducible refine (gain_Most.calls ((rd_T58 l0 x6_1).f1) t761 _ A16.out).mono ?_); rintro e w28 ⟨rfl, hb⟩; refine ⟨_, rfl, ?_⟩; have n0_ := Am (Kd.V_below (kV HO_0.out) hb); have n1_ := Am (Kd.V_below (kV HO_4.out) hb); have n2_ := Am (Kd.V_below (kV HO_747002.out) hb); have n3_ := Am (Kd.V_below (kV HL751_0.out) hb); have n4_ := Am (Kd.V_below (kV HL752_0.out) hb); have n5_ := Am (Kd.V_below (kV HO757.out) hb); have n6_ := Am (Kd.V_below (kV HL760_0.out) hb); have n7_ := Am (blk_below (g := gb746) (o := .cells #[.int .u64 x747000_1, .int .u32 x747001_1, .slice Ao17 x747002_1.length co17] 52 (0, 0)) (bK BK746.out) hb); have n8_ := Am (blk_below (g := gb759) (o := .cells #[.int .u64 t753, .int .u32 t754, .slice Ao25 t755.length co25] 52 (0, 0)) (bK BK759.out) hb); have n9_ := Am (Kd.C_below (by repeat (first | (with_reducible exact HR760_0.out) | (with_reducible refine Kd.C_alloc ?_ _) | (with_reducible refine Kd.C_drewN ?_ _) | (with_reducible refine Kd.C_drew ?_) | exact HR760_0.out)) hb); have n10_ := Am (below_step (bB HB.out) hb); clear HO_0; clear HO_4; clear HO_747002; clear HL751_0; clear HL752_0; clear HO757; clear HL760_0; clear BK746; clear BK759; clear HR760_0; clear HB; have HO_0 := n0_; have HO_4 := n1_; have HO_747002 := n2_; have HL751_0 := n3_; have HL752_0 := n4_; have HO757 := n5_; have HL760_0 := n6_; have BK746 := n7_; have BK759 := n8_; have HR760_0 := n9_; have HB := n10_; clear n0_ n1_ n2_ n3_ n4_ n5_ n6_ n7_ n8_ n9_ n10_; (try clear hb); (try clear hb2); (try clear hk); (try clear hi); have p762 : 0 ≤ (x6_1 : Int) := of_decide_eq_true as_; have q762 : x6_1 < (l0.length : Int) := of_decide_eq_true as_; obtain ⟨ad762, A762_0, c762_0, e762, hx762_0, hx762_1, hl762_0, hi762_0⟩ := at_T58 (Kd.V_reads' HO_0.out).2.2 x6_1 p762 q762; obtain rfl : ad751 = ad762 := (by injection e762); obtain ⟨ce762, hce762, hMe762, hcc762⟩ := Kd.V_get HO_0.out z58 x6_1 p762 (by first | exact q762 | exact of_decide_eq_true as_ | (have e_ := (Kd.V_reads' HO_0.out).1; omega)); obtain ⟨ua762_0, uc762_0, rfl, ul762_0, ge762_0⟩ := k58_openF hMe762; have hv762_0 := hcc762 0 _ rfl; rw [Nat.add_zero] at hv762_0; replace hv762_0 := Option.some.inj (hv762_0.symm.trans hx762_0); injection hv762_0 with hva_ hvn_ hvc_; rw [hva_] at ge762_0; rw [hvc_] at ul762_0; have HL762_0 := Am (show Kd.V (Kd.int .i64) 3 _ w.heap.size _ _ ((rd_T58 l0 x6_1).f0) from Kd.V_mk ul762_0 ge762_0); clear hva_ hvn_ hvc_ ge762_0 ul762_0; clear hcc762 hce762; have HR762_0 := Am hi762_0; have HC762_0 := Am hl762_0; clear hi762_0 hl762_0; replace p762 := eq_true p762; replace q762 := eq_true q762; have hnb29 := NB759_746.out; have hnc29 := NB746_759.out; have hcz30_0 : w28.cell? ⟨gb759, 0, none⟩ = some (.int .u64 t753) := (blk_cell BK759.out 0).trans rfl; have hcz30_1 : w28.cell? ⟨gb759, 1, none⟩ = some (.int .u32 t754) := (blk_cell BK759.out 1).trans rfl; have hcz30_2 : w28.cell? ⟨gb759, 2, none⟩ = some (.slice Ao25 t755.length co25) := (blk_cell BK759.out 2).trans rfl; have hfz30_0 := blk_frozen BK759.out 0; have hfz30_1 := blk_frozen BK759.out 1; have hfz30_2 := blk_frozen BK759.out 2; have hcz31_0 : w28.cell? ⟨gb746, 0, none⟩ = some (.int .u64 x747000_1) := (blk_cell BK746.out 0).trans rfl; have hcz31_1 : w28.cell? ⟨gb746, 1, none⟩ = some (.int .u32 x747001_1) := (blk_cell BK746.out 1).trans rfl; have hcz31_2 : w28.cell? ⟨gb746, 2, none⟩ = some (.slice Ao17 x747002_1.length co17) := (blk_cell BK746.out 2).trans rfl; have hfz31_0 := blk_frozen BK746.out 0; have hfz31_1 := blk_frozen BK746.out 1; have hfz31_2 := blk_frozen BK746.out 2))
         go_roundg kj8
         case measure => have := HK1.out; have := HJ8.out; omega
         case rel => exact ⟨((rd_T58 l0 x6_1).f0), (wrap64 (x5_1 + t761)), (wrap64 (x6_1 + 1)), (t753), (t754), (t755), (.slice Ao25 t755.length co25), rs_, rs_, H', ⟨by have := HK1.out; have := HJ8.out; omega⟩, ⟨by (with_reducible repeat (first | apply Kd.V_alloc | apply Kd.V_drewN | apply Kd.V_drew)); exact Kd.V_mono (Kd.V_far (p := ⟨gb746, 2, none⟩) (Kd.V_far (p := ⟨gb746, 1, none⟩) (Kd.V_far (p := ⟨gb746, 0, none⟩) (Kd.V_mono HO_0.out (fun k_ hk => (⟨hk, hk.2.1⟩ : _ ∧ k_ ≠ gb746))) (fun _ hk => hk.2) (.int .u64 t753)) (fun _ hk => hk.2) (.int .u32 t754)) (fun _ hk => hk.2) (.slice Ao25 t755.length co25)) (fun _ hk => ⟨hk.1.1, hk.1.2.1⟩)⟩, ⟨by (with_reducible repeat (first | apply Kd.V_alloc | apply Kd.V_drewN | apply Kd.V_drew)); exact Kd.V_mono (Kd.V_far (p := ⟨gb746, 2, none⟩) (Kd.V_far (p := ⟨gb746, 1, none⟩) (Kd.V_far (p := ⟨gb746, 0, none⟩) (Kd.V_mono HL762_0.out (fun k_ hk => (⟨hk, hk.2.1⟩ : _ ∧ k_ ≠ gb746))) (fun _ hk => hk.2) (.int .u64 t753)) (fun _ hk => hk.2) (.int .u32 t754)) (fun _ hk => hk.2) (.slice Ao25 t755.length co25)) (fun _ hk => ⟨hk.1.1, hk.1.2.1⟩)⟩, ⟨by (with_reducible repeat (first | apply Kd.V_alloc | apply Kd.V_drewN | apply Kd.V_drew)); exact Kd.V_mono (Kd.V_far (p := ⟨gb746, 2, none⟩) (Kd.V_far (p := ⟨gb746, 1, none⟩) (Kd.V_far (p := ⟨gb746, 0, none⟩) (Kd.V_mono HO757.out (fun k_ hk => (⟨hk, hk.2.1⟩ : _ ∧ k_ ≠ gb746))) (fun _ hk => hk.2) (.int .u64 t753)) (fun _ hk => hk.2) (.int .u32 t754)) (fun _ hk => hk.2) (.slice Ao25 t755.length co25)) (fun _ hk => ⟨hk.1.1, hk.1.2.1⟩)⟩, ⟨by (with_reducible repeat (first | refine blk_drewN ?_ _ | refine blk_drew ?_ | refine blk_alloc ?_ _)); refine blk_put (cs := #[.int .u64 t753, .int .u32 t754, .slice Ao17 x747002_1.length co17]) ?_ 2 _ rfl; (with_reducible repeat (first | refine blk_drewN ?_ _ | refine blk_drew ?_ | refine blk_alloc ?_ _)); refine blk_put (cs := #[.int .u64 t753, .int .u32 x747001_1, .slice Ao17 x747002_1.length co17]) ?_ 1 _ rfl; (with_reducible repeat (first | refine blk_drewN ?_ _ | refine blk_drew ?_ | refine blk_alloc ?_ _)); refine blk_put (cs := #[.int .u64 x747000_1, .int .u32 x747001_1, .slice Ao17 x747002_1.length co17]) ?_ 0 _ rfl; (with_reducible repeat (first | refine blk_drewN ?_ _ | refine blk_drew ?_ | refine blk_alloc ?_ _)); exact BK746.out⟩, ⟨bB HB.out⟩⟩
        ·rw [if_neg c15] at H
         have c15b0 : (t758 == 0) = false := beq_eq_false_iff_ne.mpr c15
         have c15b1 : (t758 != 0) = true := bne_iff_ne.mpr c15
         have H' := Am H
         clear H
         obtain ⟨Ao32, co32, eo32⟩ := Kd.V_slice HO_747002.out
         subst eo32
         obtain ⟨Ao33, co33, eo33⟩ := Kd.V_slice HO_4.out
         subst eo33
         try go_wp2
         have n0_ := Am (Kd.V_drew HO_0.out)
         have n1_ := Am (Kd.V_drew HO_4.out)
         have n2_ := Am (Kd.V_drew HO_747002.out)
         have n3_ := Am (blk_drew BK746.out)
         have n4_ := Am (below_drew1 HB.out)
         clear HO_0
         clear HO_4
         clear HO_747002
         clear BK746
         clear HB
         have HO_0 := n0_
         have HO_4 := n1_
         have HO_747002 := n2_
         have BK746 := n3_
         have HB := n4_
         clear n0_ n1_ n2_ n3_ n4_
         have p751 : 0 ≤ (x6_1 : Int) := of_decide_eq_true as_
         have q751 : x6_1 < (l0.length : Int) := of_decide_eq_true as_
         obtain ⟨ad751, A751_0, c751_0, e751, hx751_0, hx751_1, hl751_0, hi751_0⟩ := at_T58 (Kd.V_reads' HO_0.out).2.2 x6_1 p751 q751
         cases e751
         obtain ⟨ce751, hce751, hMe751, hcc751⟩ := Kd.V_get HO_0.out z58 x6_1 p751 (by first | exact q751 | exact of_decide_eq_true as_ | (have e_ := (Kd.V_reads' HO_0.out).1; omega))
         obtain ⟨ua751_0, uc751_0, rfl, ul751_0, ge751_0⟩ := k58_openF hMe751
         have hv751_0 := hcc751 0 _ rfl
         rw [Nat.add_zero] at hv751_0
         replace hv751_0 := Option.some.inj (hv751_0.symm.trans hx751_0)
         injection hv751_0 with hva_ hvn_ hvc_
         rw [hva_] at ge751_0
         rw [hvc_] at ul751_0
         have HL751_0 := Am (show Kd.V (Kd.int .i64) 3 _ w.heap.size _ _ ((rd_T58 l0 x6_1).f0) from Kd.V_mk ul751_0 ge751_0)
         clear hva_ hvn_ hvc_ ge751_0 ul751_0
         clear hcc751 hce751
         have HR751_0 := Am hi751_0
         have HC751_0 := Am hl751_0
         clear hi751_0 hl751_0
         replace p751 := eq_true p751
         replace q751 := eq_true q751
         have p752 : 0 ≤ (x6_1 : Int) := of_decide_eq_true as_
         have q752 : x6_1 < (l0.length : Int) := of_decide_eq_true as_
         obtain ⟨ad752, A752_0, c752_0, e752, hx752_0, hx752_1, hl752_0, hi752_0⟩ := at_T58 (Kd.V_reads' HO_0.out).2.2 x6_1 p752 q752
         obtain rfl : ad751 = ad752 := (by injection e752)
         obtain ⟨ce752, hce752, hMe752, hcc752⟩ := Kd.V_get HO_0.out z58 x6_1 p752 (by first | exact q752 | exact of_decide_eq_true as_ | (have e_ := (Kd.V_reads' HO_0.out).1; omega))
         obtain ⟨ua752_0, uc752_0, rfl, ul752_0, ge752_0⟩ := k58_openF hMe752
         have hv752_0 := hcc752 0 _ rfl
         rw [Nat.add_zero] at hv752_0
         replace hv752_0 := Option.some.inj (hv752_0.symm.trans hx752_0)
         injection hv752_0 with hva_ hvn_ hvc_
         rw [hva_] at ge752_0
         rw [hvc_] at ul752_0
         have HL752_0 := Am (show Kd.V (Kd.int .i64) 3 _ w.heap.size _ _ ((rd_T58 l0 x6_1).f0) from Kd.V_mk ul752_0 ge752_0)
         clear hva_ hvn_ hvc_ ge752_0 ul752_0
         clear hcc752 hce752
         have HR752_0 := Am hi752_0
         have HC752_0 := Am hl752_0
         clear hi752_0 hl752_0
         replace p752 := eq_true p752
         replace q752 := eq_true q752
         have ea_ := Option.some.inj (hx751_0.symm.trans hx752_0)
         injection ea_ with ea_ en_ ec_
         subst ea_
         subst ec_
         clear en_
         refine start_ (n := 19) (S := fun w' => w'.cell? ⟨gb746, 0, none⟩ = some (.int .u64 x747000_1) ∧ w'.cell? ⟨gb746, 1, none⟩ = some (.int .u32 x747001_1) ∧ w'.cell? ⟨gb746, 2, none⟩ = some (.slice Ao32 x747002_1.length co32) ∧ w'.cell? (ad751.add ((x6_1).toNat * 2)) = some (.slice A751_0 ((rd_T58 l0 x6_1).f0).length c751_0) ∧ w'.cell? ⟨(ad751.add ((x6_1).toNat * 2)).block, (ad751.add ((x6_1).toNat * 2)).off + 1, none⟩ = some (.bool ((rd_T58 l0 x6_1).f1)) ∧ w'.cell? (ad751.add ((x6_1).toNat * 2)) = some (.slice A751_0 ((rd_T58 l0 x6_1).f0).length c751_0) ∧ w'.cell? ⟨(ad751.add ((x6_1).toNat * 2)).block, (ad751.add ((x6_1).toNat * 2)).off + 1, none⟩ = some (.bool ((rd_T58 l0 x6_1).f1))) (ds := []) #[false, false, false, false, false, false, false, false, false, false, false, false, false, false, false, false, false, false, false] (by kernel_rfl) rfl rfl ⟨(blk_cell BK746.out 0).trans rfl, (blk_cell BK746.out 1).trans rfl, (blk_cell BK746.out 2).trans rfl, hx751_0, hx751_1, hx752_0, hx752_1⟩ (fun hHeld => ?_); refine with_tabW psalterylaw11_GainShort.tab7 psalterylaw11_GainShort.bits7 (fun HT_ HW_ => ?_)
         generalize wc.drew = w34 at HO_0 HO_4 HO_747002 BK746 HB HL751_0 HL752_0 HR751_0 HR752_0 hx751_0 hx751_1 hx752_0 hx752_1 hHeld ⊢
         refine pure_ (i := 1) (N := some 23) (v := ?_) (a' := ?_) #[false, true, false, false, false, false, false, false, false, false, false, false, false, false, false, false, false, false, false] rfl rfl (any_of HT_.out (by kernel_rfl)) (fun _ _ _ h => h) (Or.inl ⟨by rfl, ?_⟩) ?_ ?_
         rotate_left
         ·intro w'
          go_simp
          with_reducible rfl
         rotate_left
         ·simp only [Act.put, List.setIfInBounds_toArray, List.set_cons_zero, List.set_cons_succ, i64_w, i32_w]
          rfl
         refine pure_ (i := 2) (N := some 24) (v := ?_) (a' := ?_) #[false, true, true, false, false, false, false, false, false, false, false, false, false, false, false, false, false, false, false] rfl rfl (any_of HT_.out (by kernel_rfl)) (fun _ _ _ h => h) (Or.inl ⟨by rfl, ?_⟩) ?_ ?_
         rotate_left
         ·intro w'
          go_simp
          with_reducible rfl
         rotate_left
         ·simp only [Act.put, List.setIfInBounds_toArray, List.set_cons_zero, List.set_cons_succ, i64_w, i32_w]
          rfl
         refine pure_ (i := 3) (N := some 25) (v := ?_) (a' := ?_) #[false, true, true, true, false, false, false, false, false, false, false, false, false, false, false, false, false, false, false] rfl rfl (any_of HT_.out (by kernel_rfl)) (fun _ _ _ h => h) (Or.inl ⟨by rfl, ?_⟩) ?_ ?_
         rotate_left
         ·intro w'
          go_simp
          with_reducible rfl
         rotate_left
         ·simp only [Act.put, List.setIfInBounds_toArray, List.set_cons_zero, List.set_cons_succ, i64_w, i32_w]
          rfl
         refine pure_ (i := 4) (N := some 26) (v := ?_) (a' := ?_) #[false, true, true, true, true, false, false, false, false, false, false, false, false, false, false, false, false, false, false] rfl rfl (any_of HT_.out (by kernel_rfl)) (fun _ _ _ h => h) (Or.inl ⟨by rfl, ?_⟩) ?_ ?_
         rotate_left
         ·intro w'
          go_simp
          with_reducible rfl
         rotate_left
         ·simp only [Act.put, List.setIfInBounds_toArray, List.set_cons_zero, List.set_cons_succ, i64_w, i32_w]
          rfl
         refine pure_ (i := 6) (N := some 28) (v := ?_) (a' := ?_) #[false, true, true, true, true, false, true, false, false, false, false, false, false, false, false, false, false, false, false] rfl rfl (any_of HT_.out (by kernel_rfl)) (fun _ _ _ h => h) (Or.inl ⟨by rfl, ?_⟩) ?_ ?_
         rotate_left
         ·intro w'
          go_simp
          with_reducible rfl
         rotate_left
         ·simp only [Act.put, List.setIfInBounds_toArray, List.set_cons_zero, List.set_cons_succ, i64_w, i32_w]
          rfl
         refine pure_ (i := 7) (N := some 29) (v := ?_) (a' := ?_) #[false, true, true, true, true, false, true, true, false, false, false, false, false, false, false, false, false, false, false] rfl rfl (any_of HT_.out (by kernel_rfl)) (fun _ _ _ h => h) (Or.inl ⟨by rfl, ?_⟩) ?_ ?_
         rotate_left
         ·intro w'
          go_simp
          with_reducible rfl
         rotate_left
         ·simp only [Act.put, List.setIfInBounds_toArray, List.set_cons_zero, List.set_cons_succ, i64_w, i32_w]
          rfl
         refine pure_ (i := 8) (N := some 30) (v := ?_) (a' := ?_) #[false, true, true, true, true, false, true, true, true, false, false, false, false, false, false, false, false, false, false] rfl rfl (any_of HT_.out (by kernel_rfl)) (fun _ _ _ h => h) (Or.inl ⟨by rfl, ?_⟩) ?_ ?_
         rotate_left
         ·intro w'
          go_simp
          with_reducible rfl
         rotate_left
         ·simp only [Act.put, List.setIfInBounds_toArray, List.set_cons_zero, List.set_cons_succ, i64_w, i32_w]
          rfl
         refine pure_ (i := 9) (N := some 31) (v := ?_) (a' := ?_) #[false, true, true, true, true, false, true, true, true, true, false, false, false, false, false, false, false, false, false] rfl rfl (any_of HT_.out (by kernel_rfl)) (fun _ _ _ h => h) (Or.inl ⟨by rfl, ?_⟩) ?_ ?_
         rotate_left
         ·intro w'
          go_simp
          with_reducible rfl
         rotate_left
         ·simp only [Act.put, List.setIfInBounds_toArray, List.set_cons_zero, List.set_cons_succ, i64_w, i32_w]
          rfl
         refine pure_ (i := 10) (N := some 32) (v := ?_) (a' := ?_) #[false, true, true, true, true, false, true, true, true, true, true, false, false, false, false, false, false, false, false] rfl rfl (any_of HT_.out (by kernel_rfl)) (fun _ _ _ h => h) (Or.inl ⟨by rfl, ?_⟩) ?_ ?_
         rotate_left
         ·intro w'
          go_simp
          with_reducible rfl
         rotate_left
         ·simp only [Act.put, List.setIfInBounds_toArray, List.set_cons_zero, List.set_cons_succ, i64_w, i32_w]
          rfl
         refine take_ (i := 0) (N := some 22) (v := ?_) (a' := ?_) #[true, true, true, true, true, false, true, true, true, true, true, false, false, false, false, false, false, false, false] rfl rfl (take_ofW HT_.out HW_.out (by kernel_rfl)) (fun _ _ _ h => h) (Or.inl ⟨by rfl, ?_⟩) hHeld ?_ ?_
         rotate_left
         ·rintro w' ⟨s0, s1, s2, s3, s4, s5, s6⟩
          go_simp
          with_reducible rfl
         rotate_left
         ·simp only [Act.put, List.setIfInBounds_toArray, List.set_cons_zero, List.set_cons_succ, i64_w, i32_w]
          rfl
         refine take_ (i := 5) (N := some 27) (v := ?_) (a' := ?_) #[true, true, true, true, true, true, true, true, true, true, true, false, false, false, false, false, false, false, false] rfl rfl (take_ofW HT_.out HW_.out (by kernel_rfl)) (fun _ _ _ h => h) (Or.inl ⟨by rfl, ?_⟩) hHeld ?_ ?_
         rotate_left
         ·rintro w' ⟨s0, s1, s2, s3, s4, s5, s6⟩
          go_simp
          with_reducible rfl
         rotate_left
         ·simp only [Act.put, List.setIfInBounds_toArray, List.set_cons_zero, List.set_cons_succ, i64_w, i32_w]
          rfl
         refine take_ (i := 11) (N := some 33) (v := ?_) (a' := ?_) #[true, true, true, true, true, true, true, true, true, true, true, true, false, false, false, false, false, false, false] rfl rfl (take_ofW HT_.out HW_.out (by kernel_rfl)) (fun _ _ _ h => h) (Or.inl ⟨by rfl, ?_⟩) hHeld ?_ ?_
         rotate_left
         ·rintro w' ⟨s0, s1, s2, s3, s4, s5, s6⟩
          go_simp
          with_reducible rfl
         rotate_left
         ·simp only [Act.put, List.setIfInBounds_toArray, List.set_cons_zero, List.set_cons_succ, i64_w, i32_w]
          rfl
         refine join_ (σ := Value × Nat) 2 #[true, true, true, true, true, true, true, true, true, true, true, true, true, true, true, true, true, false, false] (fun s_ => [(34, .tuple #[.agg #[.int .u64 t753, .int .u32 t754, s_.1], .int .i64 t758]), (7, .pointer (some ⟨s_.2, 0, none⟩)), (21, .tuple #[.agg #[.int .u64 t753, .int .u32 t754, s_.1], .int .i64 t758]), (35, .agg #[.int .u64 t753, .int .u32 t754, s_.1]), (36, .int .i64 t758)]) (fun s_ w' => (w'.cell? ⟨gb746, 0, none⟩ = some (.int .u64 x747000_1) ∧ w'.cell? ⟨gb746, 1, none⟩ = some (.int .u32 x747001_1) ∧ w'.cell? ⟨gb746, 2, none⟩ = some (.slice Ao32 x747002_1.length co32) ∧ w'.cell? (ad751.add ((x6_1).toNat * 2)) = some (.slice A751_0 ((rd_T58 l0 x6_1).f0).length c751_0) ∧ w'.cell? ⟨(ad751.add ((x6_1).toNat * 2)).block, (ad751.add ((x6_1).toNat * 2)).off + 1, none⟩ = some (.bool ((rd_T58 l0 x6_1).f1)) ∧ w'.cell? (ad751.add ((x6_1).toNat * 2)) = some (.slice A751_0 ((rd_T58 l0 x6_1).f0).length c751_0) ∧ w'.cell? ⟨(ad751.add ((x6_1).toNat * 2)).block, (ad751.add ((x6_1).toNat * 2)).off + 1, none⟩ = some (.bool ((rd_T58 l0 x6_1).f1))) ∧ (Kd.V (Kd.int .i64) 3 w' w.heap.size (fun k_ => (P0_ k_ ∨ w.heap.size ≤ k_) ∧ k_ ≠ gb746 ∧ k_ ≠ s_.2) (.slice A751_0 ((rd_T58 l0 x6_1).f0).length c751_0) ((rd_T58 l0 x6_1).f0)) ∧ (Kd.V (Kd.int .i64) 3 w' w.heap.size (fun k_ => (P0_ k_ ∨ w.heap.size ≤ k_) ∧ k_ ≠ gb746 ∧ k_ ≠ s_.2) (.slice A751_0 ((rd_T58 l0 x6_1).f0).length c751_0) ((rd_T58 l0 x6_1).f0)) ∧ (Kd.V (Kd.int .u8) 5 w' w.heap.size (fun k_ => (P0_ k_ ∨ w.heap.size ≤ k_) ∧ k_ ≠ gb746 ∧ k_ ≠ s_.2) s_.1 t755) ∧ (Kd.V k58 58 w' w.heap.size (fun k_ => (P0_ k_ ∨ w.heap.size ≤ k_) ∧ k_ ≠ gb746 ∧ k_ ≠ s_.2) (.slice (some ad751) l0.length c0) l0) ∧ (Kd.V (Kd.int .i64) 3 w' w.heap.size (fun k_ => (P0_ k_ ∨ w.heap.size ≤ k_) ∧ k_ ≠ gb746 ∧ k_ ≠ s_.2) (.slice Ao33 x4_1.length co33) x4_1) ∧ (Kd.V (Kd.int .u8) 5 w' w.heap.size (fun k_ => (P0_ k_ ∨ w.heap.size ≤ k_) ∧ k_ ≠ gb746 ∧ k_ ≠ s_.2) (.slice Ao32 x747002_1.length co32) x747002_1) ∧ (w'.heap[gb746]? = some (.cells #[.int .u64 x747000_1, .int .u32 x747001_1, .slice Ao32 x747002_1.length co32] 52 (0, 0))) ∧ (w'.heap[s_.2]? = some (.cells #[.int .u64 0, .int .u32 0, .slice none 0 0] 52 (0, 0))) ∧ (w.heap.size ≤ s_.2) ∧ (w.heap.size ≤ s_.2) ∧ (gb746 ≠ s_.2) ∧ (s_.2 ≠ gb746) ∧ (Below w.heap.size w w')) ?_ ?_
         rotate_left
         ·intro hCont
          refine two_ (i := 12) (j := 16) (Ni := some 34) (Nj := some 7) #[true, true, true, true, true, true, true, true, true, true, true, true, true, false, false, false, false, false, false] #[true, true, true, true, true, true, true, true, true, true, true, true, false, false, false, false, true, false, false] rfl rfl rfl rfl (two_of HT_.out (by kernel_rfl)) (by decide) (by decide) (fun K hK => ?_) (fun K hK => ?_)
          ·skip
           refine goes_ Try.func33 (by kernel_rfl) rfl #[.agg #[.int .u64 x747000_1, .int .u32 x747001_1, .slice Ao32 x747002_1.length co32], .slice A751_0 ((rd_T58 l0 x6_1).f0).length c751_0, .slice Ao33 x4_1.length co33, .bool ((rd_T58 l0 x6_1).f1)] (by rfl) rfl rfl ls_ ?_
           with_reducible refine (gain_Put.calls kj8 x747000_1 x747001_1 (fun k_ => ((P0_ k_ ∨ w.heap.size ≤ k_) ∧ k_ ≠ gb746)) _ _ x747002_1 _ _ ((rd_T58 l0 x6_1).f0) _ _ x4_1 ((rd_T58 l0 x6_1).f1) t753 t754 t755 t758 _ ?side1 ?side2 ?side3 ?side4 ?side5 A14.out).mono ?_
           (case side1 => exact HO_747002.out)
           (case side2 => repeat (first | exact (by repeat (first | (with_reducible exact HR751_0.out) | (with_reducible refine Kd.C_alloc ?_ _) | (with_reducible refine Kd.C_drewN ?_ _) | (with_reducible refine Kd.C_drew ?_) | exact HR751_0.out)) | (with_reducible refine Kd.C_alloc ?_ _) | (with_reducible refine Kd.C_drewN ?_ _) | (with_reducible refine Kd.C_drew ?_)))
           (case side3 => exact HC751_0.out)
           (case side4 => repeat (first | exact (Kd.V_reads' HO_4.out).2.2 | (with_reducible refine Kd.C_alloc ?_ _) | (with_reducible refine Kd.C_drewN ?_ _) | (with_reducible refine Kd.C_drew ?_)))
           (case side5 => exact (Kd.V_reads' HO_4.out).2.1)
           rintro e w35 ⟨v756, rfl, ho0, hb⟩
           have HS3_ := (hb.cell (World.block_lt_of_cell? _ _ (hHeld.2.2.2.1))).trans (hHeld.2.2.2.1)
           have HS4_ := (hb.cell (World.block_lt_of_cell? _ _ (hHeld.2.2.2.2.1))).trans (hHeld.2.2.2.2.1)
           have HS5_ := (hb.cell (World.block_lt_of_cell? _ _ (hHeld.2.2.2.2.2.1))).trans (hHeld.2.2.2.2.2.1)
           have HS6_ := (hb.cell (World.block_lt_of_cell? _ _ (hHeld.2.2.2.2.2.2))).trans (hHeld.2.2.2.2.2.2)
           refine ⟨_, rfl, ?_⟩
           have n0_ := Am (Kd.V_below (kV HO_0.out) hb)
           have n1_ := Am (Kd.V_below (kV HO_4.out) hb)
           have n2_ := Am (Kd.V_below (kV HO_747002.out) hb)
           have n3_ := Am (Kd.V_below (kV HL751_0.out) hb)
           have n4_ := Am (Kd.V_below (kV HL752_0.out) hb)
           have n5_ := Am (Kd.V_lower (Kd.V_mono (ok' := fun k_ => (P0_ k_ ∨ w.heap.size ≤ k_) ∧ k_ ≠ gb746) ho0 (fun k_ hk_ => ⟨Or.elim hk_ (fun hs_ => hs_.1) (fun hn_ => (.inr (Nat.le_trans (below_size (bB HB.out)) hn_))), Or.elim hk_ (fun hs_ => hs_.2) (fun hn_ => (Kd.freshB (g := gb746) (o := .cells #[.int .u64 x747000_1, .int .u32 x747001_1, .slice Ao32 x747002_1.length co32] 52 (0, 0)) (bK BK746.out) k_ hn_))⟩)) (below_size (bB HB.out)))
           have n6_ := Am (blk_below (g := gb746) (o := .cells #[.int .u64 x747000_1, .int .u32 x747001_1, .slice Ao32 x747002_1.length co32] 52 (0, 0)) (bK BK746.out) hb)
           have n7_ := Am (Kd.C_below (by repeat (first | (with_reducible exact HR751_0.out) | (with_reducible refine Kd.C_alloc ?_ _) | (with_reducible refine Kd.C_drewN ?_ _) | (with_reducible refine Kd.C_drew ?_) | exact HR751_0.out)) hb)
           have n8_ := Am (Kd.C_below (by repeat (first | (with_reducible exact HR752_0.out) | (with_reducible refine Kd.C_alloc ?_ _) | (with_reducible refine Kd.C_drewN ?_ _) | (with_reducible refine Kd.C_drew ?_) | exact HR752_0.out)) hb)
           have n9_ := Am (below_step (bB HB.out) hb)
           clear HO_0
           clear HO_4
           clear HO_747002
           clear HL751_0
           clear HL752_0
           clear BK746
           clear HR751_0
           clear HR752_0
           clear HB
           have HO_0 := n0_
           have HO_4 := n1_
           have HO_747002 := n2_
           have HL751_0 := n3_
           have HL752_0 := n4_
           have HO757 := n5_
           have BK746 := n6_
           have HR751_0 := n7_
           have HR752_0 := n8_
           have HB := n9_
           clear n0_ n1_ n2_ n3_ n4_ n5_ n6_ n7_ n8_ n9_
           (try clear hb)
           (try clear hb2)
           (try clear hk)
           (try clear hi)
           (try clear ho0)
           refine hK.out _ _ ⟨(blk_cell BK746.out 0).trans rfl, (blk_cell BK746.out 1).trans rfl, (blk_cell BK746.out 2).trans rfl, HS3_, HS4_, HS5_, HS6_⟩ (fun hHeld => ?_)
           clear hK K
           refine norm_ (a' := ?_) ?_ ?_
           rotate_left
           ·show Act.put _ (some 34) _ = _
            simp only [Act.put, List.setIfInBounds_toArray, List.set_cons_zero, List.set_cons_succ, i64_w, i32_w]
            rfl
           refine pure_ (i := 13) (N := some 21) (v := ?_) (a' := ?_) #[true, true, true, true, true, true, true, true, true, true, true, true, true, true, false, false, false, false, false] rfl rfl (any_of HT_.out (by kernel_rfl)) (fun _ _ _ h => h) (Or.inl ⟨by rfl, ?_⟩) ?_ ?_
           rotate_left
           ·intro w'
            go_simp
            with_reducible rfl
           rotate_left
           ·simp only [Act.put, List.setIfInBounds_toArray, List.set_cons_zero, List.set_cons_succ, i64_w, i32_w]
            rfl
           refine pure_ (i := 14) (N := some 35) (v := ?_) (a' := ?_) #[true, true, true, true, true, true, true, true, true, true, true, true, true, true, true, false, false, false, false] rfl rfl (any_of HT_.out (by kernel_rfl)) (fun _ _ _ h => h) (Or.inl ⟨by rfl, ?_⟩) ?_ ?_
           rotate_left
           ·intro w'
            go_simp
            with_reducible rfl
           rotate_left
           ·simp only [Act.put, List.setIfInBounds_toArray, List.set_cons_zero, List.set_cons_succ, i64_w, i32_w]
            rfl
           refine pure_ (i := 15) (N := some 36) (v := ?_) (a' := ?_) #[true, true, true, true, true, true, true, true, true, true, true, true, true, true, true, true, false, false, false] rfl rfl (any_of HT_.out (by kernel_rfl)) (fun _ _ _ h => h) (Or.inl ⟨by rfl, ?_⟩) ?_ ?_
           rotate_left
           ·intro w'
            go_simp
            with_reducible rfl
           rotate_left
           ·simp only [Act.put, List.setIfInBounds_toArray, List.set_cons_zero, List.set_cons_succ, i64_w, i32_w]
            rfl
           refine one_ (i := 16) (N := some 7) #[true, true, true, true, true, true, true, true, true, true, true, true, true, true, true, true, true, false, false] rfl rfl (one_of HT_.out (by kernel_rfl)) (by decide) (fun K hK => ?_)
           refine box_step ?hg (N := 7) ?hd (cs := #[.int .u64 0, .int .u32 0, .slice none 0 0]) (t := 52) ?hr ?_; (case hd => rfl); (case hg => rfl); (case hr => first | (go_simp; done) | (go_simp; rfl))
           intro gb759 hg w36 hbox hb
           have HS3_ := (hb.cell (World.block_lt_of_cell? _ _ (hHeld.2.2.2.1))).trans (hHeld.2.2.2.1)
           have HS4_ := (hb.cell (World.block_lt_of_cell? _ _ (hHeld.2.2.2.2.1))).trans (hHeld.2.2.2.2.1)
           have HS5_ := (hb.cell (World.block_lt_of_cell? _ _ (hHeld.2.2.2.2.2.1))).trans (hHeld.2.2.2.2.2.1)
           have HS6_ := (hb.cell (World.block_lt_of_cell? _ _ (hHeld.2.2.2.2.2.2))).trans (hHeld.2.2.2.2.2.2)
           have n0_ := Am (Kd.V_below (Kd.V_elderB (kV HO_0.out) gb759 (Nat.le_of_eq hg.symm)) hb)
           have n1_ := Am (Kd.V_below (Kd.V_elderB (kV HO_4.out) gb759 (Nat.le_of_eq hg.symm)) hb)
           have n2_ := Am (Kd.V_below (Kd.V_elderB (kV HO_747002.out) gb759 (Nat.le_of_eq hg.symm)) hb)
           have n3_ := Am (Kd.V_below (Kd.V_elderB (kV HL751_0.out) gb759 (Nat.le_of_eq hg.symm)) hb)
           have n4_ := Am (Kd.V_below (Kd.V_elderB (kV HL752_0.out) gb759 (Nat.le_of_eq hg.symm)) hb)
           have n5_ := Am (Kd.V_below (Kd.V_elderB (kV HO757.out) gb759 (Nat.le_of_eq hg.symm)) hb)
           have n6_ := Am (blk_below (g := gb746) (o := .cells #[.int .u64 x747000_1, .int .u32 x747001_1, .slice Ao32 x747002_1.length co32] 52 (0, 0)) (bK BK746.out) hb)
           have n7_ := Am (Kd.C_below (by repeat (first | (with_reducible exact HR751_0.out) | (with_reducible refine Kd.C_alloc ?_ _) | (with_reducible refine Kd.C_drewN ?_ _) | (with_reducible refine Kd.C_drew ?_) | exact HR751_0.out)) hb)
           have n8_ := Am (Kd.C_below (by repeat (first | (with_reducible exact HR752_0.out) | (with_reducible refine Kd.C_alloc ?_ _) | (with_reducible refine Kd.C_drewN ?_ _) | (with_reducible refine Kd.C_drew ?_) | exact HR752_0.out)) hb)
           have n9_ := Am (below_step (bB HB.out) hb)
           have n10_ := Am (hbox)
           have n11_ := Am ((by rw [hg]; exact (below_size (bB HB.out)) : w.heap.size ≤ gb759))
           have n12_ := Am ((by rw [hg]; exact (below_size (bB HB.out)) : w.heap.size ≤ gb759))
           have n13_ := Am ((by rw [hg]; exact Nat.ne_of_lt (blk_lt (g := gb746) (o := .cells #[.int .u64 x747000_1, .int .u32 x747001_1, .slice Ao32 x747002_1.length co32] 52 (0, 0)) (bK BK746.out)) : gb746 ≠ gb759))
           have n14_ := Am ((by rw [hg]; exact Nat.ne_of_gt (blk_lt (g := gb746) (o := .cells #[.int .u64 x747000_1, .int .u32 x747001_1, .slice Ao32 x747002_1.length co32] 52 (0, 0)) (bK BK746.out)) : gb759 ≠ gb746))
           clear HO_0
           clear HO_4
           clear HO_747002
           clear HL751_0
           clear HL752_0
           clear HO757
           clear BK746
           clear HR751_0
           clear HR752_0
           clear HB
           have HO_0 := n0_
           have HO_4 := n1_
           have HO_747002 := n2_
           have HL751_0 := n3_
           have HL752_0 := n4_
           have HO757 := n5_
           have BK746 := n6_
           have HR751_0 := n7_
           have HR752_0 := n8_
           have HB := n9_
           have BK759 := n10_
           have GW759 := n11_
           have GE759 := n12_
           have NB746_759 := n13_
           have NB759_746 := n14_
           clear n0_ n1_ n2_ n3_ n4_ n5_ n6_ n7_ n8_ n9_ n10_ n11_ n12_ n13_ n14_
           clear hb hbox hg
           refine hK.out _ _ ⟨(blk_cell BK746.out 0).trans rfl, (blk_cell BK746.out 1).trans rfl, (blk_cell BK746.out 2).trans rfl, HS3_, HS4_, HS5_, HS6_⟩ (fun hHeld => ?_)
           clear hK K
           refine norm_ (a' := ?_) ?_ ?_
           rotate_left
           ·show Act.put _ (some 7) _ = _
            simp only [Act.put, List.setIfInBounds_toArray, List.set_cons_zero, List.set_cons_succ, i64_w, i32_w]
            rfl
           exact norm_ (by simp only [putAll, Act.put, List.setIfInBounds_toArray, List.set_cons_zero, List.set_cons_succ]) (hCont (v756, gb759) _ ⟨hHeld, (by (with_reducible repeat (first | apply Kd.V_alloc | apply Kd.V_drewN | apply Kd.V_drew)); exact Kd.V_mono HL751_0.out (fun _ hk => ⟨hk.1.1, ⟨hk.1.2, hk.2⟩⟩)), (by (with_reducible repeat (first | apply Kd.V_alloc | apply Kd.V_drewN | apply Kd.V_drew)); exact Kd.V_mono HL752_0.out (fun _ hk => ⟨hk.1.1, ⟨hk.1.2, hk.2⟩⟩)), (by (with_reducible repeat (first | apply Kd.V_alloc | apply Kd.V_drewN | apply Kd.V_drew)); exact Kd.V_mono HO757.out (fun _ hk => ⟨hk.1.1, ⟨hk.1.2, hk.2⟩⟩)), (by (with_reducible repeat (first | apply Kd.V_alloc | apply Kd.V_drewN | apply Kd.V_drew)); exact Kd.V_mono HO_0.out (fun _ hk => ⟨hk.1.1, ⟨hk.1.2, hk.2⟩⟩)), (by (with_reducible repeat (first | apply Kd.V_alloc | apply Kd.V_drewN | apply Kd.V_drew)); exact Kd.V_mono HO_4.out (fun _ hk => ⟨hk.1.1, ⟨hk.1.2, hk.2⟩⟩)), (by (with_reducible repeat (first | apply Kd.V_alloc | apply Kd.V_drewN | apply Kd.V_drew)); exact Kd.V_mono HO_747002.out (fun _ hk => ⟨hk.1.1, ⟨hk.1.2, hk.2⟩⟩)), (bK BK746.out), (bK BK759.out), GW759.out, GE759.out, NB746_759.out, NB759_746.out, (bB HB.out)⟩)
          ·skip
           refine box_step ?hg (N := 7) ?hd (cs := #[.int .u64 0, .int .u32 0, .slice none 0 0]) (t := 52) ?hr ?_; (case hd => rfl); (case hg => rfl); (case hr => first | (go_simp; done) | (go_simp; rfl))
           intro gb759 hg w35 hbox hb
           have HS3_ := (hb.cell (World.block_lt_of_cell? _ _ (hHeld.2.2.2.1))).trans (hHeld.2.2.2.1)
           have HS4_ := (hb.cell (World.block_lt_of_cell? _ _ (hHeld.2.2.2.2.1))).trans (hHeld.2.2.2.2.1)
           have HS5_ := (hb.cell (World.block_lt_of_cell? _ _ (hHeld.2.2.2.2.2.1))).trans (hHeld.2.2.2.2.2.1)
           have HS6_ := (hb.cell (World.block_lt_of_cell? _ _ (hHeld.2.2.2.2.2.2))).trans (hHeld.2.2.2.2.2.2)
           have n0_ := Am (Kd.V_below (Kd.V_elderB (kV HO_0.out) gb759 (Nat.le_of_eq hg.symm)) hb)
           have n1_ := Am (Kd.V_below (Kd.V_elderB (kV HO_4.out) gb759 (Nat.le_of_eq hg.symm)) hb)
           have n2_ := Am (Kd.V_below (Kd.V_elderB (kV HO_747002.out) gb759 (Nat.le_of_eq hg.symm)) hb)
           have n3_ := Am (Kd.V_below (Kd.V_elderB (kV HL751_0.out) gb759 (Nat.le_of_eq hg.symm)) hb)
           have n4_ := Am (Kd.V_below (Kd.V_elderB (kV HL752_0.out) gb759 (Nat.le_of_eq hg.symm)) hb)
           have n5_ := Am (blk_below (g := gb746) (o := .cells #[.int .u64 x747000_1, .int .u32 x747001_1, .slice Ao32 x747002_1.length co32] 52 (0, 0)) (bK BK746.out) hb)
           have n6_ := Am (Kd.C_below (by repeat (first | (with_reducible exact HR751_0.out) | (with_reducible refine Kd.C_alloc ?_ _) | (with_reducible refine Kd.C_drewN ?_ _) | (with_reducible refine Kd.C_drew ?_) | exact HR751_0.out)) hb)
           have n7_ := Am (Kd.C_below (by repeat (first | (with_reducible exact HR752_0.out) | (with_reducible refine Kd.C_alloc ?_ _) | (with_reducible refine Kd.C_drewN ?_ _) | (with_reducible refine Kd.C_drew ?_) | exact HR752_0.out)) hb)
           have n8_ := Am (below_step (bB HB.out) hb)
           have n9_ := Am (hbox)
           have n10_ := Am ((by rw [hg]; exact (below_size (bB HB.out)) : w.heap.size ≤ gb759))
           have n11_ := Am ((by rw [hg]; exact (below_size (bB HB.out)) : w.heap.size ≤ gb759))
           have n12_ := Am ((by rw [hg]; exact Nat.ne_of_lt (blk_lt (g := gb746) (o := .cells #[.int .u64 x747000_1, .int .u32 x747001_1, .slice Ao32 x747002_1.length co32] 52 (0, 0)) (bK BK746.out)) : gb746 ≠ gb759))
           have n13_ := Am ((by rw [hg]; exact Nat.ne_of_gt (blk_lt (g := gb746) (o := .cells #[.int .u64 x747000_1, .int .u32 x747001_1, .slice Ao32 x747002_1.length co32] 52 (0, 0)) (bK BK746.out)) : gb759 ≠ gb746))
           clear HO_0
           clear HO_4
           clear HO_747002
           clear HL751_0
           clear HL752_0
           clear BK746
           clear HR751_0
           clear HR752_0
           clear HB
           have HO_0 := n0_
           have HO_4 := n1_
           have HO_747002 := n2_
           have HL751_0 := n3_
           have HL752_0 := n4_
           have BK746 := n5_
           have HR751_0 := n6_
           have HR752_0 := n7_
           have HB := n8_
           have BK759 := n9_
           have GW759 := n10_
           have GE759 := n11_
           have NB746_759 := n12_
           have NB759_746 := n13_
           clear n0_ n1_ n2_ n3_ n4_ n5_ n6_ n7_ n8_ n9_ n10_ n11_ n12_ n13_
           clear hb hbox hg
           refine hK.out _ _ ⟨(blk_cell BK746.out 0).trans rfl, (blk_cell BK746.out 1).trans rfl, (blk_cell BK746.out 2).trans rfl, HS3_, HS4_, HS5_, HS6_⟩ (fun hHeld => ?_)
           clear hK K
           refine norm_ (a' := ?_) ?_ ?_
           rotate_left
           ·show Act.put _ (some 7) _ = _
            simp only [Act.put, List.setIfInBounds_toArray, List.set_cons_zero, List.set_cons_succ, i64_w, i32_w]
            rfl
           refine one_ (i := 12) (N := some 34) #[true, true, true, true, true, true, true, true, true, true, true, true, true, false, false, false, true, false, false] rfl rfl (one_of HT_.out (by kernel_rfl)) (by decide) (fun K hK => ?_)
           refine goes_ Try.func33 (by kernel_rfl) rfl #[.agg #[.int .u64 x747000_1, .int .u32 x747001_1, .slice Ao32 x747002_1.length co32], .slice A751_0 ((rd_T58 l0 x6_1).f0).length c751_0, .slice Ao33 x4_1.length co33, .bool ((rd_T58 l0 x6_1).f1)] (by rfl) rfl rfl ls_ ?_
           with_reducible refine (gain_Put.calls kj8 x747000_1 x747001_1 (fun k_ => (((P0_ k_ ∨ w.heap.size ≤ k_) ∧ k_ ≠ gb746) ∧ k_ ≠ gb759)) _ _ x747002_1 _ _ ((rd_T58 l0 x6_1).f0) _ _ x4_1 ((rd_T58 l0 x6_1).f1) t753 t754 t755 t758 _ ?side1 ?side2 ?side3 ?side4 ?side5 A14.out).mono ?_
           (case side1 => exact HO_747002.out)
           (case side2 => repeat (first | exact (by repeat (first | (with_reducible exact HR751_0.out) | (with_reducible refine Kd.C_alloc ?_ _) | (with_reducible refine Kd.C_drewN ?_ _) | (with_reducible refine Kd.C_drew ?_) | exact HR751_0.out)) | (with_reducible refine Kd.C_alloc ?_ _) | (with_reducible refine Kd.C_drewN ?_ _) | (with_reducible refine Kd.C_drew ?_)))
           (case side3 => exact HC751_0.out)
           (case side4 => repeat (first | exact (Kd.V_reads' HO_4.out).2.2 | (with_reducible refine Kd.C_alloc ?_ _) | (with_reducible refine Kd.C_drewN ?_ _) | (with_reducible refine Kd.C_drew ?_)))
           (case side5 => exact (Kd.V_reads' HO_4.out).2.1)
           rintro e w36 ⟨v756, rfl, ho0, hb⟩
           have HS3_ := (hb.cell (World.block_lt_of_cell? _ _ (hHeld.2.2.2.1))).trans (hHeld.2.2.2.1)
           have HS4_ := (hb.cell (World.block_lt_of_cell? _ _ (hHeld.2.2.2.2.1))).trans (hHeld.2.2.2.2.1)
           have HS5_ := (hb.cell (World.block_lt_of_cell? _ _ (hHeld.2.2.2.2.2.1))).trans (hHeld.2.2.2.2.2.1)
           have HS6_ := (hb.cell (World.block_lt_of_cell? _ _ (hHeld.2.2.2.2.2.2))).trans (hHeld.2.2.2.2.2.2)
           refine ⟨_, rfl, ?_⟩
           have n0_ := Am (Kd.V_below (kV HO_0.out) hb)
           have n1_ := Am (Kd.V_below (kV HO_4.out) hb)
           have n2_ := Am (Kd.V_below (kV HO_747002.out) hb)
           have n3_ := Am (Kd.V_below (kV HL751_0.out) hb)
           have n4_ := Am (Kd.V_below (kV HL752_0.out) hb)
           have n5_ := Am (Kd.V_lower (Kd.V_mono (ok' := fun k_ => (P0_ k_ ∨ w.heap.size ≤ k_) ∧ k_ ≠ gb746 ∧ k_ ≠ gb759) ho0 (fun k_ hk_ => ⟨Or.elim hk_ (fun hs_ => hs_.1.1) (fun hn_ => (.inr (Nat.le_trans (below_size (bB HB.out)) hn_))), Or.elim hk_ (fun hs_ => hs_.1.2) (fun hn_ => (Kd.freshB (g := gb746) (o := .cells #[.int .u64 x747000_1, .int .u32 x747001_1, .slice Ao32 x747002_1.length co32] 52 (0, 0)) (bK BK746.out) k_ hn_)), Or.elim hk_ (fun hs_ => hs_.2) (fun hn_ => (Kd.freshB (g := gb759) (o := .cells #[.int .u64 0, .int .u32 0, .slice none 0 0] 52 (0, 0)) (bK BK759.out) k_ hn_))⟩)) (below_size (bB HB.out)))
           have n6_ := Am (blk_below (g := gb746) (o := .cells #[.int .u64 x747000_1, .int .u32 x747001_1, .slice Ao32 x747002_1.length co32] 52 (0, 0)) (bK BK746.out) hb)
           have n7_ := Am (Kd.C_below (by repeat (first | (with_reducible exact HR751_0.out) | (with_reducible refine Kd.C_alloc ?_ _) | (with_reducible refine Kd.C_drewN ?_ _) | (with_reducible refine Kd.C_drew ?_) | exact HR751_0.out)) hb)
           have n8_ := Am (Kd.C_below (by repeat (first | (with_reducible exact HR752_0.out) | (with_reducible refine Kd.C_alloc ?_ _) | (with_reducible refine Kd.C_drewN ?_ _) | (with_reducible refine Kd.C_drew ?_) | exact HR752_0.out)) hb)
           have n9_ := Am (blk_below (g := gb759) (o := .cells #[.int .u64 0, .int .u32 0, .slice none 0 0] 52 (0, 0)) (bK BK759.out) hb)
           have n10_ := Am (below_step (bB HB.out) hb)
           clear HO_0
           clear HO_4
           clear HO_747002
           clear HL751_0
           clear HL752_0
           clear BK746
           clear HR751_0
           clear HR752_0
           clear BK759
           clear HB
           have HO_0 := n0_
           have HO_4 := n1_
           have HO_747002 := n2_
           have HL751_0 := n3_
           have HL752_0 := n4_
           have HO757 := n5_
           have BK746 := n6_
           have HR751_0 := n7_
           have HR752_0 := n8_
           have BK759 := n9_
           have HB := n10_
           clear n0_ n1_ n2_ n3_ n4_ n5_ n6_ n7_ n8_ n9_ n10_
           (try clear hb)
           (try clear hb2)
           (try clear hk)
           (try clear hi)
           (try clear ho0)
           refine hK.out _ _ ⟨(blk_cell BK746.out 0).trans rfl, (blk_cell BK746.out 1).trans rfl, (blk_cell BK746.out 2).trans rfl, HS3_, HS4_, HS5_, HS6_⟩ (fun hHeld => ?_)
           clear hK K
           refine norm_ (a' := ?_) ?_ ?_
           rotate_left
           ·show Act.put _ (some 34) _ = _
            simp only [Act.put, List.setIfInBounds_toArray, List.set_cons_zero, List.set_cons_succ, i64_w, i32_w]
            rfl
           refine pure_ (i := 13) (N := some 21) (v := ?_) (a' := ?_) #[true, true, true, true, true, true, true, true, true, true, true, true, true, true, false, false, true, false, false] rfl rfl (any_of HT_.out (by kernel_rfl)) (fun _ _ _ h => h) (Or.inl ⟨by rfl, ?_⟩) ?_ ?_
           rotate_left
           ·intro w'
            go_simp
            with_reducible rfl
           rotate_left
           ·simp only [Act.put, List.setIfInBounds_toArray, List.set_cons_zero, List.set_cons_succ, i64_w, i32_w]
            rfl
           refine pure_ (i := 14) (N := some 35) (v := ?_) (a' := ?_) #[true, true, true, true, true, true, true, true, true, true, true, true, true, true, true, false, true, false, false] rfl rfl (any_of HT_.out (by kernel_rfl)) (fun _ _ _ h => h) (Or.inl ⟨by rfl, ?_⟩) ?_ ?_
           rotate_left
           ·intro w'
            go_simp
            with_reducible rfl
           rotate_left
           ·simp only [Act.put, List.setIfInBounds_toArray, List.set_cons_zero, List.set_cons_succ, i64_w, i32_w]
            rfl
           refine pure_ (i := 15) (N := some 36) (v := ?_) (a' := ?_) #[true, true, true, true, true, true, true, true, true, true, true, true, true, true, true, true, true, false, false] rfl rfl (any_of HT_.out (by kernel_rfl)) (fun _ _ _ h => h) (Or.inl ⟨by rfl, ?_⟩) ?_ ?_
           rotate_left
           ·intro w'
            go_simp
            with_reducible rfl
           rotate_left
           ·simp only [Act.put, List.setIfInBounds_toArray, List.set_cons_zero, List.set_cons_succ, i64_w, i32_w]
            rfl
           exact norm_ (by simp only [putAll, Act.put, List.setIfInBounds_toArray, List.set_cons_zero, List.set_cons_succ]) (hCont (v756, gb759) _ ⟨hHeld, (by (with_reducible repeat (first | apply Kd.V_alloc | apply Kd.V_drewN | apply Kd.V_drew)); exact Kd.V_mono HL751_0.out (fun _ hk => ⟨hk.1.1, ⟨hk.1.2, hk.2⟩⟩)), (by (with_reducible repeat (first | apply Kd.V_alloc | apply Kd.V_drewN | apply Kd.V_drew)); exact Kd.V_mono HL752_0.out (fun _ hk => ⟨hk.1.1, ⟨hk.1.2, hk.2⟩⟩)), (kV HO757.out), (by (with_reducible repeat (first | apply Kd.V_alloc | apply Kd.V_drewN | apply Kd.V_drew)); exact Kd.V_mono HO_0.out (fun _ hk => ⟨hk.1.1, ⟨hk.1.2, hk.2⟩⟩)), (by (with_reducible repeat (first | apply Kd.V_alloc | apply Kd.V_drewN | apply Kd.V_drew)); exact Kd.V_mono HO_4.out (fun _ hk => ⟨hk.1.1, ⟨hk.1.2, hk.2⟩⟩)), (by (with_reducible repeat (first | apply Kd.V_alloc | apply Kd.V_drewN | apply Kd.V_drew)); exact Kd.V_mono HO_747002.out (fun _ hk => ⟨hk.1.1, ⟨hk.1.2, hk.2⟩⟩)), (bK BK746.out), (bK BK759.out), GW759.out, GE759.out, NB746_759.out, NB759_746.out, (bB HB.out)⟩)
         rintro ⟨v756, gb759⟩ w37 ⟨hS_, h0_, h1_, h2_, h3_, h4_, h5_, h6_, h7_, h8_, h9_, h10_, h11_, h12_⟩
         have n0_ : Aside0 (Kd.V (Kd.int .i64) 3 w37 w.heap.size (fun k_ => (P0_ k_ ∨ w.heap.size ≤ k_) ∧ k_ ≠ gb746 ∧ k_ ≠ gb759) (.slice A751_0 ((rd_T58 l0 x6_1).f0).length c751_0) ((rd_T58 l0 x6_1).f0)) := ⟨h0_⟩
         have n1_ : Aside0 (Kd.V (Kd.int .i64) 3 w37 w.heap.size (fun k_ => (P0_ k_ ∨ w.heap.size ≤ k_) ∧ k_ ≠ gb746 ∧ k_ ≠ gb759) (.slice A751_0 ((rd_T58 l0 x6_1).f0).length c751_0) ((rd_T58 l0 x6_1).f0)) := ⟨h1_⟩
         have n2_ : Aside0 (Kd.V (Kd.int .u8) 5 w37 w.heap.size (fun k_ => (P0_ k_ ∨ w.heap.size ≤ k_) ∧ k_ ≠ gb746 ∧ k_ ≠ gb759) v756 t755) := ⟨h2_⟩
         have n3_ : Aside0 (Kd.V k58 58 w37 w.heap.size (fun k_ => (P0_ k_ ∨ w.heap.size ≤ k_) ∧ k_ ≠ gb746 ∧ k_ ≠ gb759) (.slice (some ad751) l0.length c0) l0) := ⟨h3_⟩
         have n4_ : Aside0 (Kd.V (Kd.int .i64) 3 w37 w.heap.size (fun k_ => (P0_ k_ ∨ w.heap.size ≤ k_) ∧ k_ ≠ gb746 ∧ k_ ≠ gb759) (.slice Ao33 x4_1.length co33) x4_1) := ⟨h4_⟩
         have n5_ : Aside0 (Kd.V (Kd.int .u8) 5 w37 w.heap.size (fun k_ => (P0_ k_ ∨ w.heap.size ≤ k_) ∧ k_ ≠ gb746 ∧ k_ ≠ gb759) (.slice Ao32 x747002_1.length co32) x747002_1) := ⟨h5_⟩
         have n6_ : Aside0 (w37.heap[gb746]? = some (.cells #[.int .u64 x747000_1, .int .u32 x747001_1, .slice Ao32 x747002_1.length co32] 52 (0, 0))) := ⟨h6_⟩
         have n7_ : Aside0 (w37.heap[gb759]? = some (.cells #[.int .u64 0, .int .u32 0, .slice none 0 0] 52 (0, 0))) := ⟨h7_⟩
         have n8_ : Aside0 (w.heap.size ≤ gb759) := ⟨h8_⟩
         have n9_ : Aside0 (w.heap.size ≤ gb759) := ⟨h9_⟩
         have n10_ : Aside0 (gb746 ≠ gb759) := ⟨h10_⟩
         have n11_ : Aside0 (gb759 ≠ gb746) := ⟨h11_⟩
         have n12_ : Aside0 (Below w.heap.size w w37) := ⟨h12_⟩
         clear HO_0
         clear HO_4
         clear HO_747002
         clear BK746
         clear HB
         clear h0_ h1_ h2_ h3_ h4_ h5_ h6_ h7_ h8_ h9_ h10_ h11_ h12_
         have HL751_0 := n0_
         have HL752_0 := n1_
         have HO757 := n2_
         have HO_0 := n3_
         have HO_4 := n4_
         have HO_747002 := n5_
         have BK746 := n6_
         have BK759 := n7_
         have GW759 := n8_
         have GE759 := n9_
         have NB746_759 := n10_
         have NB759_746 := n11_
         have HB := n12_
         clear n0_ n1_ n2_ n3_ n4_ n5_ n6_ n7_ n8_ n9_ n10_ n11_ n12_
         have hHeld : w37.cell? ⟨gb746, 0, none⟩ = some (.int .u64 x747000_1) ∧ w37.cell? ⟨gb746, 1, none⟩ = some (.int .u32 x747001_1) ∧ w37.cell? ⟨gb746, 2, none⟩ = some (.slice Ao32 x747002_1.length co32) ∧ w37.cell? (ad751.add ((x6_1).toNat * 2)) = some (.slice A751_0 ((rd_T58 l0 x6_1).f0).length c751_0) ∧ w37.cell? ⟨(ad751.add ((x6_1).toNat * 2)).block, (ad751.add ((x6_1).toNat * 2)).off + 1, none⟩ = some (.bool ((rd_T58 l0 x6_1).f1)) ∧ w37.cell? (ad751.add ((x6_1).toNat * 2)) = some (.slice A751_0 ((rd_T58 l0 x6_1).f0).length c751_0) ∧ w37.cell? ⟨(ad751.add ((x6_1).toNat * 2)).block, (ad751.add ((x6_1).toNat * 2)).off + 1, none⟩ = some (.bool ((rd_T58 l0 x6_1).f1)) := hS_
         obtain ⟨Ao40, co40, eo40⟩ := Kd.V_slice HO757.out
         (first | subst eo40 | (injection eo40 with f1_ f2_ f3_; have f4_ := f1_.symm; have f5_ := f3_.symm; clear f1_ f2_ f3_; subst f4_; subst f5_))
         refine norm_ (a' := ?_) ?_ ?_
         rotate_left
         ·simp only [putAll, Act.put, List.setIfInBounds_toArray, List.set_cons_zero, List.set_cons_succ]
          rfl
         refine one_ (i := 17) (N := none) #[true, true, true, true, true, true, true, true, true, true, true, true, true, true, true, true, true, true, false] rfl rfl (one_of HT_.out (by kernel_rfl)) (by decide) (fun K hK => ?_)
         have hs38 : w37.cell? ⟨gb759, 0, none⟩ = some (.int .u64 0) := (blk_cell BK759.out 0).trans rfl
         have hfs38 := blk_frozen BK759.out 0
         have hns38_0 := NB746_759.out
         have hms38_0 := NB759_746.out
         have hs39 : w37.cell? ⟨gb759, 1, none⟩ = some (.int .u32 0) := (blk_cell BK759.out 1).trans rfl
         have hfs39 := blk_frozen BK759.out 1
         have hns39_0 := NB746_759.out
         have hms39_0 := NB759_746.out
         have hs41 : w37.cell? ⟨gb759, 2, none⟩ = some (.slice none 0 0) := (blk_cell BK759.out 2).trans rfl
         have hfs41 := blk_frozen BK759.out 2
         have hns41_0 := NB746_759.out
         have hms41_0 := NB759_746.out
         refine skip_ (w1 := ?_) (by rfl) rfl ?_ ?_
         rotate_left
         ·go_simp
          rfl
         refine hK.out _ _ ⟨((cell_far (p := ⟨gb759, _, none⟩) NB746_759.out _).trans (((cell_far (p := ⟨gb759, _, none⟩) NB746_759.out _).trans (((cell_far (p := ⟨gb759, _, none⟩) NB746_759.out _).trans (hHeld.1)))))), ((cell_far (p := ⟨gb759, _, none⟩) NB746_759.out _).trans (((cell_far (p := ⟨gb759, _, none⟩) NB746_759.out _).trans (((cell_far (p := ⟨gb759, _, none⟩) NB746_759.out _).trans (hHeld.2.1)))))), ((cell_far (p := ⟨gb759, _, none⟩) NB746_759.out _).trans (((cell_far (p := ⟨gb759, _, none⟩) NB746_759.out _).trans (((cell_far (p := ⟨gb759, _, none⟩) NB746_759.out _).trans (hHeld.2.2.1)))))), ((cell_far (p := ⟨gb759, _, none⟩) (aB (V_awayB HO_0.out (of_eq_true p752) (of_eq_true q752) (by decide) (fun _ hk => hk.2.2))) _).trans (((cell_far (p := ⟨gb759, _, none⟩) (aB (V_awayB HO_0.out (of_eq_true p752) (of_eq_true q752) (by decide) (fun _ hk => hk.2.2))) _).trans (((cell_far (p := ⟨gb759, _, none⟩) (aB (V_awayB HO_0.out (of_eq_true p752) (of_eq_true q752) (by decide) (fun _ hk => hk.2.2))) _).trans (hHeld.2.2.2.1)))))), ((cell_far (p := ⟨gb759, _, none⟩) (aB (V_awayB HO_0.out (of_eq_true p752) (of_eq_true q752) (by decide) (fun _ hk => hk.2.2))) _).trans (((cell_far (p := ⟨gb759, _, none⟩) (aB (V_awayB HO_0.out (of_eq_true p752) (of_eq_true q752) (by decide) (fun _ hk => hk.2.2))) _).trans (((cell_far (p := ⟨gb759, _, none⟩) (aB (V_awayB HO_0.out (of_eq_true p752) (of_eq_true q752) (by decide) (fun _ hk => hk.2.2))) _).trans (hHeld.2.2.2.2.1)))))), ((cell_far (p := ⟨gb759, _, none⟩) (aB (V_awayB HO_0.out (of_eq_true p752) (of_eq_true q752) (by decide) (fun _ hk => hk.2.2))) _).trans (((cell_far (p := ⟨gb759, _, none⟩) (aB (V_awayB HO_0.out (of_eq_true p752) (of_eq_true q752) (by decide) (fun _ hk => hk.2.2))) _).trans (((cell_far (p := ⟨gb759, _, none⟩) (aB (V_awayB HO_0.out (of_eq_true p752) (of_eq_true q752) (by decide) (fun _ hk => hk.2.2))) _).trans (hHeld.2.2.2.2.2.1)))))), ((cell_far (p := ⟨gb759, _, none⟩) (aB (V_awayB HO_0.out (of_eq_true p752) (of_eq_true q752) (by decide) (fun _ hk => hk.2.2))) _).trans (((cell_far (p := ⟨gb759, _, none⟩) (aB (V_awayB HO_0.out (of_eq_true p752) (of_eq_true q752) (by decide) (fun _ hk => hk.2.2))) _).trans (((cell_far (p := ⟨gb759, _, none⟩) (aB (V_awayB HO_0.out (of_eq_true p752) (of_eq_true q752) (by decide) (fun _ hk => hk.2.2))) _).trans (hHeld.2.2.2.2.2.2))))))⟩ (fun hHeld => ?_)
         clear hK K
         refine pure_ (i := 18) (N := some 8) (v := ?_) (a' := ?_) #[true, true, true, true, true, true, true, true, true, true, true, true, true, true, true, true, true, true, true] rfl rfl (any_of HT_.out (by kernel_rfl)) (fun _ _ _ h => h) (Or.inl ⟨by rfl, ?_⟩) ?_ ?_
         rotate_left
         ·intro w'
          go_simp
          with_reducible rfl
         rotate_left
         ·simp only [Act.put, List.setIfInBounds_toArray, List.set_cons_zero, List.set_cons_succ, i64_w, i32_w]
          rfl
         refine done_ (done_of HT_.out (by kernel_rfl)) ?_
         try go_wp2
         go_roundg kj8
         case measure => have := HK1.out; have := HJ8.out; omega
         case rel => exact ⟨(x4_1), (x5_1), (wrap64 (x6_1 + 1)), (x747000_1), (x747001_1), (x747002_1), (.slice Ao32 x747002_1.length co32), rs_, rs_, H', ⟨by have := HK1.out; have := HJ8.out; omega⟩, ⟨by (with_reducible repeat (first | apply Kd.V_alloc | apply Kd.V_drewN | apply Kd.V_drew)); exact Kd.V_mono (Kd.V_far (p := ⟨gb759, 2, none⟩) (Kd.V_far (p := ⟨gb759, 1, none⟩) (Kd.V_far (p := ⟨gb759, 0, none⟩) (Kd.V_mono HO_0.out (fun k_ hk => (⟨hk, hk.2.2⟩ : _ ∧ k_ ≠ gb759))) (fun _ hk => hk.2) (.int .u64 t753)) (fun _ hk => hk.2) (.int .u32 t754)) (fun _ hk => hk.2) (.slice Ao40 t755.length co40)) (fun _ hk => ⟨hk.1.1, hk.1.2.1⟩)⟩, ⟨by (with_reducible repeat (first | apply Kd.V_alloc | apply Kd.V_drewN | apply Kd.V_drew)); exact Kd.V_mono (Kd.V_far (p := ⟨gb759, 2, none⟩) (Kd.V_far (p := ⟨gb759, 1, none⟩) (Kd.V_far (p := ⟨gb759, 0, none⟩) (Kd.V_mono HO_4.out (fun k_ hk => (⟨hk, hk.2.2⟩ : _ ∧ k_ ≠ gb759))) (fun _ hk => hk.2) (.int .u64 t753)) (fun _ hk => hk.2) (.int .u32 t754)) (fun _ hk => hk.2) (.slice Ao40 t755.length co40)) (fun _ hk => ⟨hk.1.1, hk.1.2.1⟩)⟩, ⟨by (with_reducible repeat (first | apply Kd.V_alloc | apply Kd.V_drewN | apply Kd.V_drew)); exact Kd.V_mono (Kd.V_far (p := ⟨gb759, 2, none⟩) (Kd.V_far (p := ⟨gb759, 1, none⟩) (Kd.V_far (p := ⟨gb759, 0, none⟩) (Kd.V_mono HO_747002.out (fun k_ hk => (⟨hk, hk.2.2⟩ : _ ∧ k_ ≠ gb759))) (fun _ hk => hk.2) (.int .u64 t753)) (fun _ hk => hk.2) (.int .u32 t754)) (fun _ hk => hk.2) (.slice Ao40 t755.length co40)) (fun _ hk => ⟨hk.1.1, hk.1.2.1⟩)⟩, ⟨by (with_reducible repeat (first | refine blk_drewN ?_ _ | refine blk_drew ?_ | refine blk_alloc ?_ _)); refine blk_far ?_ NB746_759.out _; (with_reducible repeat (first | refine blk_drewN ?_ _ | refine blk_drew ?_ | refine blk_alloc ?_ _)); refine blk_far ?_ NB746_759.out _; (with_reducible repeat (first | refine blk_drewN ?_ _ | refine blk_drew ?_ | refine blk_alloc ?_ _)); refine blk_far ?_ NB746_759.out _; (with_reducible repeat (first | refine blk_drewN ?_ _ | refine blk_drew ?_ | refine blk_alloc ?_ _)); exact BK746.out⟩, ⟨bB HB.out⟩⟩
       ·rw [if_neg c13] at H
        exact absurd H (by simp)
      ·rw [if_neg c12] at H
       exact absurd H (by simp)
     ·replace c11 := Bool.eq_false_iff.mpr c11
      subst c11
      have H1 : (if (wrap64 (8 * (x747002_1.length : Int))) ≤ (wrap64 (x5_1 + 3)) then ((psalterylaw11_knows.f kj8).bind fun t750 => (some t750)) else (some false)) = some r := by rw [if_neg (show ¬ (false = true) by decide)] at H; exact H
      clear H
      have H := H1
      clear H1
      by_cases c42 : (wrap64 (8 * (x747002_1.length : Int))) ≤ (wrap64 (x5_1 + 3))
      ·rw [if_pos c42] at H
       have c42b0 : decide ((wrap64 (8 * (x747002_1.length : Int))) ≤ (wrap64 (x5_1 + 3))) = true := decide_eq_true c42
       clear c42
       replace H := Option.bind_eq_some_iff.mp H
       obtain ⟨t750, A430, H⟩ := H
       replace H : (some t750) = some r := H
       have A43 := Am A430
       clear A430
       obtain rfl := Option.some.inj H
       have hcz44_0 : wc.cell? ⟨gb746, 0, none⟩ = some (.int .u64 x747000_1) := (blk_cell BK746.out 0).trans rfl
       have hcz44_1 : wc.cell? ⟨gb746, 1, none⟩ = some (.int .u32 x747001_1) := (blk_cell BK746.out 1).trans rfl
       have hcz44_2 : wc.cell? ⟨gb746, 2, none⟩ = some (u747002) := (blk_cell BK746.out 2).trans rfl
       have hfz44_0 := blk_frozen BK746.out 0
       have hfz44_1 := blk_frozen BK746.out 1
       have hfz44_2 := blk_frozen BK746.out 2
       obtain ⟨Ao45, co45, eo45⟩ := Kd.V_slice HO_747002.out
       subst eo45
       go_wp2_with (first | (go_at_call 38; (with_reducible refine (psalterylaw11_knows.calls kj8  t750 _ A43.out).mono ?_); rintro e w46 ⟨rfl, hb⟩; have n0_ := Am (Kd.V_below (kV HO_0.out) hb); have n1_ := Am (Kd.V_below (kV HO_4.out) hb); have n2_ := Am (Kd.V_below (kV HO_747002.out) hb); have n3_ := Am (blk_below (g := gb746) (o := .cells #[.int .u64 x747000_1, .int .u32 x747001_1, .slice Ao45 x747002_1.length co45] 52 (0, 0)) (bK BK746.out) hb); have n4_ := Am (below_step (bB HB.out) hb); clear HO_0; clear HO_4; clear HO_747002; clear BK746; clear HB; have HO_0 := n0_; have HO_4 := n1_; have HO_747002 := n2_; have BK746 := n3_; have HB := n4_; clear n0_ n1_ n2_ n3_ n4_; (try clear hb); (try clear hb2); (try clear hk); (try clear hi)))
       go_ret
       exact ⟨by first | rfl | (simp [errW_none, errW_some] <;> rfl) | (simp [*, errW_none, errW_some] <;> rfl), bB HB.out⟩
      ·rw [if_neg c42] at H
       have c42b0 : decide ((wrap64 (8 * (x747002_1.length : Int))) ≤ (wrap64 (x5_1 + 3))) = false := decide_eq_false c42
       clear c42
       obtain rfl := Option.some.inj H
       have hcz47_0 : wc.cell? ⟨gb746, 0, none⟩ = some (.int .u64 x747000_1) := (blk_cell BK746.out 0).trans rfl
       have hcz47_1 : wc.cell? ⟨gb746, 1, none⟩ = some (.int .u32 x747001_1) := (blk_cell BK746.out 1).trans rfl
       have hcz47_2 : wc.cell? ⟨gb746, 2, none⟩ = some (u747002) := (blk_cell BK746.out 2).trans rfl
       have hfz47_0 := blk_frozen BK746.out 0
       have hfz47_1 := blk_frozen BK746.out 1
       have hfz47_2 := blk_frozen BK746.out 2
       obtain ⟨Ao48, co48, eo48⟩ := Kd.V_slice HO_747002.out
       subst eo48
       go_wp2
       go_ret
       exact ⟨by first | rfl | (simp [errW_none, errW_some] <;> rfl) | (simp [*, errW_none, errW_some] <;> rfl), bB HB.out⟩

end Go.Proofs.Ytgknajladloffaa.Q
