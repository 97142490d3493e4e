-- by a program of this session (wip/myprint.py)
import Derived.Test.YtgknajladloffaaDx9
import Derived.Test.YtgknajladloffaaQx0
import Derived.Test.YtgknajladloffaaQx5
namespace Go.Proofs.Ytgknajladloffaa.Q
open Go.RowKit Go.Proofs.YtgknajladloffaaW.PrintWords Go.Proofs.YtgknajladloffaaW.PrintLast Go.Proofs.YtgknajladloffaaW.PrintMore
attribute [local go_sem] max2_int min2_int max_two min_two max_three min_three max_four min_four   -- for this text's walks alone
set_option linter.unusedVariables false
set_option linter.unusedSimpArgs false

/-! ### coder_Finish: function 35 -/
set_option maxHeartbeats 8000000 in
set_option maxRecDepth 100000 in
theorem coder_Finish.calls (a0_0 : Int) (a0_1 : Int) (A0_2 : Option Addr) (c0_2 : Nat) (l0_2 : List Int) (r : List Int) (w : World) (hr0_2 : Kd.C (Kd.int .u8) w A0_2 l0_2.length l0_2) (hc0_2 : l0_2.length ≤ c0_2) (h : coder_Finish.f a0_0 a0_1 l0_2 = some r) :
  Calls Try.prog 35 #[.agg #[.int .u64 a0_0, .int .u32 a0_1, .slice A0_2 l0_2.length c0_2]] w fun e w' => ∃ v0_ : Value, e = .returned (v0_) ∧ Kd.R (Kd.int .u8) 5 w' w.heap.size (fun _ => True) v0_ r ∧ Below w.heap.size w w' := by
 have hu52 := Try.underlying52
 have HR0_2 := Am hr0_2
 have HC0_2 := Am hc0_2
 clear hr0_2 hc0_2
 have HB := Am (Below.refl w.heap.size w)
 have H : ((coder_own.f a0_0 a0_1 l0_2).bind fun bt229 => ((some (([(bt229.1 / 16777216) % 256, (bt229.1 / 65536) % 256, (bt229.1 / 256) % 256, (bt229.1) % 256] : List Int) : List Int)).bind fun y234 => (if bt229.2.2.length + y234.length < 140737488355328 then (some (bt229.2.2 ++ y234)) else (none)))) = some r := h
 clear h
 replace H := Option.bind_eq_some_iff.mp H
 obtain ⟨⟨t229, t230, t231⟩, A20, H⟩ := H
 replace H : ((some (([(t229 / 16777216) % 256, (t229 / 65536) % 256, (t229 / 256) % 256, (t229) % 256] : List Int) : List Int)).bind fun y234 => (if t231.length + y234.length < 140737488355328 then (some (t231 ++ y234)) else (none))) = some r := H
 have A2 := Am A20
 clear A20
 obtain ⟨y234, hy234⟩ : ∃ y_ : List Int, y_ = (([(t229 / 16777216) % 256, (t229 / 65536) % 256, (t229 / 256) % 256, (t229) % 256] : List Int)) := ⟨_, rfl⟩
 replace H : (if t231.length + y234.length < 140737488355328 then (some (t231 ++ y234)) else (none)) = some r := by first | (rw [hy234]; with_reducible exact H) | (have H2_ := (Option.bind_some _ _).symm.trans H; rw [hy234]; with_reducible exact H2_) | (have H2_ := (Option.bind_some _ _).symm.trans H; with_reducible exact H2_) | with_reducible exact H | (rw [hy234]; exact H) | exact H
 have Ny234 := Am hy234
 clear hy234
 by_cases c3 : t231.length + y234.length < 140737488355328
 ·rw [if_pos c3] at H
  have LMc3 := Am c3
  clear c3
  obtain ⟨y237, hy237⟩ : ∃ y_ : List Int, y_ = (t231 ++ y234) := ⟨_, rfl⟩
  replace H : (some y237) = some r := by first | (rw [hy237]; with_reducible exact H) | (have H2_ := (Option.bind_some _ _).symm.trans H; rw [hy237]; with_reducible exact H2_) | (have H2_ := (Option.bind_some _ _).symm.trans H; with_reducible exact H2_) | with_reducible exact H | (rw [hy237]; exact H) | exact H
  have Ny237 := Am hy237
  clear hy237
  obtain rfl := Option.some.inj H
  go_enter Try.func35, Try.ntmps35
  go_wp2_with (first | ((with_reducible refine gate_dst (N := 1) rfl ?_); refine box_event ?hg (N := 1) ?hd (cs := #[.int .u64 a0_0, .int .u32 a0_1, .slice A0_2 l0_2.length c0_2]) (t := 52) ?hr ?_; (case hd => rfl); (case hg => rfl); (case hr => first | (go_simp; done) | (go_simp; rfl)); intro gb228 hg w4 hbox hb; have n0_ := Am (below_step (bB HB.out) hb); have n1_ := Am (hbox); have n2_ := Am ((by rw [hg]; exact (below_size (bB HB.out)) : w.heap.size ≤ gb228)); have n3_ := Am ((by rw [hg]; exact (below_size (bB HB.out)) : w.heap.size ≤ gb228)); clear HB; have HB := n0_; have BK228 := n1_; have GW228 := n2_; have GE228 := n3_; clear n0_ n1_ n2_ n3_; clear hb hbox hg; have hcz5_0 : w4.cell? ⟨gb228, 0, none⟩ = some (.int .u64 a0_0) := (blk_cell BK228.out 0).trans rfl; have hcz5_1 : w4.cell? ⟨gb228, 1, none⟩ = some (.int .u32 a0_1) := (blk_cell BK228.out 1).trans rfl; have hcz5_2 : w4.cell? ⟨gb228, 2, none⟩ = some (.slice A0_2 l0_2.length c0_2) := (blk_cell BK228.out 2).trans rfl; have hfz5_0 := blk_frozen BK228.out 0; have hfz5_1 := blk_frozen BK228.out 1; have hfz5_2 := blk_frozen BK228.out 2) | ((with_reducible refine gate_callee (f := 88) rfl ?_); refine goesL_ (some 4) rfl rfl Try.func88 (by kernel_rfl) rfl #[.agg #[.int .u64 a0_0, .int .u32 a0_1, .slice A0_2 l0_2.length c0_2]] rfl ls_ ?_; (with_reducible refine (coder_own.calls a0_0 a0_1 _ _ l0_2 t229 t230 t231 _ ?side1 ?side2 A2.out).mono ?_); (case side1 => repeat (first | exact (Kd.C_below HR0_2.out HB.out) | (with_reducible refine Kd.C_alloc ?_ _) | (with_reducible refine Kd.C_drewN ?_ _) | (with_reducible refine Kd.C_drew ?_))); (case side2 => exact HC0_2.out); rintro e w6 ⟨v232, rfl, ho0, hb⟩; refine ⟨_, rfl, ?_⟩; have n0_ := Am (Kd.R_lower ho0 (below_size (bB HB.out))); have n1_ := Am (blk_below (g := gb228) (o := .cells #[.int .u64 a0_0, .int .u32 a0_1, .slice A0_2 l0_2.length c0_2] 52 (0, 0)) (bK BK228.out) hb); have n2_ := Am (below_step (bB HB.out) hb); clear BK228; clear HB; have HO233 := n0_; have BK228 := n1_; have HB := n2_; clear n0_ n1_ n2_; (try clear hb); (try clear hb2); (try clear hk); (try clear hi); (try clear ho0); have hcz7_0 : w6.cell? ⟨gb228, 0, none⟩ = some (.int .u64 a0_0) := (blk_cell BK228.out 0).trans rfl; have hcz7_1 : w6.cell? ⟨gb228, 1, none⟩ = some (.int .u32 a0_1) := (blk_cell BK228.out 1).trans rfl; have hcz7_2 : w6.cell? ⟨gb228, 2, none⟩ = some (.slice A0_2 l0_2.length c0_2) := (blk_cell BK228.out 2).trans rfl; have hfz7_0 := blk_frozen BK228.out 0; have hfz7_1 := blk_frozen BK228.out 1; have hfz7_2 := blk_frozen BK228.out 2; obtain ⟨Ao8, co8, eo8⟩ := Kd.R_slice HO233.out; subst eo8) | ((with_reducible refine gate_dst (N := 22) rfl ?_); refine Kd.R_lit (Kd.int .u8) _ 5 ?hg (N := 22) ?hd (xs := ([(t229 / 16777216) % 256, (t229 / 65536) % 256, (t229 / 256) % 256, (t229) % 256] : List Int)) (inner := [.int .u8 ((t229 / 16777216) % 256), .int .u8 ((t229 / 65536) % 256), .int .u8 ((t229 / 256) % 256), .int .u8 ((t229) % 256)]) (ok := fun _ => True) (okp := fun _ => True) ?hr ?hp (fun _ hk => hk) trivial (Below.refl _ _) (Nat.le_refl _) (by simp) ?_; (case hd => rfl); (case hg => rfl); (case hr => first | (go_simp; done) | (go_simp; rfl)); (case hp => exact (Reps.one (show Kd.M (Kd.int .u8) _ _ _ ((t229 / 16777216) % 256) [.int .u8 ((t229 / 16777216) % 256)] from rfl) (Reps.one (show Kd.M (Kd.int .u8) _ _ _ ((t229 / 65536) % 256) [.int .u8 ((t229 / 65536) % 256)] from rfl) (Reps.one (show Kd.M (Kd.int .u8) _ _ _ ((t229 / 256) % 256) [.int .u8 ((t229 / 256) % 256)] from rfl) (Reps.one (show Kd.M (Kd.int .u8) _ _ _ ((t229) % 256) [.int .u8 ((t229) % 256)] from rfl) (Reps.none _ _)))))); intro v235 w9 ho10 hb hg_ hnew_; clear hg_ hnew_; (first | rw [← Ny234.out] at ho10 | (simp only [Int.reduceToNat] at ho10; rw [← Ny234.out] at ho10)); have n0_ := Am (Kd.R_elder' (by (with_reducible repeat (first | apply Kd.R_alloc | apply Kd.R_drewN | apply Kd.R_drew)); exact (Kd.R_mono (Kd.R_far (p := ⟨gb228, 2, none⟩) (Kd.R_far (p := ⟨gb228, 1, none⟩) (Kd.R_far (p := ⟨gb228, 0, none⟩) (Kd.R_types HO233.out BK228.out (by decide)) (fun _ hk => hk.2) (.int .u64 t229)) (fun _ hk => hk.2) (.int .u32 t230)) (fun _ hk => hk.2) (.slice Ao8 t231.length co8)) (fun _ h_ => h_.1))) (Kd.R_base ho10) hb); have n1_ := Am (Kd.R_lower (Kd.R_new' ho10 (Kd.R_lt (by (with_reducible repeat (first | apply Kd.R_alloc | apply Kd.R_drewN | apply Kd.R_drew)); exact (Kd.R_mono (Kd.R_far (p := ⟨gb228, 2, none⟩) (Kd.R_far (p := ⟨gb228, 1, none⟩) (Kd.R_far (p := ⟨gb228, 0, none⟩) (Kd.R_types HO233.out BK228.out (by decide)) (fun _ hk => hk.2) (.int .u64 t229)) (fun _ hk => hk.2) (.int .u32 t230)) (fun _ hk => hk.2) (.slice Ao8 t231.length co8)) (fun _ h_ => h_.1))))) (below_size (bB HB.out))); have n2_ := Am (blk_below (g := gb228) (o := .cells #[.int .u64 t229, .int .u32 t230, .slice Ao8 t231.length co8] 52 (0, 0)) (by (with_reducible repeat (first | refine blk_drewN ?_ _ | refine blk_drew ?_ | refine blk_alloc ?_ _)); refine blk_put (cs := #[.int .u64 t229, .int .u32 t230, .slice A0_2 l0_2.length c0_2]) ?_ 2 _ rfl; (with_reducible repeat (first | refine blk_drewN ?_ _ | refine blk_drew ?_ | refine blk_alloc ?_ _)); refine blk_put (cs := #[.int .u64 t229, .int .u32 a0_1, .slice A0_2 l0_2.length c0_2]) ?_ 1 _ rfl; (with_reducible repeat (first | refine blk_drewN ?_ _ | refine blk_drew ?_ | refine blk_alloc ?_ _)); refine blk_put (cs := #[.int .u64 a0_0, .int .u32 a0_1, .slice A0_2 l0_2.length c0_2]) ?_ 0 _ rfl; (with_reducible repeat (first | refine blk_drewN ?_ _ | refine blk_drew ?_ | refine blk_alloc ?_ _)); exact BK228.out) hb); have n3_ := Am (below_step (bB HB.out) hb); clear HO233; clear BK228; clear HB; have HO233 := n0_; have HO236 := n1_; have BK228 := n2_; have HB := n3_; clear n0_ n1_ n2_ n3_; clear hb ho10; obtain ⟨Ao12, co12, eo12⟩ := Kd.R_slice HO236.out; subst eo12) | ((with_reducible refine gate_builtin (b := .append) (xs := #[.tmp 6, .tmp 22]) rfl ?_); at_builtin; refine Kd.R_append_rows (Kd.int .u8) (w0 := w) w.heap.size rfl (.tmp 6) (.tmp 22) 28 5 (.int .u8 0) 1 rfl Try.underlying28 info5 rfl (by decide) (by omega) (.slice Ao8 t231.length co8) t231 y234 _ _ _ (fun k_ => some k_ ≠ (.slice Ao12 y234.length co12 : Value).ownBlock) (fun _ => False) rfl rfl ?aO ?aR (fun _ _ h => h) (fun _ h => h.elim) ?aF ?aB ?aS ?aL ?_; (case aR => repeat (first | exact (Kd.R_reads' HO236.out).2.2 | (with_reducible refine Kd.C_alloc ?_ _) | (with_reducible refine Kd.C_drewN ?_ _) | (with_reducible refine Kd.C_drew ?_))); (case aB => exact (bB HB.out)); (case aF => exact (fun k_ hk => Kd.fresh' (Kd.R_lt (kR HO236.out)) k_ hk)); (case aO => exact (by (with_reducible repeat (first | apply Kd.R_alloc | apply Kd.R_drewN | apply Kd.R_drew)); exact Kd.R_mono HO233.out (fun _ hk => hk.2))); (case aS => exact (below_size (bB HB.out))); (case aL => have := LMc3.out; omega); intro v238 w11 ho hb hg hat; rw [← Ny237.out] at ho; have n0_ := Am (blk_grown (g := gb228) (o := .cells #[.int .u64 t229, .int .u32 t230, .slice Ao8 t231.length co8] 52 (0, 0)) (bK BK228.out) hg (Kd.R_ne HO233.out BK228.out (by decide))); have n1_ := Am (Kd.R_after (ok := (fun _ => True)) (kR HO236.out) hg hat); have n2_ := Am (hb); have n3_ := Am (ho); clear BK228; clear HO236; clear HB; clear HO233; have BK228 := n0_; have HO236 := n1_; have HB := n2_; have HO239 := n3_; clear n0_ n1_ n2_ n3_; clear ho hb hg hat))
  go_ret
  exact ⟨_, by first | rfl | (simp [errW_none, errW_some] <;> rfl) | (simp [*, errW_none, errW_some] <;> rfl), by (with_reducible repeat (first | apply Kd.R_alloc | apply Kd.R_drewN | apply Kd.R_drew)); exact Kd.R_mono HO239.out (fun _ hk => trivial), bB HB.out⟩
 ·rw [if_neg c3] at H
  exact absurd H (by simp)

/-! ### coder_at: function 87 -/
set_option maxHeartbeats 8000000 in
set_option maxRecDepth 100000 in
theorem coder_at.calls (A0 : Option Addr) (c0 : Nat) (l0 : List Int) (a1 : Int) (r : Int) (w : World) (hr0 : Kd.C (Kd.int .u8) w A0 l0.length l0) (hc0 : l0.length ≤ c0) (h : coder_at.f l0 a1 = some r) :
  Calls Try.prog 87 #[.slice A0 l0.length c0, .int .i64 a1] w fun e w' => e = .returned (.int .u64 r) ∧ Drawn0 w w' := by
 have HR0 := Am hr0
 have HC0 := Am hc0
 clear hr0 hc0
 have H : (if a1 ≥ (l0.length : Int) then (some 0) else (if 0 ≤ a1 then (if a1 < (l0.length : Int) then (some (IntKind.u64.wrap (rd l0 a1))) else (none)) else (none))) = some r := h
 clear h
 by_cases c3 : a1 ≥ (l0.length : Int)
 ·rw [if_pos c3] at H
  have c3b0 : decide ((l0.length : Int) ≤ a1) = true := decide_eq_true c3
  clear c3
  obtain rfl := Option.some.inj H
  go_enter Try.func87, Try.ntmps87
  go_wp2
  go_ret
  exact ⟨by first | rfl | (simp; done) | (simp [*]; done), by repeat (first | exact Drawn0.refl _ | apply Drawn0.step)⟩
 ·rw [if_neg c3] at H
  have c3b0 : decide ((l0.length : Int) ≤ a1) = false := decide_eq_false c3
  clear c3
  by_cases c4 : 0 ≤ a1
  ·rw [if_pos c4] at H
   have c4b0 : decide (0 ≤ a1) = true := decide_eq_true c4
   clear c4
   by_cases c5 : a1 < (l0.length : Int)
   ·rw [if_pos c5] at H
    have c5b0 : decide (a1 < (l0.length : Int)) = true := decide_eq_true c5
    clear c5
    obtain rfl := Option.some.inj H
    have p246 : 0 ≤ (a1 : Int) := of_decide_eq_true as_
    have q246 : a1 < (l0.length : Int) := of_decide_eq_true as_
    obtain ⟨ad246, e246, hx246_0⟩ := Kd.at_int HR0.out a1 p246 q246
    cases e246
    replace p246 := eq_true p246
    replace q246 := eq_true q246
    go_enter Try.func87, Try.ntmps87
    go_wp2
    go_ret
    exact ⟨by first | rfl | (simp; done) | (simp [*]; done), by repeat (first | exact Drawn0.refl _ | apply Drawn0.step)⟩
   ·rw [if_neg c5] at H
    exact absurd H (by simp)
  ·rw [if_neg c4] at H
   exact absurd H (by simp)

/-! ### coder_Open: function 34 -/
set_option maxHeartbeats 8000000 in
set_option maxRecDepth 100000 in
theorem coder_Open.calls (P0_ : Nat → Prop) (A0 : Option Addr) (c0 : Nat) (l0 : List Int) (r1 : Int) (r2 : Int) (r3 : List Int) (r4 : Int) (w : World) (hs0 : Kd.V (Kd.int .u8) 5 w w.heap.size (fun k_ => P0_ k_) (.slice A0 l0.length c0) l0) (h : coder_Open.f l0 = some (r1, r2, r3, r4)) :
  Calls Try.prog 34 #[.slice A0 l0.length c0] w fun e w' => ∃ v2_ : Value, e = .returned (.agg #[.int .u64 r1, .int .u32 r2, v2_, .int .i64 r4]) ∧ Kd.V (Kd.int .u8) 5 w' w.heap.size (fun k_ => (P0_ k_ ∨ w.heap.size ≤ k_)) v2_ r3 ∧ Below w.heap.size w w' := by
 have hu60 := Try.underlying60
 have HO0 := Am (show Kd.V (Kd.int .u8) 5 w w.heap.size (fun k_ => (P0_ k_ ∨ w.heap.size ≤ k_)) (.slice A0 l0.length c0) l0 from Kd.V_mono hs0 (fun k_ hk => .inl hk))
 have HB := Am (Below.refl w.heap.size w)
 have H : ((coder_at.f l0 0).bind fun t248 => ((coder_at.f l0 1).bind fun t249 => ((coder_at.f l0 2).bind fun t250 => ((coder_at.f l0 3).bind fun t251 => (some (Go.bits .or .u64 (Go.bits .or .u64 (Go.bits .or .u64 (IntKind.u64.wrap (t248 * 16777216)) (IntKind.u64.wrap (t249 * 65536))) (IntKind.u64.wrap (t250 * 256))) t251, 4294967295, l0, 4)))))) = some (r1, r2, r3, r4) := h
 clear h
 replace H := Option.bind_eq_some_iff.mp H
 obtain ⟨t248, A20, H⟩ := H
 replace H : ((coder_at.f l0 1).bind fun t249 => ((coder_at.f l0 2).bind fun t250 => ((coder_at.f l0 3).bind fun t251 => (some (Go.bits .or .u64 (Go.bits .or .u64 (Go.bits .or .u64 (IntKind.u64.wrap (t248 * 16777216)) (IntKind.u64.wrap (t249 * 65536))) (IntKind.u64.wrap (t250 * 256))) t251, 4294967295, l0, 4))))) = some (r1, r2, r3, r4) := H
 have A2 := Am A20
 clear A20
 replace H := Option.bind_eq_some_iff.mp H
 obtain ⟨t249, A30, H⟩ := H
 replace H : ((coder_at.f l0 2).bind fun t250 => ((coder_at.f l0 3).bind fun t251 => (some (Go.bits .or .u64 (Go.bits .or .u64 (Go.bits .or .u64 (IntKind.u64.wrap (t248 * 16777216)) (IntKind.u64.wrap (t249 * 65536))) (IntKind.u64.wrap (t250 * 256))) t251, 4294967295, l0, 4)))) = some (r1, r2, r3, r4) := H
 have A3 := Am A30
 clear A30
 replace H := Option.bind_eq_some_iff.mp H
 obtain ⟨t250, A40, H⟩ := H
 replace H : ((coder_at.f l0 3).bind fun t251 => (some (Go.bits .or .u64 (Go.bits .or .u64 (Go.bits .or .u64 (IntKind.u64.wrap (t248 * 16777216)) (IntKind.u64.wrap (t249 * 65536))) (IntKind.u64.wrap (t250 * 256))) t251, 4294967295, l0, 4))) = some (r1, r2, r3, r4) := H
 have A4 := Am A40
 clear A40
 replace H := Option.bind_eq_some_iff.mp H
 obtain ⟨t251, A50, H⟩ := H
 replace H : (some (Go.bits .or .u64 (Go.bits .or .u64 (Go.bits .or .u64 (IntKind.u64.wrap (t248 * 16777216)) (IntKind.u64.wrap (t249 * 65536))) (IntKind.u64.wrap (t250 * 256))) t251, 4294967295, l0, 4)) = some (r1, r2, r3, r4) := H
 have A5 := Am A50
 clear A50
 simp only [Option.some.injEq, Prod.mk.injEq] at H
 obtain ⟨rfl, rfl, rfl, rfl⟩ := H
 go_enter Try.func34, Try.ntmps34
 go_wp2_with (first | ((with_reducible refine gate_dst (N := 2) rfl ?_); refine box_event ?hg (N := 2) ?hd (cs := #[.int .u64 0, .int .u32 0, .slice none 0 0, .int .i64 0]) (t := 60) ?hr ?_; (case hd => rfl); (case hg => rfl); (case hr => first | (go_simp; done) | (go_simp; rfl)); intro gb247 hg w6 hbox hb; have n0_ := Am (Kd.V_below (Kd.V_elderB (kV HO0.out) gb247 (Nat.le_of_eq hg.symm)) hb); have n1_ := Am (below_step (bB HB.out) hb); have n2_ := Am (hbox); have n3_ := Am ((by rw [hg]; exact (below_size (bB HB.out)) : w.heap.size ≤ gb247)); have n4_ := Am ((by rw [hg]; exact (below_size (bB HB.out)) : w.heap.size ≤ gb247)); clear HO0; clear HB; have HO0 := n0_; have HB := n1_; have BK247 := n2_; have GW247 := n3_; have GE247 := n4_; clear n0_ n1_ n2_ n3_ n4_; clear hb hbox hg) | ((with_reducible refine gate_callee (f := 87) rfl ?_); refine goesL_ (some 4) rfl rfl Try.func87 (by kernel_rfl) rfl #[.slice A0 l0.length c0, .int .i64 0] rfl ls_ ?_; (with_reducible refine (coder_at.calls _ _ l0 0 t248 _ ?side1 ?side2 A2.out).mono ?_); (case side1 => repeat (first | exact (Kd.V_reads' HO0.out).2.2 | (with_reducible refine Kd.C_alloc ?_ _) | (with_reducible refine Kd.C_drewN ?_ _) | (with_reducible refine Kd.C_drew ?_))); (case side2 => exact (Kd.V_reads' HO0.out).2.1); rintro e w' ⟨rfl, ⟨nd, rfl⟩⟩; refine ⟨_, rfl, ?_⟩; (try (rw [drewN_self w6]; generalize hq_ : World.drewN w6 _ = w6; have n0_ : Aside0 (Kd.V (Kd.int .u8) 5 w6 w.heap.size (fun k_ => (P0_ k_ ∨ w.heap.size ≤ k_) ∧ k_ ≠ gb247) (.slice A0 l0.length c0) l0) := ⟨by rw [← hq_]; exact (kV HO0.out)⟩; have n1_ : Aside0 (w6.heap[gb247]? = some (.cells #[.int .u64 0, .int .u32 0, .slice none 0 0, .int .i64 0] 60 (0, 0))) := ⟨by rw [← hq_]; exact (bK BK247.out)⟩; have n2_ : Aside0 (Below w.heap.size w w6) := ⟨by rw [← hq_]; exact (bB HB.out)⟩; clear HO0 BK247 HB hq_; have HO0 := n0_; have BK247 := n1_; have HB := n2_; clear n0_ n1_ n2_))) | ((with_reducible refine gate_callee (f := 87) rfl ?_); refine goesL_ (some 7) rfl rfl Try.func87 (by kernel_rfl) rfl #[.slice A0 l0.length c0, .int .i64 1] rfl ls_ ?_; (with_reducible refine (coder_at.calls _ _ l0 1 t249 _ ?side1 ?side2 A3.out).mono ?_); (case side1 => repeat (first | exact (Kd.V_reads' HO0.out).2.2 | (with_reducible refine Kd.C_alloc ?_ _) | (with_reducible refine Kd.C_drewN ?_ _) | (with_reducible refine Kd.C_drew ?_))); (case side2 => exact (Kd.V_reads' HO0.out).2.1); rintro e w' ⟨rfl, ⟨nd, rfl⟩⟩; refine ⟨_, rfl, ?_⟩; (try (rw [drewN_self w6]; generalize hq_ : World.drewN w6 _ = w6; have n0_ : Aside0 (Kd.V (Kd.int .u8) 5 w6 w.heap.size (fun k_ => (P0_ k_ ∨ w.heap.size ≤ k_) ∧ k_ ≠ gb247) (.slice A0 l0.length c0) l0) := ⟨by rw [← hq_]; exact (kV HO0.out)⟩; have n1_ : Aside0 (w6.heap[gb247]? = some (.cells #[.int .u64 0, .int .u32 0, .slice none 0 0, .int .i64 0] 60 (0, 0))) := ⟨by rw [← hq_]; exact (bK BK247.out)⟩; have n2_ : Aside0 (Below w.heap.size w w6) := ⟨by rw [← hq_]; exact (bB HB.out)⟩; clear HO0 BK247 HB hq_; have HO0 := n0_; have BK247 := n1_; have HB := n2_; clear n0_ n1_ n2_))) | ((with_reducible refine gate_callee (f := 87) rfl ?_); refine goesL_ (some 11) rfl rfl Try.func87 (by kernel_rfl) rfl #[.slice A0 l0.length c0, .int .i64 2] rfl ls_ ?_; (with_reducible refine (coder_at.calls _ _ l0 2 t250 _ ?side1 ?side2 A4.out).mono ?_); (case side1 => repeat (first | exact (Kd.V_reads' HO0.out).2.2 | (with_reducible refine Kd.C_alloc ?_ _) | (with_reducible refine Kd.C_drewN ?_ _) | (with_reducible refine Kd.C_drew ?_))); (case side2 => exact (Kd.V_reads' HO0.out).2.1); rintro e w' ⟨rfl, ⟨nd, rfl⟩⟩; refine ⟨_, rfl, ?_⟩; (try (rw [drewN_self w6]; generalize hq_ : World.drewN w6 _ = w6; have n0_ : Aside0 (Kd.V (Kd.int .u8) 5 w6 w.heap.size (fun k_ => (P0_ k_ ∨ w.heap.size ≤ k_) ∧ k_ ≠ gb247) (.slice A0 l0.length c0) l0) := ⟨by rw [← hq_]; exact (kV HO0.out)⟩; have n1_ : Aside0 (w6.heap[gb247]? = some (.cells #[.int .u64 0, .int .u32 0, .slice none 0 0, .int .i64 0] 60 (0, 0))) := ⟨by rw [← hq_]; exact (bK BK247.out)⟩; have n2_ : Aside0 (Below w.heap.size w w6) := ⟨by rw [← hq_]; exact (bB HB.out)⟩; clear HO0 BK247 HB hq_; have HO0 := n0_; have BK247 := n1_; have HB := n2_; clear n0_ n1_ n2_))) | ((with_reducible refine gate_callee (f := 87) rfl ?_); refine goesL_ (some 15) rfl rfl Try.func87 (by kernel_rfl) rfl #[.slice A0 l0.length c0, .int .i64 3] rfl ls_ ?_; (with_reducible refine (coder_at.calls _ _ l0 3 t251 _ ?side1 ?side2 A5.out).mono ?_); (case side1 => repeat (first | exact (Kd.V_reads' HO0.out).2.2 | (with_reducible refine Kd.C_alloc ?_ _) | (with_reducible refine Kd.C_drewN ?_ _) | (with_reducible refine Kd.C_drew ?_))); (case side2 => exact (Kd.V_reads' HO0.out).2.1); rintro e w' ⟨rfl, ⟨nd, rfl⟩⟩; refine ⟨_, rfl, ?_⟩; (try (rw [drewN_self w6]; generalize hq_ : World.drewN w6 _ = w6; have n0_ : Aside0 (Kd.V (Kd.int .u8) 5 w6 w.heap.size (fun k_ => (P0_ k_ ∨ w.heap.size ≤ k_) ∧ k_ ≠ gb247) (.slice A0 l0.length c0) l0) := ⟨by rw [← hq_]; exact (kV HO0.out)⟩; have n1_ : Aside0 (w6.heap[gb247]? = some (.cells #[.int .u64 0, .int .u32 0, .slice none 0 0, .int .i64 0] 60 (0, 0))) := ⟨by rw [← hq_]; exact (bK BK247.out)⟩; have n2_ : Aside0 (Below w.heap.size w w6) := ⟨by rw [← hq_]; exact (bB HB.out)⟩; clear HO0 BK247 HB hq_; have HO0 := n0_; have BK247 := n1_; have HB := n2_; clear n0_ n1_ n2_)); have hcz7_0 : w6.cell? ⟨gb247, 0, none⟩ = some (.int .u64 0) := (blk_cell BK247.out 0).trans rfl; have hcz7_1 : w6.cell? ⟨gb247, 1, none⟩ = some (.int .u32 0) := (blk_cell BK247.out 1).trans rfl; have hcz7_2 : w6.cell? ⟨gb247, 2, none⟩ = some (.slice none 0 0) := (blk_cell BK247.out 2).trans rfl; have hcz7_3 : w6.cell? ⟨gb247, 3, none⟩ = some (.int .i64 0) := (blk_cell BK247.out 3).trans rfl; have hfz7_0 := blk_frozen BK247.out 0; have hfz7_1 := blk_frozen BK247.out 1; have hfz7_2 := blk_frozen BK247.out 2; have hfz7_3 := blk_frozen BK247.out 3))
 refine bodyPost_ret (results_cell_row rfl _ _ gb247 60 #[.int .u64 (Go.bits .or .u64 (Go.bits .or .u64 (Go.bits .or .u64 (IntKind.u64.wrap (t248 * 16777216)) (IntKind.u64.wrap (t249 * 65536))) (IntKind.u64.wrap (t250 * 256))) t251), .int .u32 4294967295, .slice A0 l0.length c0, .int .i64 4] (0, 0) _ rfl (by (with_reducible repeat (first | refine blk_drewN ?_ _ | refine blk_drew ?_ | refine blk_alloc ?_ _)); refine blk_put (cs := #[.int .u64 (Go.bits .or .u64 (Go.bits .or .u64 (Go.bits .or .u64 (IntKind.u64.wrap (t248 * 16777216)) (IntKind.u64.wrap (t249 * 65536))) (IntKind.u64.wrap (t250 * 256))) t251), .int .u32 4294967295, .slice A0 l0.length c0, .int .i64 0]) ?_ 3 _ rfl; (with_reducible repeat (first | refine blk_drewN ?_ _ | refine blk_drew ?_ | refine blk_alloc ?_ _)); refine blk_put (cs := #[.int .u64 (Go.bits .or .u64 (Go.bits .or .u64 (Go.bits .or .u64 (IntKind.u64.wrap (t248 * 16777216)) (IntKind.u64.wrap (t249 * 65536))) (IntKind.u64.wrap (t250 * 256))) t251), .int .u32 4294967295, .slice none 0 0, .int .i64 0]) ?_ 2 _ rfl; (with_reducible repeat (first | refine blk_drewN ?_ _ | refine blk_drew ?_ | refine blk_alloc ?_ _)); refine blk_put (cs := #[.int .u64 (Go.bits .or .u64 (Go.bits .or .u64 (Go.bits .or .u64 (IntKind.u64.wrap (t248 * 16777216)) (IntKind.u64.wrap (t249 * 65536))) (IntKind.u64.wrap (t250 * 256))) t251), .int .u32 0, .slice none 0 0, .int .i64 0]) ?_ 1 _ rfl; (with_reducible repeat (first | refine blk_drewN ?_ _ | refine blk_drew ?_ | refine blk_alloc ?_ _)); refine blk_put (cs := #[.int .u64 0, .int .u32 0, .slice none 0 0, .int .i64 0]) ?_ 0 _ rfl; (with_reducible repeat (first | refine blk_drewN ?_ _ | refine blk_drew ?_ | refine blk_alloc ?_ _)); exact BK247.out) Try.underlying60 rfl (by kernel_rfl)) rfl ?_
 exact ⟨_, by first | rfl | (simp [errW_none, errW_some] <;> rfl) | (simp [*, errW_none, errW_some] <;> rfl), by (with_reducible repeat (first | apply Kd.V_alloc | apply Kd.V_drewN | apply Kd.V_drew)); exact Kd.V_mono (Kd.V_far (p := ⟨gb247, 3, none⟩) (Kd.V_far (p := ⟨gb247, 2, none⟩) (Kd.V_far (p := ⟨gb247, 1, none⟩) (Kd.V_far (p := ⟨gb247, 0, none⟩) (Kd.V_mono HO0.out (fun k_ hk => (⟨hk, hk.2⟩ : _ ∧ k_ ≠ gb247))) (fun _ hk => hk.2) (.int .u64 (Go.bits .or .u64 (Go.bits .or .u64 (Go.bits .or .u64 (IntKind.u64.wrap (t248 * 16777216)) (IntKind.u64.wrap (t249 * 65536))) (IntKind.u64.wrap (t250 * 256))) t251))) (fun _ hk => hk.2) (.int .u32 4294967295)) (fun _ hk => hk.2) (.slice A0 l0.length c0)) (fun _ hk => hk.2) (.int .i64 4)) (fun _ hk => hk.1.1), bB HB.out⟩

/-! ### coder_RightDec: function 90 -/
set_option maxHeartbeats 8000000 in
set_option maxRecDepth 100000 in
theorem coder_RightDec.calls (a0_0 : Int) (a0_1 : Int) (A0_2 : Option Addr) (c0_2 : Nat) (l0_2 : List Int) (a0_3 : Int) (r : Bool) (w : World) (hr0_2 : Kd.C (Kd.int .u8) w A0_2 l0_2.length l0_2) (hc0_2 : l0_2.length ≤ c0_2) (h : coder_RightDec.f a0_0 a0_1 l0_2 a0_3 = some r) :
  Calls Try.prog 90 #[.agg #[.int .u64 a0_0, .int .u32 a0_1, .slice A0_2 l0_2.length c0_2, .int .i64 a0_3]] w fun e w' => e = .returned (.bool r) ∧ Below w.heap.size w w' := by
 have hu60 := Try.underlying60
 have HR0_2 := Am hr0_2
 have HC0_2 := Am hc0_2
 clear hr0_2 hc0_2
 have HB := Am (Below.refl w.heap.size w)
 have H : (if a0_0 ≤ 4294967295 then (if a0_1 ≥ 16777216 then (some (decide (a0_3 ≥ 0))) else (some false)) else (some false)) = some r := h
 clear h
 by_cases c2 : a0_0 ≤ 4294967295
 ·rw [if_pos c2] at H
  have c2b0 : decide (a0_0 ≤ 4294967295) = true := decide_eq_true c2
  clear c2
  by_cases c3 : a0_1 ≥ 16777216
  ·rw [if_pos c3] at H
   have c3b0 : decide (16777216 ≤ a0_1) = true := decide_eq_true c3
   clear c3
   obtain rfl := Option.some.inj H
   go_enter Try.func90, Try.ntmps90
   go_wp2_with (first | ((with_reducible refine gate_dst (N := 1) rfl ?_); refine box_event ?hg (N := 1) ?hd (cs := #[.int .u64 a0_0, .int .u32 a0_1, .slice A0_2 l0_2.length c0_2, .int .i64 a0_3]) (t := 60) ?hr ?_; (case hd => rfl); (case hg => rfl); (case hr => first | (go_simp; done) | (go_simp; rfl)); intro gb252 hg w4 hbox hb; have n0_ := Am (below_step (bB HB.out) hb); have n1_ := Am (hbox); have n2_ := Am ((by rw [hg]; exact (below_size (bB HB.out)) : w.heap.size ≤ gb252)); have n3_ := Am ((by rw [hg]; exact (below_size (bB HB.out)) : w.heap.size ≤ gb252)); clear HB; have HB := n0_; have BK252 := n1_; have GW252 := n2_; have GE252 := n3_; clear n0_ n1_ n2_ n3_; clear hb hbox hg; have hcz5_0 : w4.cell? ⟨gb252, 0, none⟩ = some (.int .u64 a0_0) := (blk_cell BK252.out 0).trans rfl; have hcz5_1 : w4.cell? ⟨gb252, 1, none⟩ = some (.int .u32 a0_1) := (blk_cell BK252.out 1).trans rfl; have hcz5_2 : w4.cell? ⟨gb252, 2, none⟩ = some (.slice A0_2 l0_2.length c0_2) := (blk_cell BK252.out 2).trans rfl; have hcz5_3 : w4.cell? ⟨gb252, 3, none⟩ = some (.int .i64 a0_3) := (blk_cell BK252.out 3).trans rfl; have hfz5_0 := blk_frozen BK252.out 0; have hfz5_1 := blk_frozen BK252.out 1; have hfz5_2 := blk_frozen BK252.out 2; have hfz5_3 := blk_frozen BK252.out 3))
   go_ret
   exact ⟨by first | rfl | (simp [errW_none, errW_some] <;> rfl) | (simp [*, errW_none, errW_some] <;> rfl), bB HB.out⟩
  ·rw [if_neg c3] at H
   have c3b0 : decide (16777216 ≤ a0_1) = false := decide_eq_false c3
   clear c3
   obtain rfl := Option.some.inj H
   go_enter Try.func90, Try.ntmps90
   go_wp2_with (first | ((with_reducible refine gate_dst (N := 1) rfl ?_); refine box_event ?hg (N := 1) ?hd (cs := #[.int .u64 a0_0, .int .u32 a0_1, .slice A0_2 l0_2.length c0_2, .int .i64 a0_3]) (t := 60) ?hr ?_; (case hd => rfl); (case hg => rfl); (case hr => first | (go_simp; done) | (go_simp; rfl)); intro gb252 hg w6 hbox hb; have n0_ := Am (below_step (bB HB.out) hb); have n1_ := Am (hbox); have n2_ := Am ((by rw [hg]; exact (below_size (bB HB.out)) : w.heap.size ≤ gb252)); have n3_ := Am ((by rw [hg]; exact (below_size (bB HB.out)) : w.heap.size ≤ gb252)); clear HB; have HB := n0_; have BK252 := n1_; have GW252 := n2_; have GE252 := n3_; clear n0_ n1_ n2_ n3_; clear hb hbox hg; have hcz7_0 : w6.cell? ⟨gb252, 0, none⟩ = some (.int .u64 a0_0) := (blk_cell BK252.out 0).trans rfl; have hcz7_1 : w6.cell? ⟨gb252, 1, none⟩ = some (.int .u32 a0_1) := (blk_cell BK252.out 1).trans rfl; have hcz7_2 : w6.cell? ⟨gb252, 2, none⟩ = some (.slice A0_2 l0_2.length c0_2) := (blk_cell BK252.out 2).trans rfl; have hcz7_3 : w6.cell? ⟨gb252, 3, none⟩ = some (.int .i64 a0_3) := (blk_cell BK252.out 3).trans rfl; have hfz7_0 := blk_frozen BK252.out 0; have hfz7_1 := blk_frozen BK252.out 1; have hfz7_2 := blk_frozen BK252.out 2; have hfz7_3 := blk_frozen BK252.out 3))
   go_ret
   exact ⟨by first | rfl | (simp [errW_none, errW_some] <;> rfl) | (simp [*, errW_none, errW_some] <;> rfl), bB HB.out⟩
 ·rw [if_neg c2] at H
  have c2b0 : decide (a0_0 ≤ 4294967295) = false := decide_eq_false c2
  clear c2
  obtain rfl := Option.some.inj H
  go_enter Try.func90, Try.ntmps90
  go_wp2_with (first | ((with_reducible refine gate_dst (N := 1) rfl ?_); refine box_event ?hg (N := 1) ?hd (cs := #[.int .u64 a0_0, .int .u32 a0_1, .slice A0_2 l0_2.length c0_2, .int .i64 a0_3]) (t := 60) ?hr ?_; (case hd => rfl); (case hg => rfl); (case hr => first | (go_simp; done) | (go_simp; rfl)); intro gb252 hg w8 hbox hb; have n0_ := Am (below_step (bB HB.out) hb); have n1_ := Am (hbox); have n2_ := Am ((by rw [hg]; exact (below_size (bB HB.out)) : w.heap.size ≤ gb252)); have n3_ := Am ((by rw [hg]; exact (below_size (bB HB.out)) : w.heap.size ≤ gb252)); clear HB; have HB := n0_; have BK252 := n1_; have GW252 := n2_; have GE252 := n3_; clear n0_ n1_ n2_ n3_; clear hb hbox hg; have hcz9_0 : w8.cell? ⟨gb252, 0, none⟩ = some (.int .u64 a0_0) := (blk_cell BK252.out 0).trans rfl; have hcz9_1 : w8.cell? ⟨gb252, 1, none⟩ = some (.int .u32 a0_1) := (blk_cell BK252.out 1).trans rfl; have hcz9_2 : w8.cell? ⟨gb252, 2, none⟩ = some (.slice A0_2 l0_2.length c0_2) := (blk_cell BK252.out 2).trans rfl; have hcz9_3 : w8.cell? ⟨gb252, 3, none⟩ = some (.int .i64 a0_3) := (blk_cell BK252.out 3).trans rfl; have hfz9_0 := blk_frozen BK252.out 0; have hfz9_1 := blk_frozen BK252.out 1; have hfz9_2 := blk_frozen BK252.out 2; have hfz9_3 := blk_frozen BK252.out 3))
  go_ret
  exact ⟨by first | rfl | (simp [errW_none, errW_some] <;> rfl) | (simp [*, errW_none, errW_some] <;> rfl), bB HB.out⟩

/-! ### coder_good: function 131 -/
set_option maxHeartbeats 8000000 in
set_option maxRecDepth 100000 in
theorem coder_good.calls (a0_0 : Int) (a0_1 : Int) (P0_2_ : Nat → Prop) (A0_2 : Option Addr) (c0_2 : Nat) (l0_2 : List Int) (a0_3 : Int) (r1 : Int) (r2 : Int) (r3 : List Int) (r4 : Int) (w : World) (hs0_2 : Kd.V (Kd.int .u8) 5 w w.heap.size (fun k_ => P0_2_ k_) (.slice A0_2 l0_2.length c0_2) l0_2) (h : coder_good.f a0_0 a0_1 l0_2 a0_3 = some (r1, r2, r3, r4)) :
  Calls Try.prog 131 #[.agg #[.int .u64 a0_0, .int .u32 a0_1, .slice A0_2 l0_2.length c0_2, .int .i64 a0_3]] w fun e w' => ∃ v2_ : Value, e = .returned (.agg #[.int .u64 r1, .int .u32 r2, v2_, .int .i64 r4]) ∧ Kd.V (Kd.int .u8) 5 w' w.heap.size (fun k_ => (P0_2_ k_ ∨ w.heap.size ≤ k_)) v2_ r3 ∧ Below w.heap.size w w' := by
 have hu60 := Try.underlying60
 have HO0_2 := Am (show Kd.V (Kd.int .u8) 5 w w.heap.size (fun k_ => (P0_2_ k_ ∨ w.heap.size ≤ k_)) (.slice A0_2 l0_2.length c0_2) l0_2 from Kd.V_mono hs0_2 (fun k_ hk => .inl hk))
 have HB := Am (Below.refl w.heap.size w)
 have H : ((coder_RightDec.f a0_0 a0_1 l0_2 a0_3).bind fun t255 => (if t255 = true then (some (a0_0, a0_1, l0_2, a0_3)) else ((coder_Open.f ([] : List Int)).bind fun bt256 => (some (bt256.1, bt256.2.1, bt256.2.2.1, bt256.2.2.2))))) = some (r1, r2, r3, r4) := h
 clear h
 replace H := Option.bind_eq_some_iff.mp H
 obtain ⟨t255, A20, H⟩ := H
 replace H : (if t255 = true then (some (a0_0, a0_1, l0_2, a0_3)) else ((coder_Open.f ([] : List Int)).bind fun bt256 => (some (bt256.1, bt256.2.1, bt256.2.2.1, bt256.2.2.2)))) = some (r1, r2, r3, r4) := H
 have A2 := Am A20
 clear A20
 by_cases c3 : t255 = true
 ·subst c3
  have H1 : (some (a0_0, a0_1, l0_2, a0_3)) = some (r1, r2, r3, r4) := by rw [if_pos rfl] at H; exact H
  clear H
  have H := H1
  clear H1
  simp only [Option.some.injEq, Prod.mk.injEq] at H
  obtain ⟨rfl, rfl, rfl, rfl⟩ := H
  go_enter Try.func131, Try.ntmps131
  go_wp2_with (first | ((with_reducible refine gate_dst (N := 1) rfl ?_); refine box_event ?hg (N := 1) ?hd (cs := #[.int .u64 a0_0, .int .u32 a0_1, .slice A0_2 l0_2.length c0_2, .int .i64 a0_3]) (t := 60) ?hr ?_; (case hd => rfl); (case hg => rfl); (case hr => first | (go_simp; done) | (go_simp; rfl)); intro gb253 hg w4 hbox hb; have n0_ := Am (Kd.V_below (Kd.V_elderB (kV HO0_2.out) gb253 (Nat.le_of_eq hg.symm)) hb); have n1_ := Am (below_step (bB HB.out) hb); have n2_ := Am (hbox); have n3_ := Am ((by rw [hg]; exact (below_size (bB HB.out)) : w.heap.size ≤ gb253)); have n4_ := Am ((by rw [hg]; exact (below_size (bB HB.out)) : w.heap.size ≤ gb253)); clear HO0_2; clear HB; have HO0_2 := n0_; have HB := n1_; have BK253 := n2_; have GW253 := n3_; have GE253 := n4_; clear n0_ n1_ n2_ n3_ n4_; clear hb hbox hg) | ((with_reducible refine gate_dst (N := 2) rfl ?_); refine box_event ?hg (N := 2) ?hd (cs := #[.int .u64 0, .int .u32 0, .slice none 0 0, .int .i64 0]) (t := 60) ?hr ?_; (case hd => rfl); (case hg => rfl); (case hr => first | (go_simp; done) | (go_simp; rfl)); intro gb254 hg w5 hbox hb; have n0_ := Am (Kd.V_below (Kd.V_elderB (kV HO0_2.out) gb254 (Nat.le_of_eq hg.symm)) hb); have n1_ := Am (blk_below (g := gb253) (o := .cells #[.int .u64 a0_0, .int .u32 a0_1, .slice A0_2 l0_2.length c0_2, .int .i64 a0_3] 60 (0, 0)) (bK BK253.out) hb); have n2_ := Am (below_step (bB HB.out) hb); have n3_ := Am (hbox); have n4_ := Am ((by rw [hg]; exact (below_size (bB HB.out)) : w.heap.size ≤ gb254)); have n5_ := Am ((by rw [hg]; exact (below_size (bB HB.out)) : w.heap.size ≤ gb254)); have n6_ := Am ((by rw [hg]; exact Nat.ne_of_lt (blk_lt (g := gb253) (o := .cells #[.int .u64 a0_0, .int .u32 a0_1, .slice A0_2 l0_2.length c0_2, .int .i64 a0_3] 60 (0, 0)) (bK BK253.out)) : gb253 ≠ gb254)); have n7_ := Am ((by rw [hg]; exact Nat.ne_of_gt (blk_lt (g := gb253) (o := .cells #[.int .u64 a0_0, .int .u32 a0_1, .slice A0_2 l0_2.length c0_2, .int .i64 a0_3] 60 (0, 0)) (bK BK253.out)) : gb254 ≠ gb253)); clear HO0_2; clear BK253; clear HB; have HO0_2 := n0_; have BK253 := n1_; have HB := n2_; have BK254 := n3_; have GW254 := n4_; have GE254 := n5_; have NB253_254 := n6_; have NB254_253 := n7_; clear n0_ n1_ n2_ n3_ n4_ n5_ n6_ n7_; clear hb hbox hg; have hnb6 := NB253_254.out; have hnc6 := NB254_253.out; have hcz7_0 : w5.cell? ⟨gb253, 0, none⟩ = some (.int .u64 a0_0) := (blk_cell BK253.out 0).trans rfl; have hcz7_1 : w5.cell? ⟨gb253, 1, none⟩ = some (.int .u32 a0_1) := (blk_cell BK253.out 1).trans rfl; have hcz7_2 : w5.cell? ⟨gb253, 2, none⟩ = some (.slice A0_2 l0_2.length c0_2) := (blk_cell BK253.out 2).trans rfl; have hcz7_3 : w5.cell? ⟨gb253, 3, none⟩ = some (.int .i64 a0_3) := (blk_cell BK253.out 3).trans rfl; have hfz7_0 := blk_frozen BK253.out 0; have hfz7_1 := blk_frozen BK253.out 1; have hfz7_2 := blk_frozen BK253.out 2; have hfz7_3 := blk_frozen BK253.out 3) | ((with_reducible refine gate_callee (f := 90) rfl ?_); refine goesL_ (some 4) rfl rfl Try.func90 (by kernel_rfl) rfl #[.agg #[.int .u64 a0_0, .int .u32 a0_1, .slice A0_2 l0_2.length c0_2, .int .i64 a0_3]] rfl ls_ ?_; (with_reducible refine (coder_RightDec.calls a0_0 a0_1 _ _ l0_2 a0_3 true _ ?side1 ?side2 A2.out).mono ?_); (case side1 => repeat (first | exact (Kd.V_reads' HO0_2.out).2.2 | (with_reducible refine Kd.C_alloc ?_ _) | (with_reducible refine Kd.C_drewN ?_ _) | (with_reducible refine Kd.C_drew ?_))); (case side2 => exact (Kd.V_reads' HO0_2.out).2.1); rintro e w8 ⟨rfl, hb⟩; refine ⟨_, rfl, ?_⟩; have n0_ := Am (Kd.V_below (kV HO0_2.out) hb); have n1_ := Am (blk_below (g := gb253) (o := .cells #[.int .u64 a0_0, .int .u32 a0_1, .slice A0_2 l0_2.length c0_2, .int .i64 a0_3] 60 (0, 0)) (bK BK253.out) hb); have n2_ := Am (blk_below (g := gb254) (o := .cells #[.int .u64 0, .int .u32 0, .slice none 0 0, .int .i64 0] 60 (0, 0)) (bK BK254.out) hb); have n3_ := Am (below_step (bB HB.out) hb); clear HO0_2; clear BK253; clear BK254; clear HB; have HO0_2 := n0_; have BK253 := n1_; have BK254 := n2_; have HB := n3_; clear n0_ n1_ n2_ n3_; (try clear hb); (try clear hb2); (try clear hk); (try clear hi); have hcz9_0 : w8.cell? ⟨gb253, 0, none⟩ = some (.int .u64 a0_0) := (blk_cell BK253.out 0).trans rfl; have hcz9_1 : w8.cell? ⟨gb253, 1, none⟩ = some (.int .u32 a0_1) := (blk_cell BK253.out 1).trans rfl; have hcz9_2 : w8.cell? ⟨gb253, 2, none⟩ = some (.slice A0_2 l0_2.length c0_2) := (blk_cell BK253.out 2).trans rfl; have hcz9_3 : w8.cell? ⟨gb253, 3, none⟩ = some (.int .i64 a0_3) := (blk_cell BK253.out 3).trans rfl; have hfz9_0 := blk_frozen BK253.out 0; have hfz9_1 := blk_frozen BK253.out 1; have hfz9_2 := blk_frozen BK253.out 2; have hfz9_3 := blk_frozen BK253.out 3; have hcz10_0 : w8.cell? ⟨gb254, 0, none⟩ = some (.int .u64 0) := (blk_cell BK254.out 0).trans rfl; have hcz10_1 : w8.cell? ⟨gb254, 1, none⟩ = some (.int .u32 0) := (blk_cell BK254.out 1).trans rfl; have hcz10_2 : w8.cell? ⟨gb254, 2, none⟩ = some (.slice none 0 0) := (blk_cell BK254.out 2).trans rfl; have hcz10_3 : w8.cell? ⟨gb254, 3, none⟩ = some (.int .i64 0) := (blk_cell BK254.out 3).trans rfl; have hfz10_0 := blk_frozen BK254.out 0; have hfz10_1 := blk_frozen BK254.out 1; have hfz10_2 := blk_frozen BK254.out 2; have hfz10_3 := blk_frozen BK254.out 3))
  refine bodyPost_ret (results_cell_row rfl _ _ gb254 60 #[.int .u64 a0_0, .int .u32 a0_1, .slice A0_2 l0_2.length c0_2, .int .i64 a0_3] (0, 0) _ rfl (by (with_reducible repeat (first | refine blk_drewN ?_ _ | refine blk_drew ?_ | refine blk_alloc ?_ _)); refine blk_put (cs := #[.int .u64 a0_0, .int .u32 a0_1, .slice A0_2 l0_2.length c0_2, .int .i64 0]) ?_ 3 _ rfl; (with_reducible repeat (first | refine blk_drewN ?_ _ | refine blk_drew ?_ | refine blk_alloc ?_ _)); refine blk_put (cs := #[.int .u64 a0_0, .int .u32 a0_1, .slice none 0 0, .int .i64 0]) ?_ 2 _ rfl; (with_reducible repeat (first | refine blk_drewN ?_ _ | refine blk_drew ?_ | refine blk_alloc ?_ _)); refine blk_put (cs := #[.int .u64 a0_0, .int .u32 0, .slice none 0 0, .int .i64 0]) ?_ 1 _ rfl; (with_reducible repeat (first | refine blk_drewN ?_ _ | refine blk_drew ?_ | refine blk_alloc ?_ _)); refine blk_put (cs := #[.int .u64 0, .int .u32 0, .slice none 0 0, .int .i64 0]) ?_ 0 _ rfl; (with_reducible repeat (first | refine blk_drewN ?_ _ | refine blk_drew ?_ | refine blk_alloc ?_ _)); exact BK254.out) Try.underlying60 rfl (by kernel_rfl)) rfl ?_
  exact ⟨_, by first | rfl | (simp [errW_none, errW_some] <;> rfl) | (simp [*, errW_none, errW_some] <;> rfl), by (with_reducible repeat (first | apply Kd.V_alloc | apply Kd.V_drewN | apply Kd.V_drew)); exact Kd.V_mono (Kd.V_far (p := ⟨gb254, 3, none⟩) (Kd.V_far (p := ⟨gb254, 2, none⟩) (Kd.V_far (p := ⟨gb254, 1, none⟩) (Kd.V_far (p := ⟨gb254, 0, none⟩) (Kd.V_mono HO0_2.out (fun k_ hk => (⟨hk, hk.2⟩ : _ ∧ k_ ≠ gb254))) (fun _ hk => hk.2) (.int .u64 a0_0)) (fun _ hk => hk.2) (.int .u32 a0_1)) (fun _ hk => hk.2) (.slice A0_2 l0_2.length c0_2)) (fun _ hk => hk.2) (.int .i64 a0_3)) (fun _ hk => hk.1.1.1), bB HB.out⟩
 ·replace c3 := Bool.eq_false_iff.mpr c3
  subst c3
  have H1 : ((coder_Open.f ([] : List Int)).bind fun bt256 => (some (bt256.1, bt256.2.1, bt256.2.2.1, bt256.2.2.2))) = some (r1, r2, r3, r4) := by rw [if_neg (show ¬ (false = true) by decide)] at H; exact H
  clear H
  have H := H1
  clear H1
  replace H := Option.bind_eq_some_iff.mp H
  obtain ⟨⟨t256, t257, t258, t261⟩, A110, H⟩ := H
  replace H : (some (t256, t257, t258, t261)) = some (r1, r2, r3, r4) := H
  have A11 := Am A110
  clear A110
  simp only [Option.some.injEq, Prod.mk.injEq] at H
  obtain ⟨rfl, rfl, rfl, rfl⟩ := H
  go_enter Try.func131, Try.ntmps131
  go_wp2_with (first | ((with_reducible refine gate_dst (N := 1) rfl ?_); refine box_event ?hg (N := 1) ?hd (cs := #[.int .u64 a0_0, .int .u32 a0_1, .slice A0_2 l0_2.length c0_2, .int .i64 a0_3]) (t := 60) ?hr ?_; (case hd => rfl); (case hg => rfl); (case hr => first | (go_simp; done) | (go_simp; rfl)); intro gb253 hg w12 hbox hb; have n0_ := Am (Kd.V_below (Kd.V_elderB (kV HO0_2.out) gb253 (Nat.le_of_eq hg.symm)) hb); have n1_ := Am (below_step (bB HB.out) hb); have n2_ := Am (hbox); have n3_ := Am ((by rw [hg]; exact (below_size (bB HB.out)) : w.heap.size ≤ gb253)); have n4_ := Am ((by rw [hg]; exact (below_size (bB HB.out)) : w.heap.size ≤ gb253)); clear HO0_2; clear HB; have HO0_2 := n0_; have HB := n1_; have BK253 := n2_; have GW253 := n3_; have GE253 := n4_; clear n0_ n1_ n2_ n3_ n4_; clear hb hbox hg) | ((with_reducible refine gate_dst (N := 2) rfl ?_); refine box_event ?hg (N := 2) ?hd (cs := #[.int .u64 0, .int .u32 0, .slice none 0 0, .int .i64 0]) (t := 60) ?hr ?_; (case hd => rfl); (case hg => rfl); (case hr => first | (go_simp; done) | (go_simp; rfl)); intro gb254 hg w13 hbox hb; have n0_ := Am (Kd.V_below (Kd.V_elderB (kV HO0_2.out) gb254 (Nat.le_of_eq hg.symm)) hb); have n1_ := Am (blk_below (g := gb253) (o := .cells #[.int .u64 a0_0, .int .u32 a0_1, .slice A0_2 l0_2.length c0_2, .int .i64 a0_3] 60 (0, 0)) (bK BK253.out) hb); have n2_ := Am (below_step (bB HB.out) hb); have n3_ := Am (hbox); have n4_ := Am ((by rw [hg]; exact (below_size (bB HB.out)) : w.heap.size ≤ gb254)); have n5_ := Am ((by rw [hg]; exact (below_size (bB HB.out)) : w.heap.size ≤ gb254)); have n6_ := Am ((by rw [hg]; exact Nat.ne_of_lt (blk_lt (g := gb253) (o := .cells #[.int .u64 a0_0, .int .u32 a0_1, .slice A0_2 l0_2.length c0_2, .int .i64 a0_3] 60 (0, 0)) (bK BK253.out)) : gb253 ≠ gb254)); have n7_ := Am ((by rw [hg]; exact Nat.ne_of_gt (blk_lt (g := gb253) (o := .cells #[.int .u64 a0_0, .int .u32 a0_1, .slice A0_2 l0_2.length c0_2, .int .i64 a0_3] 60 (0, 0)) (bK BK253.out)) : gb254 ≠ gb253)); clear HO0_2; clear BK253; clear HB; have HO0_2 := n0_; have BK253 := n1_; have HB := n2_; have BK254 := n3_; have GW254 := n4_; have GE254 := n5_; have NB253_254 := n6_; have NB254_253 := n7_; clear n0_ n1_ n2_ n3_ n4_ n5_ n6_ n7_; clear hb hbox hg; have hnb14 := NB253_254.out; have hnc14 := NB254_253.out; have hcz15_0 : w13.cell? ⟨gb253, 0, none⟩ = some (.int .u64 a0_0) := (blk_cell BK253.out 0).trans rfl; have hcz15_1 : w13.cell? ⟨gb253, 1, none⟩ = some (.int .u32 a0_1) := (blk_cell BK253.out 1).trans rfl; have hcz15_2 : w13.cell? ⟨gb253, 2, none⟩ = some (.slice A0_2 l0_2.length c0_2) := (blk_cell BK253.out 2).trans rfl; have hcz15_3 : w13.cell? ⟨gb253, 3, none⟩ = some (.int .i64 a0_3) := (blk_cell BK253.out 3).trans rfl; have hfz15_0 := blk_frozen BK253.out 0; have hfz15_1 := blk_frozen BK253.out 1; have hfz15_2 := blk_frozen BK253.out 2; have hfz15_3 := blk_frozen BK253.out 3) | ((with_reducible refine gate_callee (f := 90) rfl ?_); refine goesL_ (some 4) rfl rfl Try.func90 (by kernel_rfl) rfl #[.agg #[.int .u64 a0_0, .int .u32 a0_1, .slice A0_2 l0_2.length c0_2, .int .i64 a0_3]] rfl ls_ ?_; (with_reducible refine (coder_RightDec.calls a0_0 a0_1 _ _ l0_2 a0_3 false _ ?side1 ?side2 A2.out).mono ?_); (case side1 => repeat (first | exact (Kd.V_reads' HO0_2.out).2.2 | (with_reducible refine Kd.C_alloc ?_ _) | (with_reducible refine Kd.C_drewN ?_ _) | (with_reducible refine Kd.C_drew ?_))); (case side2 => exact (Kd.V_reads' HO0_2.out).2.1); rintro e w16 ⟨rfl, hb⟩; refine ⟨_, rfl, ?_⟩; have n0_ := Am (Kd.V_below (kV HO0_2.out) hb); have n1_ := Am (blk_below (g := gb253) (o := .cells #[.int .u64 a0_0, .int .u32 a0_1, .slice A0_2 l0_2.length c0_2, .int .i64 a0_3] 60 (0, 0)) (bK BK253.out) hb); have n2_ := Am (blk_below (g := gb254) (o := .cells #[.int .u64 0, .int .u32 0, .slice none 0 0, .int .i64 0] 60 (0, 0)) (bK BK254.out) hb); have n3_ := Am (below_step (bB HB.out) hb); clear HO0_2; clear BK253; clear BK254; clear HB; have HO0_2 := n0_; have BK253 := n1_; have BK254 := n2_; have HB := n3_; clear n0_ n1_ n2_ n3_; (try clear hb); (try clear hb2); (try clear hk); (try clear hi)) | ((with_reducible refine gate_callee (f := 34) rfl ?_); refine goesL_ (some 6) rfl rfl Try.func34 (by kernel_rfl) rfl #[.slice none 0 0] rfl ls_ ?_; (refine (coder_Open.calls (fun k_ => False) _ _ ([] : List Int) t256 t257 t258 t261 _ ?side1 A11.out).mono ?_); (case side1 => exact Kd.V_nil _ _ _ _ _); rintro e w17 ⟨v259, rfl, ho0, hb⟩; refine ⟨_, rfl, ?_⟩; have n0_ := Am (Kd.V_below (kV HO0_2.out) hb); have n1_ := Am (Kd.V_lower (Kd.V_mono (ok' := fun k_ => (P0_2_ k_ ∨ w.heap.size ≤ k_) ∧ k_ ≠ gb253 ∧ k_ ≠ gb254) ho0 (fun k_ hk_ => ⟨Or.elim hk_ (fun hs_ => (hs_).elim) (fun hn_ => (.inr (Nat.le_trans (below_size (bB HB.out)) hn_))), Or.elim hk_ (fun hs_ => (hs_).elim) (fun hn_ => (Kd.freshB (g := gb253) (o := .cells #[.int .u64 a0_0, .int .u32 a0_1, .slice A0_2 l0_2.length c0_2, .int .i64 a0_3] 60 (0, 0)) (bK BK253.out) k_ hn_)), Or.elim hk_ (fun hs_ => (hs_).elim) (fun hn_ => (Kd.freshB (g := gb254) (o := .cells #[.int .u64 0, .int .u32 0, .slice none 0 0, .int .i64 0] 60 (0, 0)) (bK BK254.out) k_ hn_))⟩)) (below_size (bB HB.out))); have n2_ := Am (blk_below (g := gb253) (o := .cells #[.int .u64 a0_0, .int .u32 a0_1, .slice A0_2 l0_2.length c0_2, .int .i64 a0_3] 60 (0, 0)) (bK BK253.out) hb); have n3_ := Am (blk_below (g := gb254) (o := .cells #[.int .u64 0, .int .u32 0, .slice none 0 0, .int .i64 0] 60 (0, 0)) (bK BK254.out) hb); have n4_ := Am (below_step (bB HB.out) hb); clear HO0_2; clear BK253; clear BK254; clear HB; have HO0_2 := n0_; have HO260 := n1_; have BK253 := n2_; have BK254 := n3_; have HB := n4_; clear n0_ n1_ n2_ n3_ n4_; (try clear hb); (try clear hb2); (try clear hk); (try clear hi); (try clear ho0); have hcz18_0 : w17.cell? ⟨gb254, 0, none⟩ = some (.int .u64 0) := (blk_cell BK254.out 0).trans rfl; have hcz18_1 : w17.cell? ⟨gb254, 1, none⟩ = some (.int .u32 0) := (blk_cell BK254.out 1).trans rfl; have hcz18_2 : w17.cell? ⟨gb254, 2, none⟩ = some (.slice none 0 0) := (blk_cell BK254.out 2).trans rfl; have hcz18_3 : w17.cell? ⟨gb254, 3, none⟩ = some (.int .i64 0) := (blk_cell BK254.out 3).trans rfl; have hfz18_0 := blk_frozen BK254.out 0; have hfz18_1 := blk_frozen BK254.out 1; have hfz18_2 := blk_frozen BK254.out 2; have hfz18_3 := blk_frozen BK254.out 3; obtain ⟨Ao19, co19, eo19⟩ := Kd.V_slice HO260.out; subst eo19))
  refine bodyPost_ret (results_cell_row rfl _ _ gb254 60 #[.int .u64 t256, .int .u32 t257, .slice Ao19 t258.length co19, .int .i64 t261] (0, 0) _ rfl (by (with_reducible repeat (first | refine blk_drewN ?_ _ | refine blk_drew ?_ | refine blk_alloc ?_ _)); refine blk_put (cs := #[.int .u64 t256, .int .u32 t257, .slice Ao19 t258.length co19, .int .i64 0]) ?_ 3 _ rfl; (with_reducible repeat (first | refine blk_drewN ?_ _ | refine blk_drew ?_ | refine blk_alloc ?_ _)); refine blk_put (cs := #[.int .u64 t256, .int .u32 t257, .slice none 0 0, .int .i64 0]) ?_ 2 _ rfl; (with_reducible repeat (first | refine blk_drewN ?_ _ | refine blk_drew ?_ | refine blk_alloc ?_ _)); refine blk_put (cs := #[.int .u64 t256, .int .u32 0, .slice none 0 0, .int .i64 0]) ?_ 1 _ rfl; (with_reducible repeat (first | refine blk_drewN ?_ _ | refine blk_drew ?_ | refine blk_alloc ?_ _)); refine blk_put (cs := #[.int .u64 0, .int .u32 0, .slice none 0 0, .int .i64 0]) ?_ 0 _ rfl; (with_reducible repeat (first | refine blk_drewN ?_ _ | refine blk_drew ?_ | refine blk_alloc ?_ _)); exact BK254.out) Try.underlying60 rfl (by kernel_rfl)) rfl ?_
  exact ⟨_, by first | rfl | (simp [errW_none, errW_some] <;> rfl) | (simp [*, errW_none, errW_some] <;> rfl), by (with_reducible repeat (first | apply Kd.V_alloc | apply Kd.V_drewN | apply Kd.V_drew)); exact Kd.V_mono (Kd.V_far (p := ⟨gb254, 3, none⟩) (Kd.V_far (p := ⟨gb254, 2, none⟩) (Kd.V_far (p := ⟨gb254, 1, none⟩) (Kd.V_far (p := ⟨gb254, 0, none⟩) (Kd.V_mono HO260.out (fun k_ hk => (⟨hk, hk.2.2⟩ : _ ∧ k_ ≠ gb254))) (fun _ hk => hk.2) (.int .u64 t256)) (fun _ hk => hk.2) (.int .u32 t257)) (fun _ hk => hk.2) (.slice Ao19 t258.length co19)) (fun _ hk => hk.2) (.int .i64 t261)) (fun _ hk => hk.1.1), bB HB.out⟩

/-! ### coder_Take: function 81 -/
def coder_Take.T7 : Bool × List (List Nat × List Nat) := (true, [([], []), ([0], [0]), ([1], [1]), ([2], [2]), ([], []), ([4], [4]), ([], []), ([6], [6]), ([5, 7], [5, 7]), ([3, 8], [3, 8]), ([0, 1, 2, 3, 4, 5, 6, 7, 8, 9], []), ([10, 9, 8, 0, 1, 2, 3, 4, 5, 6, 7, 8, 9], [9, 10])])
def coder_Take.B7 : List Nat := [0, 1, 3, 7, 0, 16, 0, 64, 240, 511, 1023, 2047]
theorem coder_Take.tab7 : rtab .any (opsOf Try.f81 7) = coder_Take.T7 := by kernel_rfl
theorem coder_Take.bits7 : waitsOk coder_Take.T7.2 coder_Take.B7 = true := by kernel_rfl
set_option maxHeartbeats 8000000 in
set_option maxRecDepth 100000 in
theorem coder_Take.calls (k : Nat) (a0_0 : Int) (a0_1 : Int) (P0_2_ : Nat → Prop) (A0_2 : Option Addr) (c0_2 : Nat) (l0_2 : List Int) (a0_3 : Int) (a1 : Int) (a2 : Int) (a3 : Int) (r1 : Int) (r2 : Int) (r3 : List Int) (r4 : Int) (r5 : Int) (w : World) (hs0_2 : Kd.V (Kd.int .u8) 5 w w.heap.size (fun k_ => P0_2_ k_) (.slice A0_2 l0_2.length c0_2) l0_2) (h : coder_Take.f k a0_0 a0_1 l0_2 a0_3 a1 a2 a3 = some (r1, r2, r3, r4, r5)) :
  Calls Try.prog 81 #[.agg #[.int .u64 a0_0, .int .u32 a0_1, .slice A0_2 l0_2.length c0_2, .int .i64 a0_3], .int .i64 a1, .int .i64 a2, .int .i64 a3] w fun e w' => ∃ v2_ : Value, e = .returned (.tuple #[.agg #[.int .u64 r1, .int .u32 r2, v2_, .int .i64 r4], .int .i64 r5]) ∧ Kd.V (Kd.int .u8) 5 w' w.heap.size (fun k_ => (P0_2_ k_ ∨ w.heap.size ≤ k_)) v2_ r3 ∧ Below w.heap.size w w' := by
 have hu60 := Try.underlying60
 have HO0_2 := Am (show Kd.V (Kd.int .u8) 5 w w.heap.size (fun k_ => (P0_2_ k_ ∨ w.heap.size ≤ k_)) (.slice A0_2 l0_2.length c0_2) l0_2 from Kd.V_mono hs0_2 (fun k_ hk => .inl hk))
 have HB := Am (Below.refl w.heap.size w)
 have H : ((coder_good.f a0_0 a0_1 l0_2 a0_3).bind fun bt264 => ((coder_fair.f a1 a2 a3).bind fun t270 => (if t270 = true then ((coder_part.f bt264.2.1 a1 a2 a3).bind fun bt271 => (coder_Take.l0 k bt271.1 (IntKind.u64.wrap (bt264.1 - (mn bt264.1 bt271.2))) bt264.2.1 bt264.2.2.1 bt264.2.2.2)) else (some (bt264.1, bt264.2.1, bt264.2.2.1, bt264.2.2.2, 1))))) = some (r1, r2, r3, r4, r5) := h
 clear h
 replace H := Option.bind_eq_some_iff.mp H
 obtain ⟨⟨t264, t265, t266, t269⟩, A50, H⟩ := H
 replace H : ((coder_fair.f a1 a2 a3).bind fun t270 => (if t270 = true then ((coder_part.f t265 a1 a2 a3).bind fun bt271 => (coder_Take.l0 k bt271.1 (IntKind.u64.wrap (t264 - (mn t264 bt271.2))) t265 t266 t269)) else (some (t264, t265, t266, t269, 1)))) = some (r1, r2, r3, r4, r5) := H
 have A5 := Am A50
 clear A50
 replace H := Option.bind_eq_some_iff.mp H
 obtain ⟨t270, A60, H⟩ := H
 replace H : (if t270 = true then ((coder_part.f t265 a1 a2 a3).bind fun bt271 => (coder_Take.l0 k bt271.1 (IntKind.u64.wrap (t264 - (mn t264 bt271.2))) t265 t266 t269)) else (some (t264, t265, t266, t269, 1))) = some (r1, r2, r3, r4, r5) := H
 have A6 := Am A60
 clear A60
 by_cases c7 : t270 = true
 ·subst c7
  have H1 : ((coder_part.f t265 a1 a2 a3).bind fun bt271 => (coder_Take.l0 k bt271.1 (IntKind.u64.wrap (t264 - (mn t264 bt271.2))) t265 t266 t269)) = some (r1, r2, r3, r4, r5) := by rw [if_pos rfl] at H; exact H
  clear H
  have H := H1
  clear H1
  replace H := Option.bind_eq_some_iff.mp H
  obtain ⟨⟨t271, t272⟩, A80, H⟩ := H
  replace H : (coder_Take.l0 k t271 (IntKind.u64.wrap (t264 - (mn t264 t272))) t265 t266 t269) = some (r1, r2, r3, r4, r5) := H
  have A8 := Am A80
  clear A80
  obtain ⟨ji9, hji9⟩ : ∃ j_ : Int, (mn t264 t272) = j_ := ⟨_, rfl⟩
  replace H : (coder_Take.l0 k t271 (IntKind.u64.wrap (t264 - (ji9))) t265 t266 t269) = some (r1, r2, r3, r4, r5) := by first | (rw [hji9] at H; exact H) | (simp only [hji9] at H ⊢; exact H)
  (try rw [hji9] at A5)
  (try rw [hji9] at A6)
  (try rw [hji9] at A8)
  have hji9_ : (if t272 < t264 then t272 else t264) = ji9 := hji9
  have H' := Am H
  clear H
  go_enter Try.func81, Try.ntmps81
  go_wp2_with (first | ((with_reducible refine gate_dst (N := 4) rfl ?_); refine box_event ?hg (N := 4) ?hd (cs := #[.int .u64 a0_0, .int .u32 a0_1, .slice A0_2 l0_2.length c0_2, .int .i64 a0_3]) (t := 60) ?hr ?_; (case hd => rfl); (case hg => rfl); (case hr => first | (go_simp; done) | (go_simp; rfl)); intro gb262 hg w10 hbox hb; have n0_ := Am (Kd.V_below (Kd.V_elderB (kV HO0_2.out) gb262 (Nat.le_of_eq hg.symm)) hb); have n1_ := Am (below_step (bB HB.out) hb); have n2_ := Am (hbox); have n3_ := Am ((by rw [hg]; exact (below_size (bB HB.out)) : w.heap.size ≤ gb262)); have n4_ := Am ((by rw [hg]; exact (below_size (bB HB.out)) : w.heap.size ≤ gb262)); clear HO0_2; clear HB; have HO0_2 := n0_; have HB := n1_; have BK262 := n2_; have GW262 := n3_; have GE262 := n4_; clear n0_ n1_ n2_ n3_ n4_; clear hb hbox hg) | ((with_reducible refine gate_dst (N := 8) rfl ?_); refine box_event ?hg (N := 8) ?hd (cs := #[.int .u64 0, .int .u32 0, .slice none 0 0, .int .i64 0]) (t := 60) ?hr ?_; (case hd => rfl); (case hg => rfl); (case hr => first | (go_simp; done) | (go_simp; rfl)); intro gb263 hg w11 hbox hb; have n0_ := Am (Kd.V_below (Kd.V_elderB (kV HO0_2.out) gb263 (Nat.le_of_eq hg.symm)) hb); have n1_ := Am (blk_below (g := gb262) (o := .cells #[.int .u64 a0_0, .int .u32 a0_1, .slice A0_2 l0_2.length c0_2, .int .i64 a0_3] 60 (0, 0)) (bK BK262.out) hb); have n2_ := Am (below_step (bB HB.out) hb); have n3_ := Am (hbox); have n4_ := Am ((by rw [hg]; exact (below_size (bB HB.out)) : w.heap.size ≤ gb263)); have n5_ := Am ((by rw [hg]; exact (below_size (bB HB.out)) : w.heap.size ≤ gb263)); have n6_ := Am ((by rw [hg]; exact Nat.ne_of_lt (blk_lt (g := gb262) (o := .cells #[.int .u64 a0_0, .int .u32 a0_1, .slice A0_2 l0_2.length c0_2, .int .i64 a0_3] 60 (0, 0)) (bK BK262.out)) : gb262 ≠ gb263)); have n7_ := Am ((by rw [hg]; exact Nat.ne_of_gt (blk_lt (g := gb262) (o := .cells #[.int .u64 a0_0, .int .u32 a0_1, .slice A0_2 l0_2.length c0_2, .int .i64 a0_3] 60 (0, 0)) (bK BK262.out)) : gb263 ≠ gb262)); clear HO0_2; clear BK262; clear HB; have HO0_2 := n0_; have BK262 := n1_; have HB := n2_; have BK263 := n3_; have GW263 := n4_; have GE263 := n5_; have NB262_263 := n6_; have NB263_262 := n7_; clear n0_ n1_ n2_ n3_ n4_ n5_ n6_ n7_; clear hb hbox hg; have hnb12 := NB262_263.out; have hnc12 := NB263_262.out; have hcz13_0 : w11.cell? ⟨gb262, 0, none⟩ = some (.int .u64 a0_0) := (blk_cell BK262.out 0).trans rfl; have hcz13_1 : w11.cell? ⟨gb262, 1, none⟩ = some (.int .u32 a0_1) := (blk_cell BK262.out 1).trans rfl; have hcz13_2 : w11.cell? ⟨gb262, 2, none⟩ = some (.slice A0_2 l0_2.length c0_2) := (blk_cell BK262.out 2).trans rfl; have hcz13_3 : w11.cell? ⟨gb262, 3, none⟩ = some (.int .i64 a0_3) := (blk_cell BK262.out 3).trans rfl; have hfz13_0 := blk_frozen BK262.out 0; have hfz13_1 := blk_frozen BK262.out 1; have hfz13_2 := blk_frozen BK262.out 2; have hfz13_3 := blk_frozen BK262.out 3) | ((with_reducible refine gate_callee (f := 131) rfl ?_); refine goesL_ (some 13) rfl rfl Try.func131 (by kernel_rfl) rfl #[.agg #[.int .u64 a0_0, .int .u32 a0_1, .slice A0_2 l0_2.length c0_2, .int .i64 a0_3]] rfl ls_ ?_; (with_reducible refine (coder_good.calls a0_0 a0_1 (fun k_ => (((P0_2_ k_ ∨ w.heap.size ≤ k_) ∧ k_ ≠ gb262) ∧ k_ ≠ gb263)) _ _ l0_2 a0_3 t264 t265 t266 t269 _ ?side1 A5.out).mono ?_); (case side1 => exact HO0_2.out); rintro e w14 ⟨v267, rfl, ho0, hb⟩; refine ⟨_, rfl, ?_⟩; have n0_ := Am (Kd.V_below (kV HO0_2.out) hb); have n1_ := Am (Kd.V_lower (Kd.V_mono (ok' := fun k_ => (P0_2_ k_ ∨ w.heap.size ≤ k_) ∧ k_ ≠ gb262 ∧ k_ ≠ gb263) ho0 (fun k_ hk_ => ⟨Or.elim hk_ (fun hs_ => hs_.1.1) (fun hn_ => (.inr (Nat.le_trans (below_size (bB HB.out)) hn_))), Or.elim hk_ (fun hs_ => hs_.1.2) (fun hn_ => (Kd.freshB (g := gb262) (o := .cells #[.int .u64 a0_0, .int .u32 a0_1, .slice A0_2 l0_2.length c0_2, .int .i64 a0_3] 60 (0, 0)) (bK BK262.out) k_ hn_)), Or.elim hk_ (fun hs_ => hs_.2) (fun hn_ => (Kd.freshB (g := gb263) (o := .cells #[.int .u64 0, .int .u32 0, .slice none 0 0, .int .i64 0] 60 (0, 0)) (bK BK263.out) k_ hn_))⟩)) (below_size (bB HB.out))); have n2_ := Am (blk_below (g := gb262) (o := .cells #[.int .u64 a0_0, .int .u32 a0_1, .slice A0_2 l0_2.length c0_2, .int .i64 a0_3] 60 (0, 0)) (bK BK262.out) hb); have n3_ := Am (blk_below (g := gb263) (o := .cells #[.int .u64 0, .int .u32 0, .slice none 0 0, .int .i64 0] 60 (0, 0)) (bK BK263.out) hb); have n4_ := Am (below_step (bB HB.out) hb); clear HO0_2; clear BK262; clear BK263; clear HB; have HO0_2 := n0_; have HO268 := n1_; have BK262 := n2_; have BK263 := n3_; have HB := n4_; clear n0_ n1_ n2_ n3_ n4_; (try clear hb); (try clear hb2); (try clear hk); (try clear hi); (try clear ho0); have hcz15_0 : w14.cell? ⟨gb262, 0, none⟩ = some (.int .u64 a0_0) := (blk_cell BK262.out 0).trans rfl; have hcz15_1 : w14.cell? ⟨gb262, 1, none⟩ = some (.int .u32 a0_1) := (blk_cell BK262.out 1).trans rfl; have hcz15_2 : w14.cell? ⟨gb262, 2, none⟩ = some (.slice A0_2 l0_2.length c0_2) := (blk_cell BK262.out 2).trans rfl; have hcz15_3 : w14.cell? ⟨gb262, 3, none⟩ = some (.int .i64 a0_3) := (blk_cell BK262.out 3).trans rfl; have hfz15_0 := blk_frozen BK262.out 0; have hfz15_1 := blk_frozen BK262.out 1; have hfz15_2 := blk_frozen BK262.out 2; have hfz15_3 := blk_frozen BK262.out 3; obtain ⟨Ao16, co16, eo16⟩ := Kd.V_slice HO268.out; subst eo16) | ((with_reducible refine gate_callee (f := 107) rfl ?_); refine goesL_ (some 17) rfl rfl Try.func107 (by kernel_rfl) rfl #[.int .i64 a1, .int .i64 a2, .int .i64 a3] rfl ls_ ?_; (with_reducible refine (coder_fair.calls a1 a2 a3 true _ A6.out).mono ?_); rintro e w17 ⟨rfl, hb⟩; refine ⟨_, rfl, ?_⟩; have n0_ := Am (Kd.V_below (by (with_reducible repeat (first | apply Kd.V_alloc | apply Kd.V_drewN | apply Kd.V_drew)); exact (Kd.V_mono (Kd.V_far (p := ⟨gb262, 3, none⟩) (Kd.V_far (p := ⟨gb262, 2, none⟩) (Kd.V_far (p := ⟨gb262, 1, none⟩) (Kd.V_far (p := ⟨gb262, 0, none⟩) (Kd.V_mono HO0_2.out (fun k_ hk => (⟨hk, hk.1.2⟩ : _ ∧ k_ ≠ gb262))) (fun _ hk => hk.2) (.int .u64 t264)) (fun _ hk => hk.2) (.int .u32 t265)) (fun _ hk => hk.2) (.slice Ao16 t266.length co16)) (fun _ hk => hk.2) (.int .i64 t269)) (fun _ h_ => h_.1))) hb); have n1_ := Am (Kd.V_below (by (with_reducible repeat (first | apply Kd.V_alloc | apply Kd.V_drewN | apply Kd.V_drew)); exact (Kd.V_mono (Kd.V_far (p := ⟨gb262, 3, none⟩) (Kd.V_far (p := ⟨gb262, 2, none⟩) (Kd.V_far (p := ⟨gb262, 1, none⟩) (Kd.V_far (p := ⟨gb262, 0, none⟩) (Kd.V_mono HO268.out (fun k_ hk => (⟨hk, hk.2.1⟩ : _ ∧ k_ ≠ gb262))) (fun _ hk => hk.2) (.int .u64 t264)) (fun _ hk => hk.2) (.int .u32 t265)) (fun _ hk => hk.2) (.slice Ao16 t266.length co16)) (fun _ hk => hk.2) (.int .i64 t269)) (fun _ h_ => h_.1))) hb); have n2_ := Am (blk_below (g := gb262) (o := .cells #[.int .u64 t264, .int .u32 t265, .slice Ao16 t266.length co16, .int .i64 t269] 60 (0, 0)) (by (with_reducible repeat (first | refine blk_drewN ?_ _ | refine blk_drew ?_ | refine blk_alloc ?_ _)); refine blk_put (cs := #[.int .u64 t264, .int .u32 t265, .slice Ao16 t266.length co16, .int .i64 a0_3]) ?_ 3 _ rfl; (with_reducible repeat (first | refine blk_drewN ?_ _ | refine blk_drew ?_ | refine blk_alloc ?_ _)); refine blk_put (cs := #[.int .u64 t264, .int .u32 t265, .slice A0_2 l0_2.length c0_2, .int .i64 a0_3]) ?_ 2 _ rfl; (with_reducible repeat (first | refine blk_drewN ?_ _ | refine blk_drew ?_ | refine blk_alloc ?_ _)); refine blk_put (cs := #[.int .u64 t264, .int .u32 a0_1, .slice A0_2 l0_2.length c0_2, .int .i64 a0_3]) ?_ 1 _ rfl; (with_reducible repeat (first | refine blk_drewN ?_ _ | refine blk_drew ?_ | refine blk_alloc ?_ _)); refine blk_put (cs := #[.int .u64 a0_0, .int .u32 a0_1, .slice A0_2 l0_2.length c0_2, .int .i64 a0_3]) ?_ 0 _ rfl; (with_reducible repeat (first | refine blk_drewN ?_ _ | refine blk_drew ?_ | refine blk_alloc ?_ _)); exact BK262.out) hb); have n3_ := Am (blk_below (g := gb263) (o := .cells #[.int .u64 0, .int .u32 0, .slice none 0 0, .int .i64 0] 60 (0, 0)) (by (with_reducible repeat (first | refine blk_drewN ?_ _ | refine blk_drew ?_ | refine blk_alloc ?_ _)); refine blk_far ?_ NB263_262.out _; (with_reducible repeat (first | refine blk_drewN ?_ _ | refine blk_drew ?_ | refine blk_alloc ?_ _)); refine blk_far ?_ NB263_262.out _; (with_reducible repeat (first | refine blk_drewN ?_ _ | refine blk_drew ?_ | refine blk_alloc ?_ _)); refine blk_far ?_ NB263_262.out _; (with_reducible repeat (first | refine blk_drewN ?_ _ | refine blk_drew ?_ | refine blk_alloc ?_ _)); refine blk_far ?_ NB263_262.out _; (with_reducible repeat (first | refine blk_drewN ?_ _ | refine blk_drew ?_ | refine blk_alloc ?_ _)); exact BK263.out) hb); have n4_ := Am (below_step (bB HB.out) hb); clear HO0_2; clear HO268; clear BK262; clear BK263; clear HB; have HO0_2 := n0_; have HO268 := n1_; have BK262 := n2_; have BK263 := n3_; have HB := n4_; clear n0_ n1_ n2_ n3_ n4_; (try clear hb); (try clear hb2); (try clear hk); (try clear hi); have hcz18_0 : w17.cell? ⟨gb262, 0, none⟩ = some (.int .u64 t264) := (blk_cell BK262.out 0).trans rfl; have hcz18_1 : w17.cell? ⟨gb262, 1, none⟩ = some (.int .u32 t265) := (blk_cell BK262.out 1).trans rfl; have hcz18_2 : w17.cell? ⟨gb262, 2, none⟩ = some (.slice Ao16 t266.length co16) := (blk_cell BK262.out 2).trans rfl; have hcz18_3 : w17.cell? ⟨gb262, 3, none⟩ = some (.int .i64 t269) := (blk_cell BK262.out 3).trans rfl; have hfz18_0 := blk_frozen BK262.out 0; have hfz18_1 := blk_frozen BK262.out 1; have hfz18_2 := blk_frozen BK262.out 2; have hfz18_3 := blk_frozen BK262.out 3) | ((with_reducible refine gate_callee (f := 108) rfl ?_); refine goesL_ (some 26) rfl rfl Try.func108 (by kernel_rfl) rfl #[.int .u32 t265, .int .i64 a1, .int .i64 a2, .int .i64 a3] rfl ls_ ?_; (with_reducible refine (coder_part.calls t265 a1 a2 a3 t271 t272 _ A8.out).mono ?_); rintro e w19 ⟨rfl, hb⟩; refine ⟨_, rfl, ?_⟩; have n0_ := Am (Kd.V_below (kV HO0_2.out) hb); have n1_ := Am (Kd.V_below (kV HO268.out) hb); have n2_ := Am (blk_below (g := gb262) (o := .cells #[.int .u64 t264, .int .u32 t265, .slice Ao16 t266.length co16, .int .i64 t269] 60 (0, 0)) (bK BK262.out) hb); have n3_ := Am (blk_below (g := gb263) (o := .cells #[.int .u64 0, .int .u32 0, .slice none 0 0, .int .i64 0] 60 (0, 0)) (bK BK263.out) hb); have n4_ := Am (below_step (bB HB.out) hb); clear HO0_2; clear HO268; clear BK262; clear BK263; clear HB; have HO0_2 := n0_; have HO268 := n1_; have BK262 := n2_; have BK263 := n3_; have HB := n4_; clear n0_ n1_ n2_ n3_ n4_; (try clear hb); (try clear hb2); (try clear hk); (try clear hi); have hcz20_0 : w19.cell? ⟨gb262, 0, none⟩ = some (.int .u64 t264) := (blk_cell BK262.out 0).trans rfl; have hcz20_1 : w19.cell? ⟨gb262, 1, none⟩ = some (.int .u32 t265) := (blk_cell BK262.out 1).trans rfl; have hcz20_2 : w19.cell? ⟨gb262, 2, none⟩ = some (.slice Ao16 t266.length co16) := (blk_cell BK262.out 2).trans rfl; have hcz20_3 : w19.cell? ⟨gb262, 3, none⟩ = some (.int .i64 t269) := (blk_cell BK262.out 3).trans rfl; have hfz20_0 := blk_frozen BK262.out 0; have hfz20_1 := blk_frozen BK262.out 1; have hfz20_2 := blk_frozen BK262.out 2; have hfz20_3 := blk_frozen BK262.out 3))
  go_loopg [10] k (fun kq v10 w' => ∃ (x10_1 : Int) (x263000_1 : Int) (x263003_1 : Int), v10 = .int .u32 x10_1 ∧ Aside0 (coder_Take.l0 kq x10_1 x263000_1 t265 t266 x263003_1 = some (r1, r2, r3, r4, r5)) ∧ Aside0 (kq ≤ k) ∧ Aside0 (Kd.V (Kd.int .u8) 5 w' w.heap.size (fun k_ => (P0_2_ k_ ∨ w.heap.size ≤ k_) ∧ k_ ≠ gb262 ∧ k_ ≠ gb263) (.slice Ao16 t266.length co16) t266) ∧ Aside0 (w'.heap[gb262]? = some (.cells #[.int .u64 x263000_1, .int .u32 t265, (.slice Ao16 t266.length co16), .int .i64 x263003_1] 60 (0, 0))) ∧ Aside0 (w'.heap[gb263]? = some (.cells #[.int .u64 0, .int .u32 0, (.slice none 0 0), .int .i64 0] 60 (0, 0))) ∧ Aside0 (Below w.heap.size w w'))
  case atStart => exact ⟨(t271), (IntKind.u64.wrap (t264 - (ji9))), (t269), rs_, H', ⟨Nat.le_refl _⟩, ⟨by (with_reducible repeat (first | apply Kd.V_alloc | apply Kd.V_drewN | apply Kd.V_drew)); exact Kd.V_mono (Kd.V_far (p := ⟨gb262, 0, none⟩) (Kd.V_mono HO268.out (fun k_ hk => (⟨hk, hk.2.1⟩ : _ ∧ k_ ≠ gb262))) (fun _ hk => hk.2) (.int .u64 (IntKind.u64.wrap (t264 - (ji9))))) (fun _ hk => ⟨hk.1.1, ⟨hk.1.2.1, hk.1.2.2⟩⟩)⟩, ⟨by (with_reducible repeat (first | refine blk_drewN ?_ _ | refine blk_drew ?_ | refine blk_alloc ?_ _)); refine blk_put (cs := #[.int .u64 t264, .int .u32 t265, .slice Ao16 t266.length co16, .int .i64 t269]) ?_ 0 _ rfl; (with_reducible repeat (first | refine blk_drewN ?_ _ | refine blk_drew ?_ | refine blk_alloc ?_ _)); exact BK262.out⟩, ⟨by (with_reducible repeat (first | refine blk_drewN ?_ _ | refine blk_drew ?_ | refine blk_alloc ?_ _)); refine blk_far ?_ NB263_262.out _; (with_reducible repeat (first | refine blk_drewN ?_ _ | refine blk_drew ?_ | refine blk_alloc ?_ _)); exact BK263.out⟩, ⟨bB HB.out⟩⟩
  case round =>
   clear H'
   try clear c1
   try clear p2
   try clear c7
   try clear c8
   try clear c10
   try clear c12
   try clear c13
   try clear hcz13_0
   try clear hcz13_1
   try clear hcz13_2
   try clear hcz13_3
   try clear hcz15_0
   try clear hcz15_1
   try clear hcz15_2
   try clear hcz15_3
   try clear hcz18_0
   try clear hcz18_1
   try clear hcz18_2
   try clear hcz18_3
   try clear hcz20_0
   try clear hcz20_1
   try clear hcz20_2
   try clear hcz20_3
   try clear hfz13_0
   try clear hfz13_1
   try clear hfz13_2
   try clear hfz13_3
   try clear hfz15_0
   try clear hfz15_1
   try clear hfz15_2
   try clear hfz15_3
   try clear hfz18_0
   try clear hfz18_1
   try clear hfz18_2
   try clear hfz18_3
   try clear hfz20_0
   try clear hfz20_1
   try clear hfz20_2
   try clear hfz20_3
   obtain ⟨x10_1, x263000_1, x263003_1, rfl, HA, HK1, HO_263002, BK262, BK263, HB⟩ := hrel
   cases gk with
   | zero => exact absurd HA.out (by simp [coder_Take.l0])
   | succ k1 =>
    have H := HA.out
    clear HA
    simp only [coder_Take.l0] at H
    by_cases c21 : x10_1 < 16777216
    ·rw [if_pos c21] at H
     have c21b0 : decide (x10_1 < 16777216) = true := decide_eq_true c21
     clear c21
     replace H := Option.bind_eq_some_iff.mp H
     obtain ⟨t273, A220, H⟩ := H
     replace H : (if x263003_1 < (t266.length : Int) then (coder_Take.l0 k1 ((x10_1 * 256) % 4294967296) (Go.bits .or .u64 (Go.bits .and .u64 (IntKind.u64.wrap (x263000_1 * 256)) 4294967295) t273) t265 t266 (wrap64 (x263003_1 + 1))) else (coder_Take.l0 k1 ((x10_1 * 256) % 4294967296) (Go.bits .or .u64 (Go.bits .and .u64 (IntKind.u64.wrap (x263000_1 * 256)) 4294967295) t273) t265 t266 x263003_1)) = some (r1, r2, r3, r4, r5) := H
     have A22 := Am A220
     clear A220
     by_cases c23 : x263003_1 < (t266.length : Int)
     ·rw [if_pos c23] at H
      have c23b0 : decide (x263003_1 < (t266.length : Int)) = true := decide_eq_true c23
      clear c23
      have H' := Am H
      clear H
      try go_wp2
      have n0_ := Am (Kd.V_drew HO_263002.out)
      have n1_ := Am (blk_drew BK262.out)
      have n2_ := Am (blk_drew BK263.out)
      have n3_ := Am (below_drew1 HB.out)
      clear HO_263002
      clear BK262
      clear BK263
      clear HB
      have HO_263002 := n0_
      have BK262 := n1_
      have BK263 := n2_
      have HB := n3_
      clear n0_ n1_ n2_ n3_
      refine start_ (n := 12) (S := fun w' => w'.cell? ⟨gb262, 0, none⟩ = some (.int .u64 x263000_1) ∧ w'.cell? ⟨gb262, 1, none⟩ = some (.int .u32 t265) ∧ w'.cell? ⟨gb262, 2, none⟩ = some (.slice Ao16 t266.length co16) ∧ w'.cell? ⟨gb262, 3, none⟩ = some (.int .i64 x263003_1)) (ds := [11]) #[false, false, false, false, false, false, false, false, false, false, false, false] (by kernel_rfl) rfl rfl ⟨(blk_cell BK262.out 0).trans rfl, (blk_cell BK262.out 1).trans rfl, (blk_cell BK262.out 2).trans rfl, (blk_cell BK262.out 3).trans rfl⟩ (fun hHeld => ?_); refine with_tabW coder_Take.tab7 coder_Take.bits7 (fun HT_ HW_ => ?_)
      generalize wr.drew = w24 at HO_263002 BK262 BK263 HB hHeld ⊢
      refine pure_ (i := 0) (N := some 39) (v := ?_) (a' := ?_) #[true, false, false, false, false, false, false, false, false, false, false, false] rfl rfl (any_of HT_.out (by kernel_rfl)) (fun _ _ _ h => h) (Or.inl ⟨by rfl, ?_⟩) ?_ ?_
      rotate_left
      ·intro w'
       go_simp
       with_reducible rfl
      rotate_left
      ·simp only [Act.put, List.setIfInBounds_toArray, List.set_cons_zero, List.set_cons_succ, i64_w, i32_w]
       rfl
      refine pure_ (i := 4) (N := some 43) (v := ?_) (a' := ?_) #[true, false, false, false, true, false, false, false, false, false, false, false] rfl rfl (any_of HT_.out (by kernel_rfl)) (fun _ _ _ h => h) (Or.inl ⟨by rfl, ?_⟩) ?_ ?_
      rotate_left
      ·intro w'
       go_simp
       with_reducible rfl
      rotate_left
      ·simp only [Act.put, List.setIfInBounds_toArray, List.set_cons_zero, List.set_cons_succ, i64_w, i32_w]
       rfl
      refine pure_ (i := 6) (N := some 45) (v := ?_) (a' := ?_) #[true, false, false, false, true, false, true, false, false, false, false, false] rfl rfl (any_of HT_.out (by kernel_rfl)) (fun _ _ _ h => h) (Or.inl ⟨by rfl, ?_⟩) ?_ ?_
      rotate_left
      ·intro w'
       go_simp
       with_reducible rfl
      rotate_left
      ·simp only [Act.put, List.setIfInBounds_toArray, List.set_cons_zero, List.set_cons_succ, i64_w, i32_w]
       rfl
      refine take_ (i := 1) (N := some 40) (v := ?_) (a' := ?_) #[true, true, false, false, true, false, true, false, false, false, false, false] rfl rfl (take_ofW HT_.out HW_.out (by kernel_rfl)) (fun _ _ _ h => h) (Or.inl ⟨by rfl, ?_⟩) hHeld ?_ ?_
      rotate_left
      ·rintro w' ⟨s0, s1, s2, s3⟩
       go_simp
       with_reducible rfl
      rotate_left
      ·simp only [Act.put, List.setIfInBounds_toArray, List.set_cons_zero, List.set_cons_succ, i64_w, i32_w]
       rfl
      refine pure_ (i := 2) (N := some 41) (v := ?_) (a' := ?_) #[true, true, true, false, true, false, true, false, false, false, false, false] rfl rfl (any_of HT_.out (by kernel_rfl)) (fun _ _ _ h => h) (Or.inl ⟨by rfl, ?_⟩) ?_ ?_
      rotate_left
      ·intro w'
       go_simp
       with_reducible rfl
      rotate_left
      ·simp only [Act.put, List.setIfInBounds_toArray, List.set_cons_zero, List.set_cons_succ, i64_w, i32_w]
       rfl
      refine pure_ (i := 3) (N := some 42) (v := ?_) (a' := ?_) #[true, true, true, true, true, false, true, false, false, false, false, false] rfl rfl (any_of HT_.out (by kernel_rfl)) (fun _ _ _ h => h) (Or.inl ⟨by rfl, ?_⟩) ?_ ?_
      rotate_left
      ·intro w'
       go_simp
       with_reducible rfl
      rotate_left
      ·simp only [Act.put, List.setIfInBounds_toArray, List.set_cons_zero, List.set_cons_succ, i64_w, i32_w]
       rfl
      refine take_ (i := 5) (N := some 44) (v := ?_) (a' := ?_) #[true, true, true, true, true, true, true, false, false, false, false, false] rfl rfl (take_ofW HT_.out HW_.out (by kernel_rfl)) (fun _ _ _ h => h) (Or.inl ⟨by rfl, ?_⟩) hHeld ?_ ?_
      rotate_left
      ·rintro w' ⟨s0, s1, s2, s3⟩
       go_simp
       with_reducible rfl
      rotate_left
      ·simp only [Act.put, List.setIfInBounds_toArray, List.set_cons_zero, List.set_cons_succ, i64_w, i32_w]
       rfl
      refine take_ (i := 7) (N := some 46) (v := ?_) (a' := ?_) #[true, true, true, true, true, true, true, true, false, false, false, false] rfl rfl (take_ofW HT_.out HW_.out (by kernel_rfl)) (fun _ _ _ h => h) (Or.inl ⟨by rfl, ?_⟩) hHeld ?_ ?_
      rotate_left
      ·rintro w' ⟨s0, s1, s2, s3⟩
       go_simp
       with_reducible rfl
      rotate_left
      ·simp only [Act.put, List.setIfInBounds_toArray, List.set_cons_zero, List.set_cons_succ, i64_w, i32_w]
       rfl
      refine one_ (i := 8) (N := some 47) #[true, true, true, true, true, true, true, true, true, false, false, false] rfl rfl (one_of HT_.out (by kernel_rfl)) (by decide) (fun K hK => ?_)
      refine goes_ Try.func87 (by kernel_rfl) rfl #[.slice Ao16 t266.length co16, .int .i64 x263003_1] (by rfl) rfl rfl ls_ ?_
      with_reducible refine (coder_at.calls _ _ t266 x263003_1 t273 _ ?side1 ?side2 A22.out).mono ?_
      (case side1 => repeat (first | exact (Kd.V_reads' HO_263002.out).2.2 | (with_reducible refine Kd.C_alloc ?_ _) | (with_reducible refine Kd.C_drewN ?_ _) | (with_reducible refine Kd.C_drew ?_)))
      (case side2 => exact (Kd.V_reads' HO_263002.out).2.1)
      rintro e w' ⟨rfl, ⟨nd, rfl⟩⟩
      refine ⟨_, rfl, ?_⟩
      refine hK.out _ _ ⟨(blk_cell BK262.out 0).trans rfl, (blk_cell BK262.out 1).trans rfl, (blk_cell BK262.out 2).trans rfl, (blk_cell BK262.out 3).trans rfl⟩ (fun hHeld => ?_)
      clear hK K
      refine norm_ (a' := ?_) ?_ ?_
      rotate_left
      ·show Act.put _ (some 47) _ = _
       simp only [Act.put, List.setIfInBounds_toArray, List.set_cons_zero, List.set_cons_succ, i64_w, i32_w]
       rfl
      refine pure_ (i := 9) (N := some 48) (v := ?_) (a' := ?_) #[true, true, true, true, true, true, true, true, true, true, false, false] rfl rfl (any_of HT_.out (by kernel_rfl)) (fun _ _ _ h => h) (Or.inl ⟨by rfl, ?_⟩) ?_ ?_
      rotate_left
      ·intro w'
       go_simp
       with_reducible rfl
      rotate_left
      ·simp only [Act.put, List.setIfInBounds_toArray, List.set_cons_zero, List.set_cons_succ, i64_w, i32_w]
       rfl
      refine pure_ (i := 10) (N := some 49) (v := ?_) (a' := ?_) #[true, true, true, true, true, true, true, true, true, true, true, false] rfl rfl (any_of HT_.out (by kernel_rfl)) (fun _ _ _ h => h) (Or.inl ⟨by rfl, ?_⟩) ?_ ?_
      rotate_left
      ·intro w'
       go_simp
       with_reducible rfl
      rotate_left
      ·simp only [Act.put, List.setIfInBounds_toArray, List.set_cons_zero, List.set_cons_succ, i64_w, i32_w]
       rfl
      refine last_ (i := 11) (N := none) #[true, true, true, true, true, true, true, true, true, true, true, true] rfl rfl (one_of HT_.out (by kernel_rfl)) (by decide) (fun K hK => ?_)
      have hs25 : w24.cell? ⟨gb262, 0, none⟩ = some (.int .u64 x263000_1) := (blk_cell BK262.out 0).trans rfl
      have hfs25 := blk_frozen BK262.out 0
      have hns25_1 := NB263_262.out
      have hms25_1 := NB262_263.out
      refine skip_ (w1 := ?_) (by rfl) rfl ?_ ?_
      rotate_left
      ·go_simp
       rfl
      refine hK.out _ _ ?_
      clear hK K
      refine done_ (done_of HT_.out (by kernel_rfl)) ?_
      have hnb26 := NB262_263.out
      have hnc26 := NB263_262.out
      have hcz27_0 : w24.cell? ⟨gb262, 0, none⟩ = some (.int .u64 x263000_1) := (blk_cell BK262.out 0).trans rfl
      have hcz27_1 : w24.cell? ⟨gb262, 1, none⟩ = some (.int .u32 t265) := (blk_cell BK262.out 1).trans rfl
      have hcz27_2 : w24.cell? ⟨gb262, 2, none⟩ = some (.slice Ao16 t266.length co16) := (blk_cell BK262.out 2).trans rfl
      have hcz27_3 : w24.cell? ⟨gb262, 3, none⟩ = some (.int .i64 x263003_1) := (blk_cell BK262.out 3).trans rfl
      have hfz27_0 := blk_frozen BK262.out 0
      have hfz27_1 := blk_frozen BK262.out 1
      have hfz27_2 := blk_frozen BK262.out 2
      have hfz27_3 := blk_frozen BK262.out 3
      try go_wp2
      go_roundg k1
      case measure => have := HK1.out; omega
      case rel => exact ⟨((x10_1 * 256) % 4294967296), (Go.bits .or .u64 (Go.bits .and .u64 (IntKind.u64.wrap (x263000_1 * 256)) 4294967295) t273), (wrap64 (x263003_1 + 1)), rs_, H', ⟨by have := HK1.out; omega⟩, ⟨by (with_reducible repeat (first | apply Kd.V_alloc | apply Kd.V_drewN | apply Kd.V_drew)); exact Kd.V_mono (Kd.V_far (p := ⟨gb262, 3, none⟩) (Kd.V_far (p := ⟨gb262, 0, none⟩) (Kd.V_mono HO_263002.out (fun k_ hk => (⟨hk, hk.2.1⟩ : _ ∧ k_ ≠ gb262))) (fun _ hk => hk.2) (.int .u64 (Go.bits .or .u64 (Go.bits .and .u64 (IntKind.u64.wrap (x263000_1 * 256)) 4294967295) t273))) (fun _ hk => hk.2) (.int .i64 (wrap64 (x263003_1 + 1)))) (fun _ hk => ⟨hk.1.1, ⟨hk.1.2.1, hk.1.2.2⟩⟩)⟩, ⟨by (with_reducible repeat (first | refine blk_drewN ?_ _ | refine blk_drew ?_ | refine blk_alloc ?_ _)); refine blk_put (cs := #[.int .u64 (Go.bits .or .u64 (Go.bits .and .u64 (IntKind.u64.wrap (x263000_1 * 256)) 4294967295) t273), .int .u32 t265, .slice Ao16 t266.length co16, .int .i64 x263003_1]) ?_ 3 _ rfl; (with_reducible repeat (first | refine blk_drewN ?_ _ | refine blk_drew ?_ | refine blk_alloc ?_ _)); refine blk_put (cs := #[.int .u64 x263000_1, .int .u32 t265, .slice Ao16 t266.length co16, .int .i64 x263003_1]) ?_ 0 _ rfl; (with_reducible repeat (first | refine blk_drewN ?_ _ | refine blk_drew ?_ | refine blk_alloc ?_ _)); exact BK262.out⟩, ⟨by (with_reducible repeat (first | refine blk_drewN ?_ _ | refine blk_drew ?_ | refine blk_alloc ?_ _)); refine blk_far ?_ NB263_262.out _; (with_reducible repeat (first | refine blk_drewN ?_ _ | refine blk_drew ?_ | refine blk_alloc ?_ _)); refine blk_far ?_ NB263_262.out _; (with_reducible repeat (first | refine blk_drewN ?_ _ | refine blk_drew ?_ | refine blk_alloc ?_ _)); exact BK263.out⟩, ⟨bB HB.out⟩⟩
     ·rw [if_neg c23] at H
      have c23b0 : decide (x263003_1 < (t266.length : Int)) = false := decide_eq_false c23
      clear c23
      have H' := Am H
      clear H
      try go_wp2
      have n0_ := Am (Kd.V_drew HO_263002.out)
      have n1_ := Am (blk_drew BK262.out)
      have n2_ := Am (blk_drew BK263.out)
      have n3_ := Am (below_drew1 HB.out)
      clear HO_263002
      clear BK262
      clear BK263
      clear HB
      have HO_263002 := n0_
      have BK262 := n1_
      have BK263 := n2_
      have HB := n3_
      clear n0_ n1_ n2_ n3_
      refine start_ (n := 12) (S := fun w' => w'.cell? ⟨gb262, 0, none⟩ = some (.int .u64 x263000_1) ∧ w'.cell? ⟨gb262, 1, none⟩ = some (.int .u32 t265) ∧ w'.cell? ⟨gb262, 2, none⟩ = some (.slice Ao16 t266.length co16) ∧ w'.cell? ⟨gb262, 3, none⟩ = some (.int .i64 x263003_1)) (ds := [11]) #[false, false, false, false, false, false, false, false, false, false, false, false] (by kernel_rfl) rfl rfl ⟨(blk_cell BK262.out 0).trans rfl, (blk_cell BK262.out 1).trans rfl, (blk_cell BK262.out 2).trans rfl, (blk_cell BK262.out 3).trans rfl⟩ (fun hHeld => ?_); refine with_tabW coder_Take.tab7 coder_Take.bits7 (fun HT_ HW_ => ?_)
      generalize wr.drew = w28 at HO_263002 BK262 BK263 HB hHeld ⊢
      refine pure_ (i := 0) (N := some 39) (v := ?_) (a' := ?_) #[true, false, false, false, false, false, false, false, false, false, false, false] rfl rfl (any_of HT_.out (by kernel_rfl)) (fun _ _ _ h => h) (Or.inl ⟨by rfl, ?_⟩) ?_ ?_
      rotate_left
      ·intro w'
       go_simp
       with_reducible rfl
      rotate_left
      ·simp only [Act.put, List.setIfInBounds_toArray, List.set_cons_zero, List.set_cons_succ, i64_w, i32_w]
       rfl
      refine pure_ (i := 4) (N := some 43) (v := ?_) (a' := ?_) #[true, false, false, false, true, false, false, false, false, false, false, false] rfl rfl (any_of HT_.out (by kernel_rfl)) (fun _ _ _ h => h) (Or.inl ⟨by rfl, ?_⟩) ?_ ?_
      rotate_left
      ·intro w'
       go_simp
       with_reducible rfl
      rotate_left
      ·simp only [Act.put, List.setIfInBounds_toArray, List.set_cons_zero, List.set_cons_succ, i64_w, i32_w]
       rfl
      refine pure_ (i := 6) (N := some 45) (v := ?_) (a' := ?_) #[true, false, false, false, true, false, true, false, false, false, false, false] rfl rfl (any_of HT_.out (by kernel_rfl)) (fun _ _ _ h => h) (Or.inl ⟨by rfl, ?_⟩) ?_ ?_
      rotate_left
      ·intro w'
       go_simp
       with_reducible rfl
      rotate_left
      ·simp only [Act.put, List.setIfInBounds_toArray, List.set_cons_zero, List.set_cons_succ, i64_w, i32_w]
       rfl
      refine take_ (i := 1) (N := some 40) (v := ?_) (a' := ?_) #[true, true, false, false, true, false, true, false, false, false, false, false] rfl rfl (take_ofW HT_.out HW_.out (by kernel_rfl)) (fun _ _ _ h => h) (Or.inl ⟨by rfl, ?_⟩) hHeld ?_ ?_
      rotate_left
      ·rintro w' ⟨s0, s1, s2, s3⟩
       go_simp
       with_reducible rfl
      rotate_left
      ·simp only [Act.put, List.setIfInBounds_toArray, List.set_cons_zero, List.set_cons_succ, i64_w, i32_w]
       rfl
      refine pure_ (i := 2) (N := some 41) (v := ?_) (a' := ?_) #[true, true, true, false, true, false, true, false, false, false, false, false] rfl rfl (any_of HT_.out (by kernel_rfl)) (fun _ _ _ h => h) (Or.inl ⟨by rfl, ?_⟩) ?_ ?_
      rotate_left
      ·intro w'
       go_simp
       with_reducible rfl
      rotate_left
      ·simp only [Act.put, List.setIfInBounds_toArray, List.set_cons_zero, List.set_cons_succ, i64_w, i32_w]
       rfl
      refine pure_ (i := 3) (N := some 42) (v := ?_) (a' := ?_) #[true, true, true, true, true, false, true, false, false, false, false, false] rfl rfl (any_of HT_.out (by kernel_rfl)) (fun _ _ _ h => h) (Or.inl ⟨by rfl, ?_⟩) ?_ ?_
      rotate_left
      ·intro w'
       go_simp
       with_reducible rfl
      rotate_left
      ·simp only [Act.put, List.setIfInBounds_toArray, List.set_cons_zero, List.set_cons_succ, i64_w, i32_w]
       rfl
      refine take_ (i := 5) (N := some 44) (v := ?_) (a' := ?_) #[true, true, true, true, true, true, true, false, false, false, false, false] rfl rfl (take_ofW HT_.out HW_.out (by kernel_rfl)) (fun _ _ _ h => h) (Or.inl ⟨by rfl, ?_⟩) hHeld ?_ ?_
      rotate_left
      ·rintro w' ⟨s0, s1, s2, s3⟩
       go_simp
       with_reducible rfl
      rotate_left
      ·simp only [Act.put, List.setIfInBounds_toArray, List.set_cons_zero, List.set_cons_succ, i64_w, i32_w]
       rfl
      refine take_ (i := 7) (N := some 46) (v := ?_) (a' := ?_) #[true, true, true, true, true, true, true, true, false, false, false, false] rfl rfl (take_ofW HT_.out HW_.out (by kernel_rfl)) (fun _ _ _ h => h) (Or.inl ⟨by rfl, ?_⟩) hHeld ?_ ?_
      rotate_left
      ·rintro w' ⟨s0, s1, s2, s3⟩
       go_simp
       with_reducible rfl
      rotate_left
      ·simp only [Act.put, List.setIfInBounds_toArray, List.set_cons_zero, List.set_cons_succ, i64_w, i32_w]
       rfl
      refine one_ (i := 8) (N := some 47) #[true, true, true, true, true, true, true, true, true, false, false, false] rfl rfl (one_of HT_.out (by kernel_rfl)) (by decide) (fun K hK => ?_)
      refine goes_ Try.func87 (by kernel_rfl) rfl #[.slice Ao16 t266.length co16, .int .i64 x263003_1] (by rfl) rfl rfl ls_ ?_
      with_reducible refine (coder_at.calls _ _ t266 x263003_1 t273 _ ?side1 ?side2 A22.out).mono ?_
      (case side1 => repeat (first | exact (Kd.V_reads' HO_263002.out).2.2 | (with_reducible refine Kd.C_alloc ?_ _) | (with_reducible refine Kd.C_drewN ?_ _) | (with_reducible refine Kd.C_drew ?_)))
      (case side2 => exact (Kd.V_reads' HO_263002.out).2.1)
      rintro e w' ⟨rfl, ⟨nd, rfl⟩⟩
      refine ⟨_, rfl, ?_⟩
      refine hK.out _ _ ⟨(blk_cell BK262.out 0).trans rfl, (blk_cell BK262.out 1).trans rfl, (blk_cell BK262.out 2).trans rfl, (blk_cell BK262.out 3).trans rfl⟩ (fun hHeld => ?_)
      clear hK K
      refine norm_ (a' := ?_) ?_ ?_
      rotate_left
      ·show Act.put _ (some 47) _ = _
       simp only [Act.put, List.setIfInBounds_toArray, List.set_cons_zero, List.set_cons_succ, i64_w, i32_w]
       rfl
      refine pure_ (i := 9) (N := some 48) (v := ?_) (a' := ?_) #[true, true, true, true, true, true, true, true, true, true, false, false] rfl rfl (any_of HT_.out (by kernel_rfl)) (fun _ _ _ h => h) (Or.inl ⟨by rfl, ?_⟩) ?_ ?_
      rotate_left
      ·intro w'
       go_simp
       with_reducible rfl
      rotate_left
      ·simp only [Act.put, List.setIfInBounds_toArray, List.set_cons_zero, List.set_cons_succ, i64_w, i32_w]
       rfl
      refine pure_ (i := 10) (N := some 49) (v := ?_) (a' := ?_) #[true, true, true, true, true, true, true, true, true, true, true, false] rfl rfl (any_of HT_.out (by kernel_rfl)) (fun _ _ _ h => h) (Or.inl ⟨by rfl, ?_⟩) ?_ ?_
      rotate_left
      ·intro w'
       go_simp
       with_reducible rfl
      rotate_left
      ·simp only [Act.put, List.setIfInBounds_toArray, List.set_cons_zero, List.set_cons_succ, i64_w, i32_w]
       rfl
      refine last_ (i := 11) (N := none) #[true, true, true, true, true, true, true, true, true, true, true, true] rfl rfl (one_of HT_.out (by kernel_rfl)) (by decide) (fun K hK => ?_)
      have hs29 : w28.cell? ⟨gb262, 0, none⟩ = some (.int .u64 x263000_1) := (blk_cell BK262.out 0).trans rfl
      have hfs29 := blk_frozen BK262.out 0
      have hns29_1 := NB263_262.out
      have hms29_1 := NB262_263.out
      refine skip_ (w1 := ?_) (by rfl) rfl ?_ ?_
      rotate_left
      ·go_simp
       rfl
      refine hK.out _ _ ?_
      clear hK K
      refine done_ (done_of HT_.out (by kernel_rfl)) ?_
      have hnb30 := NB262_263.out
      have hnc30 := NB263_262.out
      have hcz31_0 : w28.cell? ⟨gb262, 0, none⟩ = some (.int .u64 x263000_1) := (blk_cell BK262.out 0).trans rfl
      have hcz31_1 : w28.cell? ⟨gb262, 1, none⟩ = some (.int .u32 t265) := (blk_cell BK262.out 1).trans rfl
      have hcz31_2 : w28.cell? ⟨gb262, 2, none⟩ = some (.slice Ao16 t266.length co16) := (blk_cell BK262.out 2).trans rfl
      have hcz31_3 : w28.cell? ⟨gb262, 3, none⟩ = some (.int .i64 x263003_1) := (blk_cell BK262.out 3).trans rfl
      have hfz31_0 := blk_frozen BK262.out 0
      have hfz31_1 := blk_frozen BK262.out 1
      have hfz31_2 := blk_frozen BK262.out 2
      have hfz31_3 := blk_frozen BK262.out 3
      try go_wp2
      go_roundg k1
      case measure => have := HK1.out; omega
      case rel => exact ⟨((x10_1 * 256) % 4294967296), (Go.bits .or .u64 (Go.bits .and .u64 (IntKind.u64.wrap (x263000_1 * 256)) 4294967295) t273), (x263003_1), rs_, H', ⟨by have := HK1.out; omega⟩, ⟨by (with_reducible repeat (first | apply Kd.V_alloc | apply Kd.V_drewN | apply Kd.V_drew)); exact Kd.V_mono (Kd.V_far (p := ⟨gb262, 0, none⟩) (Kd.V_mono HO_263002.out (fun k_ hk => (⟨hk, hk.2.1⟩ : _ ∧ k_ ≠ gb262))) (fun _ hk => hk.2) (.int .u64 (Go.bits .or .u64 (Go.bits .and .u64 (IntKind.u64.wrap (x263000_1 * 256)) 4294967295) t273))) (fun _ hk => ⟨hk.1.1, ⟨hk.1.2.1, hk.1.2.2⟩⟩)⟩, ⟨by (with_reducible repeat (first | refine blk_drewN ?_ _ | refine blk_drew ?_ | refine blk_alloc ?_ _)); refine blk_put (cs := #[.int .u64 x263000_1, .int .u32 t265, .slice Ao16 t266.length co16, .int .i64 x263003_1]) ?_ 0 _ rfl; (with_reducible repeat (first | refine blk_drewN ?_ _ | refine blk_drew ?_ | refine blk_alloc ?_ _)); exact BK262.out⟩, ⟨by (with_reducible repeat (first | refine blk_drewN ?_ _ | refine blk_drew ?_ | refine blk_alloc ?_ _)); refine blk_far ?_ NB263_262.out _; (with_reducible repeat (first | refine blk_drewN ?_ _ | refine blk_drew ?_ | refine blk_alloc ?_ _)); exact BK263.out⟩, ⟨bB HB.out⟩⟩
    ·rw [if_neg c21] at H
     have c21b0 : decide (x10_1 < 16777216) = false := decide_eq_false c21
     clear c21
     simp only [Option.some.injEq, Prod.mk.injEq] at H
     obtain ⟨rfl, rfl, rfl, rfl, rfl⟩ := H
     have hnb32 := NB262_263.out
     have hnc32 := NB263_262.out
     have hcz33_0 : wr.cell? ⟨gb262, 0, none⟩ = some (.int .u64 x263000_1) := (blk_cell BK262.out 0).trans rfl
     have hcz33_1 : wr.cell? ⟨gb262, 1, none⟩ = some (.int .u32 t265) := (blk_cell BK262.out 1).trans rfl
     have hcz33_2 : wr.cell? ⟨gb262, 2, none⟩ = some (.slice Ao16 t266.length co16) := (blk_cell BK262.out 2).trans rfl
     have hcz33_3 : wr.cell? ⟨gb262, 3, none⟩ = some (.int .i64 x263003_1) := (blk_cell BK262.out 3).trans rfl
     have hfz33_0 := blk_frozen BK262.out 0
     have hfz33_1 := blk_frozen BK262.out 1
     have hfz33_2 := blk_frozen BK262.out 2
     have hfz33_3 := blk_frozen BK262.out 3
     have hcz34_0 : wr.cell? ⟨gb263, 0, none⟩ = some (.int .u64 0) := (blk_cell BK263.out 0).trans rfl
     have hcz34_1 : wr.cell? ⟨gb263, 1, none⟩ = some (.int .u32 0) := (blk_cell BK263.out 1).trans rfl
     have hcz34_2 : wr.cell? ⟨gb263, 2, none⟩ = some (.slice none 0 0) := (blk_cell BK263.out 2).trans rfl
     have hcz34_3 : wr.cell? ⟨gb263, 3, none⟩ = some (.int .i64 0) := (blk_cell BK263.out 3).trans rfl
     have hfz34_0 := blk_frozen BK263.out 0
     have hfz34_1 := blk_frozen BK263.out 1
     have hfz34_2 := blk_frozen BK263.out 2
     have hfz34_3 := blk_frozen BK263.out 3
     go_wp2
     refine bodyPost_ret (results_ct rfl _ _ gb263 60 #[.int .u64 x263000_1, .int .u32 x10_1, .slice Ao16 t266.length co16, .int .i64 x263003_1] (0, 0) _ rfl (by (with_reducible repeat (first | refine blk_drewN ?_ _ | refine blk_drew ?_ | refine blk_alloc ?_ _)); refine blk_put (cs := #[.int .u64 x263000_1, .int .u32 x10_1, .slice Ao16 t266.length co16, .int .i64 0]) ?_ 3 _ rfl; (with_reducible repeat (first | refine blk_drewN ?_ _ | refine blk_drew ?_ | refine blk_alloc ?_ _)); refine blk_put (cs := #[.int .u64 x263000_1, .int .u32 x10_1, .slice none 0 0, .int .i64 0]) ?_ 2 _ rfl; (with_reducible repeat (first | refine blk_drewN ?_ _ | refine blk_drew ?_ | refine blk_alloc ?_ _)); refine blk_put (cs := #[.int .u64 x263000_1, .int .u32 0, .slice none 0 0, .int .i64 0]) ?_ 1 _ rfl; (with_reducible repeat (first | refine blk_drewN ?_ _ | refine blk_drew ?_ | refine blk_alloc ?_ _)); refine blk_put (cs := #[.int .u64 0, .int .u32 0, .slice none 0 0, .int .i64 0]) ?_ 0 _ rfl; (with_reducible repeat (first | refine blk_drewN ?_ _ | refine blk_drew ?_ | refine blk_alloc ?_ _)); refine blk_far ?_ NB263_262.out _; (with_reducible repeat (first | refine blk_drewN ?_ _ | refine blk_drew ?_ | refine blk_alloc ?_ _)); exact BK263.out) Try.underlying60 rfl (by kernel_rfl)) rfl ?_
     exact ⟨_, by first | rfl | (simp [errW_none, errW_some] <;> rfl) | (simp only [← hji9]; first | rfl | (simp [errW_none, errW_some] <;> rfl)) | (simp [*, errW_none, errW_some] <;> rfl), by (with_reducible repeat (first | apply Kd.V_alloc | apply Kd.V_drewN | apply Kd.V_drew)); exact Kd.V_mono (Kd.V_far (p := ⟨gb263, 3, none⟩) (Kd.V_far (p := ⟨gb263, 2, none⟩) (Kd.V_far (p := ⟨gb263, 1, none⟩) (Kd.V_far (p := ⟨gb263, 0, none⟩) (Kd.V_far (p := ⟨gb262, 1, none⟩) (Kd.V_mono (Kd.V_mono HO_263002.out (fun k_ hk => (⟨hk, hk.2.1⟩ : _ ∧ k_ ≠ gb262))) (fun k_ hk => (⟨hk, hk.1.2.2⟩ : _ ∧ k_ ≠ gb263))) (fun _ hk => hk.1.2) (.int .u32 x10_1)) (fun _ hk => hk.2) (.int .u64 x263000_1)) (fun _ hk => hk.2) (.int .u32 x10_1)) (fun _ hk => hk.2) (.slice Ao16 t266.length co16)) (fun _ hk => hk.2) (.int .i64 x263003_1)) (fun _ hk => hk.1.1.1), bB HB.out⟩
 ·replace c7 := Bool.eq_false_iff.mpr c7
  subst c7
  have H1 : (some (t264, t265, t266, t269, 1)) = some (r1, r2, r3, r4, r5) := by rw [if_neg (show ¬ (false = true) by decide)] at H; exact H
  clear H
  have H := H1
  clear H1
  simp only [Option.some.injEq, Prod.mk.injEq] at H
  obtain ⟨rfl, rfl, rfl, rfl, rfl⟩ := H
  go_enter Try.func81, Try.ntmps81
  go_wp2_with (first | ((with_reducible refine gate_dst (N := 4) rfl ?_); refine box_event ?hg (N := 4) ?hd (cs := #[.int .u64 a0_0, .int .u32 a0_1, .slice A0_2 l0_2.length c0_2, .int .i64 a0_3]) (t := 60) ?hr ?_; (case hd => rfl); (case hg => rfl); (case hr => first | (go_simp; done) | (go_simp; rfl)); intro gb262 hg w35 hbox hb; have n0_ := Am (Kd.V_below (Kd.V_elderB (kV HO0_2.out) gb262 (Nat.le_of_eq hg.symm)) hb); have n1_ := Am (below_step (bB HB.out) hb); have n2_ := Am (hbox); have n3_ := Am ((by rw [hg]; exact (below_size (bB HB.out)) : w.heap.size ≤ gb262)); have n4_ := Am ((by rw [hg]; exact (below_size (bB HB.out)) : w.heap.size ≤ gb262)); clear HO0_2; clear HB; have HO0_2 := n0_; have HB := n1_; have BK262 := n2_; have GW262 := n3_; have GE262 := n4_; clear n0_ n1_ n2_ n3_ n4_; clear hb hbox hg) | ((with_reducible refine gate_dst (N := 8) rfl ?_); refine box_event ?hg (N := 8) ?hd (cs := #[.int .u64 0, .int .u32 0, .slice none 0 0, .int .i64 0]) (t := 60) ?hr ?_; (case hd => rfl); (case hg => rfl); (case hr => first | (go_simp; done) | (go_simp; rfl)); intro gb263 hg w36 hbox hb; have n0_ := Am (Kd.V_below (Kd.V_elderB (kV HO0_2.out) gb263 (Nat.le_of_eq hg.symm)) hb); have n1_ := Am (blk_below (g := gb262) (o := .cells #[.int .u64 a0_0, .int .u32 a0_1, .slice A0_2 l0_2.length c0_2, .int .i64 a0_3] 60 (0, 0)) (bK BK262.out) hb); have n2_ := Am (below_step (bB HB.out) hb); have n3_ := Am (hbox); have n4_ := Am ((by rw [hg]; exact (below_size (bB HB.out)) : w.heap.size ≤ gb263)); have n5_ := Am ((by rw [hg]; exact (below_size (bB HB.out)) : w.heap.size ≤ gb263)); have n6_ := Am ((by rw [hg]; exact Nat.ne_of_lt (blk_lt (g := gb262) (o := .cells #[.int .u64 a0_0, .int .u32 a0_1, .slice A0_2 l0_2.length c0_2, .int .i64 a0_3] 60 (0, 0)) (bK BK262.out)) : gb262 ≠ gb263)); have n7_ := Am ((by rw [hg]; exact Nat.ne_of_gt (blk_lt (g := gb262) (o := .cells #[.int .u64 a0_0, .int .u32 a0_1, .slice A0_2 l0_2.length c0_2, .int .i64 a0_3] 60 (0, 0)) (bK BK262.out)) : gb263 ≠ gb262)); clear HO0_2; clear BK262; clear HB; have HO0_2 := n0_; have BK262 := n1_; have HB := n2_; have BK263 := n3_; have GW263 := n4_; have GE263 := n5_; have NB262_263 := n6_; have NB263_262 := n7_; clear n0_ n1_ n2_ n3_ n4_ n5_ n6_ n7_; clear hb hbox hg; have hnb37 := NB262_263.out; have hnc37 := NB263_262.out; have hcz38_0 : w36.cell? ⟨gb262, 0, none⟩ = some (.int .u64 a0_0) := (blk_cell BK262.out 0).trans rfl; have hcz38_1 : w36.cell? ⟨gb262, 1, none⟩ = some (.int .u32 a0_1) := (blk_cell BK262.out 1).trans rfl; have hcz38_2 : w36.cell? ⟨gb262, 2, none⟩ = some (.slice A0_2 l0_2.length c0_2) := (blk_cell BK262.out 2).trans rfl; have hcz38_3 : w36.cell? ⟨gb262, 3, none⟩ = some (.int .i64 a0_3) := (blk_cell BK262.out 3).trans rfl; have hfz38_0 := blk_frozen BK262.out 0; have hfz38_1 := blk_frozen BK262.out 1; have hfz38_2 := blk_frozen BK262.out 2; have hfz38_3 := blk_frozen BK262.out 3) | ((with_reducible refine gate_callee (f := 131) rfl ?_); refine goesL_ (some 13) rfl rfl Try.func131 (by kernel_rfl) rfl #[.agg #[.int .u64 a0_0, .int .u32 a0_1, .slice A0_2 l0_2.length c0_2, .int .i64 a0_3]] rfl ls_ ?_; (with_reducible refine (coder_good.calls a0_0 a0_1 (fun k_ => (((P0_2_ k_ ∨ w.heap.size ≤ k_) ∧ k_ ≠ gb262) ∧ k_ ≠ gb263)) _ _ l0_2 a0_3 t264 t265 t266 t269 _ ?side1 A5.out).mono ?_); (case side1 => exact HO0_2.out); rintro e w39 ⟨v267, rfl, ho0, hb⟩; refine ⟨_, rfl, ?_⟩; have n0_ := Am (Kd.V_below (kV HO0_2.out) hb); have n1_ := Am (Kd.V_lower (Kd.V_mono (ok' := fun k_ => (P0_2_ k_ ∨ w.heap.size ≤ k_) ∧ k_ ≠ gb262 ∧ k_ ≠ gb263) ho0 (fun k_ hk_ => ⟨Or.elim hk_ (fun hs_ => hs_.1.1) (fun hn_ => (.inr (Nat.le_trans (below_size (bB HB.out)) hn_))), Or.elim hk_ (fun hs_ => hs_.1.2) (fun hn_ => (Kd.freshB (g := gb262) (o := .cells #[.int .u64 a0_0, .int .u32 a0_1, .slice A0_2 l0_2.length c0_2, .int .i64 a0_3] 60 (0, 0)) (bK BK262.out) k_ hn_)), Or.elim hk_ (fun hs_ => hs_.2) (fun hn_ => (Kd.freshB (g := gb263) (o := .cells #[.int .u64 0, .int .u32 0, .slice none 0 0, .int .i64 0] 60 (0, 0)) (bK BK263.out) k_ hn_))⟩)) (below_size (bB HB.out))); have n2_ := Am (blk_below (g := gb262) (o := .cells #[.int .u64 a0_0, .int .u32 a0_1, .slice A0_2 l0_2.length c0_2, .int .i64 a0_3] 60 (0, 0)) (bK BK262.out) hb); have n3_ := Am (blk_below (g := gb263) (o := .cells #[.int .u64 0, .int .u32 0, .slice none 0 0, .int .i64 0] 60 (0, 0)) (bK BK263.out) hb); have n4_ := Am (below_step (bB HB.out) hb); clear HO0_2; clear BK262; clear BK263; clear HB; have HO0_2 := n0_; have HO268 := n1_; have BK262 := n2_; have BK263 := n3_; have HB := n4_; clear n0_ n1_ n2_ n3_ n4_; (try clear hb); (try clear hb2); (try clear hk); (try clear hi); (try clear ho0); have hcz40_0 : w39.cell? ⟨gb262, 0, none⟩ = some (.int .u64 a0_0) := (blk_cell BK262.out 0).trans rfl; have hcz40_1 : w39.cell? ⟨gb262, 1, none⟩ = some (.int .u32 a0_1) := (blk_cell BK262.out 1).trans rfl; have hcz40_2 : w39.cell? ⟨gb262, 2, none⟩ = some (.slice A0_2 l0_2.length c0_2) := (blk_cell BK262.out 2).trans rfl; have hcz40_3 : w39.cell? ⟨gb262, 3, none⟩ = some (.int .i64 a0_3) := (blk_cell BK262.out 3).trans rfl; have hfz40_0 := blk_frozen BK262.out 0; have hfz40_1 := blk_frozen BK262.out 1; have hfz40_2 := blk_frozen BK262.out 2; have hfz40_3 := blk_frozen BK262.out 3; obtain ⟨Ao41, co41, eo41⟩ := Kd.V_slice HO268.out; subst eo41) | ((with_reducible refine gate_callee (f := 107) rfl ?_); refine goesL_ (some 17) rfl rfl Try.func107 (by kernel_rfl) rfl #[.int .i64 a1, .int .i64 a2, .int .i64 a3] rfl ls_ ?_; (with_reducible refine (coder_fair.calls a1 a2 a3 false _ A6.out).mono ?_); rintro e w42 ⟨rfl, hb⟩; refine ⟨_, rfl, ?_⟩; have n0_ := Am (Kd.V_below (by (with_reducible repeat (first | apply Kd.V_alloc | apply Kd.V_drewN | apply Kd.V_drew)); exact (Kd.V_mono (Kd.V_far (p := ⟨gb262, 3, none⟩) (Kd.V_far (p := ⟨gb262, 2, none⟩) (Kd.V_far (p := ⟨gb262, 1, none⟩) (Kd.V_far (p := ⟨gb262, 0, none⟩) (Kd.V_mono HO0_2.out (fun k_ hk => (⟨hk, hk.1.2⟩ : _ ∧ k_ ≠ gb262))) (fun _ hk => hk.2) (.int .u64 t264)) (fun _ hk => hk.2) (.int .u32 t265)) (fun _ hk => hk.2) (.slice Ao41 t266.length co41)) (fun _ hk => hk.2) (.int .i64 t269)) (fun _ h_ => h_.1))) hb); have n1_ := Am (Kd.V_below (by (with_reducible repeat (first | apply Kd.V_alloc | apply Kd.V_drewN | apply Kd.V_drew)); exact (Kd.V_mono (Kd.V_far (p := ⟨gb262, 3, none⟩) (Kd.V_far (p := ⟨gb262, 2, none⟩) (Kd.V_far (p := ⟨gb262, 1, none⟩) (Kd.V_far (p := ⟨gb262, 0, none⟩) (Kd.V_mono HO268.out (fun k_ hk => (⟨hk, hk.2.1⟩ : _ ∧ k_ ≠ gb262))) (fun _ hk => hk.2) (.int .u64 t264)) (fun _ hk => hk.2) (.int .u32 t265)) (fun _ hk => hk.2) (.slice Ao41 t266.length co41)) (fun _ hk => hk.2) (.int .i64 t269)) (fun _ h_ => h_.1))) hb); have n2_ := Am (blk_below (g := gb262) (o := .cells #[.int .u64 t264, .int .u32 t265, .slice Ao41 t266.length co41, .int .i64 t269] 60 (0, 0)) (by (with_reducible repeat (first | refine blk_drewN ?_ _ | refine blk_drew ?_ | refine blk_alloc ?_ _)); refine blk_put (cs := #[.int .u64 t264, .int .u32 t265, .slice Ao41 t266.length co41, .int .i64 a0_3]) ?_ 3 _ rfl; (with_reducible repeat (first | refine blk_drewN ?_ _ | refine blk_drew ?_ | refine blk_alloc ?_ _)); refine blk_put (cs := #[.int .u64 t264, .int .u32 t265, .slice A0_2 l0_2.length c0_2, .int .i64 a0_3]) ?_ 2 _ rfl; (with_reducible repeat (first | refine blk_drewN ?_ _ | refine blk_drew ?_ | refine blk_alloc ?_ _)); refine blk_put (cs := #[.int .u64 t264, .int .u32 a0_1, .slice A0_2 l0_2.length c0_2, .int .i64 a0_3]) ?_ 1 _ rfl; (with_reducible repeat (first | refine blk_drewN ?_ _ | refine blk_drew ?_ | refine blk_alloc ?_ _)); refine blk_put (cs := #[.int .u64 a0_0, .int .u32 a0_1, .slice A0_2 l0_2.length c0_2, .int .i64 a0_3]) ?_ 0 _ rfl; (with_reducible repeat (first | refine blk_drewN ?_ _ | refine blk_drew ?_ | refine blk_alloc ?_ _)); exact BK262.out) hb); have n3_ := Am (blk_below (g := gb263) (o := .cells #[.int .u64 0, .int .u32 0, .slice none 0 0, .int .i64 0] 60 (0, 0)) (by (with_reducible repeat (first | refine blk_drewN ?_ _ | refine blk_drew ?_ | refine blk_alloc ?_ _)); refine blk_far ?_ NB263_262.out _; (with_reducible repeat (first | refine blk_drewN ?_ _ | refine blk_drew ?_ | refine blk_alloc ?_ _)); refine blk_far ?_ NB263_262.out _; (with_reducible repeat (first | refine blk_drewN ?_ _ | refine blk_drew ?_ | refine blk_alloc ?_ _)); refine blk_far ?_ NB263_262.out _; (with_reducible repeat (first | refine blk_drewN ?_ _ | refine blk_drew ?_ | refine blk_alloc ?_ _)); refine blk_far ?_ NB263_262.out _; (with_reducible repeat (first | refine blk_drewN ?_ _ | refine blk_drew ?_ | refine blk_alloc ?_ _)); exact BK263.out) hb); have n4_ := Am (below_step (bB HB.out) hb); clear HO0_2; clear HO268; clear BK262; clear BK263; clear HB; have HO0_2 := n0_; have HO268 := n1_; have BK262 := n2_; have BK263 := n3_; have HB := n4_; clear n0_ n1_ n2_ n3_ n4_; (try clear hb); (try clear hb2); (try clear hk); (try clear hi); have hcz43_0 : w42.cell? ⟨gb262, 0, none⟩ = some (.int .u64 t264) := (blk_cell BK262.out 0).trans rfl; have hcz43_1 : w42.cell? ⟨gb262, 1, none⟩ = some (.int .u32 t265) := (blk_cell BK262.out 1).trans rfl; have hcz43_2 : w42.cell? ⟨gb262, 2, none⟩ = some (.slice Ao41 t266.length co41) := (blk_cell BK262.out 2).trans rfl; have hcz43_3 : w42.cell? ⟨gb262, 3, none⟩ = some (.int .i64 t269) := (blk_cell BK262.out 3).trans rfl; have hfz43_0 := blk_frozen BK262.out 0; have hfz43_1 := blk_frozen BK262.out 1; have hfz43_2 := blk_frozen BK262.out 2; have hfz43_3 := blk_frozen BK262.out 3; have hcz44_0 : w42.cell? ⟨gb263, 0, none⟩ = some (.int .u64 0) := (blk_cell BK263.out 0).trans rfl; have hcz44_1 : w42.cell? ⟨gb263, 1, none⟩ = some (.int .u32 0) := (blk_cell BK263.out 1).trans rfl; have hcz44_2 : w42.cell? ⟨gb263, 2, none⟩ = some (.slice none 0 0) := (blk_cell BK263.out 2).trans rfl; have hcz44_3 : w42.cell? ⟨gb263, 3, none⟩ = some (.int .i64 0) := (blk_cell BK263.out 3).trans rfl; have hfz44_0 := blk_frozen BK263.out 0; have hfz44_1 := blk_frozen BK263.out 1; have hfz44_2 := blk_frozen BK263.out 2; have hfz44_3 := blk_frozen BK263.out 3))
  refine bodyPost_ret (results_ct rfl _ _ gb263 60 #[.int .u64 t264, .int .u32 t265, .slice Ao41 t266.length co41, .int .i64 t269] (0, 0) _ rfl (by (with_reducible repeat (first | refine blk_drewN ?_ _ | refine blk_drew ?_ | refine blk_alloc ?_ _)); refine blk_put (cs := #[.int .u64 t264, .int .u32 t265, .slice Ao41 t266.length co41, .int .i64 0]) ?_ 3 _ rfl; (with_reducible repeat (first | refine blk_drewN ?_ _ | refine blk_drew ?_ | refine blk_alloc ?_ _)); refine blk_put (cs := #[.int .u64 t264, .int .u32 t265, .slice none 0 0, .int .i64 0]) ?_ 2 _ rfl; (with_reducible repeat (first | refine blk_drewN ?_ _ | refine blk_drew ?_ | refine blk_alloc ?_ _)); refine blk_put (cs := #[.int .u64 t264, .int .u32 0, .slice none 0 0, .int .i64 0]) ?_ 1 _ rfl; (with_reducible repeat (first | refine blk_drewN ?_ _ | refine blk_drew ?_ | refine blk_alloc ?_ _)); refine blk_put (cs := #[.int .u64 0, .int .u32 0, .slice none 0 0, .int .i64 0]) ?_ 0 _ rfl; (with_reducible repeat (first | refine blk_drewN ?_ _ | refine blk_drew ?_ | refine blk_alloc ?_ _)); exact BK263.out) Try.underlying60 rfl (by kernel_rfl)) rfl ?_
  exact ⟨_, by first | rfl | (simp [errW_none, errW_some] <;> rfl) | (simp [*, errW_none, errW_some] <;> rfl), by (with_reducible repeat (first | apply Kd.V_alloc | apply Kd.V_drewN | apply Kd.V_drew)); exact Kd.V_mono (Kd.V_far (p := ⟨gb263, 3, none⟩) (Kd.V_far (p := ⟨gb263, 2, none⟩) (Kd.V_far (p := ⟨gb263, 1, none⟩) (Kd.V_far (p := ⟨gb263, 0, none⟩) (Kd.V_mono HO268.out (fun k_ hk => (⟨hk, hk.2.2⟩ : _ ∧ k_ ≠ gb263))) (fun _ hk => hk.2) (.int .u64 t264)) (fun _ hk => hk.2) (.int .u32 t265)) (fun _ hk => hk.2) (.slice Ao41 t266.length co41)) (fun _ hk => hk.2) (.int .i64 t269)) (fun _ hk => hk.1.1), bB HB.out⟩

end Go.Proofs.Ytgknajladloffaa.Q
