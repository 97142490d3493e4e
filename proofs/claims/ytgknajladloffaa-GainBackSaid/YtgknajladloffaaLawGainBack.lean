/- GainBack: for every list of rows the law returns true: up to 20 frames' gains, put one behind the other, take no more bits than gain.Most tells. No conditions. -/
import Derived.Test.YtgknajladloffaaRows
import Derived.Test.YtgknajladloffaaQx41
import Derived.Test.YtgknajladloffaaM5
import Derived.Test.YtgknajladloffaaO
import Derived.WalkKit
import Derived.ProofKit
import Derived.OpenShut
import Derived.ShutString
import Derived.ChangeOld
import Derived.Below
import Derived.SizedLaws
namespace Go.Proofs.Ytgknajladloffaa.gainBack
open Go.ChangeShapes Go.WideShapes Go.ChangeAt Go.RowKit Go.Proofs.YtgknajladloffaaW.PrintWords Go.Proofs.Ytgknajladloffaa.Q
open Go.ChangeMaps (open_string shut_string)
set_option linter.unusedVariables false
theorem own : ownKnob Try.prog.godebug = none := by kernel_rfl
theorem laidOut : laidOutB Try.prog = true := by kernel_rfl
theorem opn_ints : M.Opn Try.prog 54 (Kd.slice 3 (Kd.int .i64)) (M.lenOk (fun n => (Lit.int .i64 n).wf = true)) := M.Opn.slice Try.underlying54 (by kernel_rfl) (M.Opn.int Try.underlying3 (by kernel_rfl))
theorem opn_row : M.Opn Try.prog 58 k58 (fun x => M.lenOk (fun n => (Lit.int .i64 n).wf = true) x.f0) := by
  have h := M.Opn.iso (fun x : S58 => (x.f0, x.f1)) (fun y => ⟨y.1, y.2⟩) (fun _ => rfl) (M.Opn.pair (t := 58) (b := Kd.bool) (okb := fun _ => True) Try.underlying58 (by kernel_rfl) (by kernel_rfl) opn_ints (M.Opn.bool Try.underlying4 (by kernel_rfl)))
  exact ⟨h.sz, fun hx => by obtain ⟨y, hK, ho, _⟩ := h.op hx; exact ⟨y, hK, ho⟩⟩
instance : Inhabited S58 := ⟨z58⟩
theorem opn_arg : M.Opn Try.prog 48 (Kd.slice 58 k58) (M.lenOk (fun x => M.lenOk (fun n => (Lit.int .i64 n).wf = true) x.f0)) := M.Opn.slice Try.underlying48 (by kernel_rfl) opn_row
theorem walk (a : Option Addr) (cap : Nat) (l : List S58) (w : World) (hc : l.length ≤ cap) (hr : Kd.C k58 w a l.length l) (hl : M.lenOk (fun x : S58 => M.lenOk (fun n => (Lit.int .i64 n).wf = true) x.f0) l) :
    Calls Try.prog 5 #[.slice a l.length cap] w fun e w' => e = .returned (.bool true) ∧ Below w.heap.size w w' := by
  obtain ⟨k, hk⟩ := M.gainBack l (fun x hx => (hl.2 x hx).1)
  exact psalterylaw11_GainBack.calls k (fun k_ => k_ < w.heap.size) a cap l true w (Kd.V_mk hc (Kd.C_F k58_heap hr)) hk
set_option maxRecDepth 100000 in
theorem lifted (os : Os) (started : os.Started) (H : Type) (enc : TypeId × Value → H) :
    ReturnsInHanded {} Try.checked os 5 .any (Rows.gainBackSpec.pre6 enc Try.prog Try.f5 Rows.gainBackRow.domain false) (Rows.gainBackSpec.post enc Try.prog Try.f5 false true false false) := by
  refine returnsInHanded_of_change_sized (C := Try.checked) own started (by kernel_rfl) Try.func5
    (ChangeSpec.witness6 (enc := enc) (C := Try.checked) false ⟨#[], #[.slice none 0 0], []⟩ 8 (by kernel_rfl) (by kernel_rfl) (by kernel_rfl) (by kernel_rfl)) ?_
  intro W base args ds gs before hval0 hW hcnd hsz0 _
  have hval : ∀ (j : Nat) t v, Try.f5.params[j]? = some t → args[j]? = some v → Value.okWide Try.prog W .any base t v := hval0
  have hW' := hW
  obtain ⟨p, q, hA0, hV, rfl, hfz, hnd⟩ := hW
  have hA : DataW.TrodAll enc Try.prog W 0 (fun _ => true) true Try.f5.params.toList args.toList ds p := hA0
  rw [Try.params5] at hA hval
  obtain ⟨v0, vs0, d0, ds0, p0, q0, hargs, rfl, rfl, h0, r0⟩ := trodAll_cons hA
  obtain ⟨rfl, rfl, rfl⟩ := trodAll_nil r0
  obtain rfl : args = #[v0] := by cases args; simp_all
  obtain ⟨rfl, rfl⟩ := trodVars_none hV
  obtain ⟨a0, len0, cap0, rfl⟩ := okWide_slice Try.underlying48 (hval 0 48 v0 rfl rfl)
  have k0 := h0
  have lt0 : ∀ x ∈ p0, x.block < W.heap.size := by obtain ⟨m, hm⟩ := k0; exact DataW.trod_lt m _ _ _ hm
  obtain ⟨l, rfl, hc, hr, hl⟩ := opn_arg.arg h0
  clear hA0 hval0 hsz0
  refine (walk a0 cap0 l W hc hr hl).mono fun e W' ⟨he, bel⟩ => ?_
  subst he
  exact ⟨_, rfl, _, _, _, [], _, [], hW', trodAll_mk1 (shut_bool Try.underlying4 _), trodAll_cons_mk (Below.trod laidOut (by kernel_rfl) (of_decide_eq_true (by kernel_rfl)) k0 bel lt0) trodAll_mk0, rfl, bel.frame _, fun h => by cases h⟩
theorem over : Rows.gainBackRow.holds Try.pinned (OpenSpec.ofChange Rows.gainBackSpec) :=
  OpenClaim.holds_of_wide 5 Try.f5 rfl rfl rfl rfl rfl rfl rfl ⟨rfl, rfl, rfl, rfl, rfl⟩ rfl rfl rfl rfl rfl (by kernel_rfl) Try.func5 (by kernel_rfl)
    (of_decide_eq_true (by kernel_rfl)) (by unfold Func.isWrapper; first | (rw [if_pos (by decide +kernel)]; kernel_rfl) | (rw [if_neg (by decide +kernel)]; exact ⟨rfl, rfl⟩))
    (fun os started H enc _ => lifted os started H enc)
end Go.Proofs.Ytgknajladloffaa.gainBack
namespace Go.Proofs.Ytgknajladloffaa
/-- The row. -/
theorem gainBack_holds : Rows.GainBackSaid := gainBack.over
#print axioms gainBack_holds
end Go.Proofs.Ytgknajladloffaa
