/- Chains of choices; what coder.PutNum and gain.Put answer. -/
import Derived.Test.YtgknajladloffaaM1
import Derived.Test.YtgknajladloffaaDx1
import Derived.Test.YtgknajladloffaaDx6
import Derived.Test.YtgknajladloffaaDx7
import Derived.Test.YtgknajladloffaaDx8
namespace Go.Proofs.Ytgknajladloffaa.M
open Go.RowKit Go.Proofs.YtgknajladloffaaW.PrintWords Go.Proofs.Ytgknajladloffaa.Q
set_option linter.unusedVariables false
set_option linter.unusedSimpArgs false

/-- Choices that are put one behind the other. -/
inductive Chain : List (Int × Int × Int) → Int → Int → List Int → Int → Int → List Int → Prop
  | nil {L R : Int} {out : List Int} : Chain [] L R out L R out
  | cons {lo hi tot : Int} {cs : List (Int × Int × Int)} {L R : Int} {out : List Int} {L1 R1 : Int} {out1 : List Int} {L2 R2 : Int} {out2 : List Int} :
      Good L R out → Fair lo hi tot → Puts L R out lo hi tot L1 R1 out1 → Chain cs L1 R1 out1 L2 R2 out2 → Chain ((lo, hi, tot) :: cs) L R out L2 R2 out2
theorem Chain.append {cs ds : List (Int × Int × Int)} {L R : Int} {out : List Int} {L1 R1 : Int} {out1 : List Int} {L2 R2 : Int} {out2 : List Int}
    (h : Chain cs L R out L1 R1 out1) (k : Chain ds L1 R1 out1 L2 R2 out2) : Chain (cs ++ ds) L R out L2 R2 out2 := by
  induction h with
  | nil => exact k
  | cons g f p _ ih => exact .cons g f p (ih k)
theorem Chain.one {lo hi tot : Int} {L R : Int} {out : List Int} {L1 R1 : Int} {out1 : List Int} (g : Good L R out) (f : Fair lo hi tot) (p : Puts L R out lo hi tot L1 R1 out1) : Chain [(lo, hi, tot)] L R out L1 R1 out1 := .cons g f p .nil
theorem Chain.good {cs : List (Int × Int × Int)} {L R : Int} {out : List Int} {L1 R1 : Int} {out1 : List Int} (g : Good L R out) (h : Chain cs L R out L1 R1 out1) : Good L1 R1 out1 := by
  induction h with
  | nil => exact g
  | cons _ _ p _ ih => exact ih p.good
theorem Chain.len {cs : List (Int × Int × Int)} {L R : Int} {out : List Int} {L1 R1 : Int} {out1 : List Int} (h : Chain cs L R out L1 R1 out1) : out1.length ≤ out.length + 2 * cs.length := by
  induction h with
  | nil => simp
  | cons _ _ p _ ih =>
    obtain ⟨s, hs, _, hl, _⟩ := p.step
    simp only [List.length_cons]
    omega
/-- The choices of a number. -/
def numC (v n : Int) : List (Int × Int × Int) := if n ≤ 65536 then [(v, v + 1, n)] else [(v / 65536, v / 65536 + 1, (n - 1) / 65536 + 1), (v % 65536, v % 65536 + 1, 65536)]
theorem numC_len (v n : Int) : (numC v n).length ≤ 2 := by unfold numC; split <;> simp
theorem numC_fair {v n : Int} (h0 : 0 ≤ v) (h1 : v < n) (h2 : n ≤ 4294967296) : ∀ c ∈ numC v n, Fair c.1 c.2.1 c.2.2 := by
  intro c hc
  unfold numC at hc
  split at hc
  · simp at hc; subst hc; exact ⟨by simp; omega, by simp; omega, by simp; omega, by simp; omega⟩
  · simp at hc
    rcases hc with rfl | rfl
    · exact ⟨by simp; omega, by simp; omega, by simp; omega, by simp; omega⟩
    · exact ⟨by simp; omega, by simp; omega, by simp; omega, by simp⟩
theorem putNum_is {L R : Int} {out : List Int} {v n : Int} (h : Good L R out) (h0 : 0 ≤ v) (h1 : v < n) (h2 : n ≤ 4294967296) (hn : out.length + 4 ≤ 3996) :
    ∃ L' R' out', Ev (fun k => coder_PutNum.f k L R out v n) (L', R', out', 0) ∧ Chain (numC v n) L R out L' R' out' := by
  have hF := numC_fair h0 h1 h2
  have e1 : wrap64 v = v := by unfold wrap64; omega
  have hd : decide (v ≥ n) = false := by simp; omega
  have head : ∀ k, coder_PutNum.f k L R out v n = coder_PutNum.j0 k v n false L R out := by
    intro k
    unfold coder_PutNum.f
    rw [own_is h (by omega)]
    simp only [Option.bind_some]
    rw [if_neg (by omega), if_neg (by omega), hd]
  by_cases hs : n ≤ 65536
  · have eh : coder_halves.f n = some (n, 1) := by
      unfold coder_halves.f; rw [if_pos hs, show wrap64 n = n by unfold wrap64; omega]
    have hf : Fair v (v + 1) n := by have := hF (v, v + 1, n) (by unfold numC; rw [if_pos hs]; simp); exact this
    obtain ⟨L1, R1, o1, hp, hP⟩ := put_is h hf (by omega)
    refine ⟨L1, R1, o1, ?_, by unfold numC; rw [if_pos hs]; exact .one h hf hP⟩
    refine Ev.congr head (Ev.step (f := fun k => (coder_Put.f k L R out v (v + 1) n).bind fun bt => (if bt.2.2.2 = 0 then (coder_PutNum.j1 k 1 0 bt.2.2.2 false L R out bt.1 bt.2.1 bt.2.2.1) else (coder_PutNum.j1 k 1 0 bt.2.2.2 false L R out bt.1 bt.2.1 bt.2.2.1))) (fun k => ?_) (Ev.bind hp ?_))
    · simp only [coder_PutNum.j0]
      rw [if_neg (by simp), eh]
      simp only [Option.bind_some]
      rw [if_neg (by omega), e1, show Int.tdiv v 1 = v from Int.tdiv_one v, e1, show wrap64 (v + 1) = v + 1 by unfold wrap64; omega, show Int.tmod v 1 = 0 by simp]
      simp
    · simp only [if_true]
      refine Ev.step (f := fun k => coder_PutNum.j2 k 0 L R out L1 R1 o1) (fun k => by simp only [coder_PutNum.j1]; rw [if_neg (by simp)]) (Ev.step (f := fun _ => some (L1, R1, o1, 0)) (fun k => by simp [coder_PutNum.j2]) (Ev.now _))
  · have hs' : 65536 < n := by omega
    have ea : wrap64 (wrap64 (IntKind.u64.wrap (Int.tdiv (IntKind.u64.wrap (n - 1)) 65536)) + 1) = (n - 1) / 65536 + 1 := by
      rw [show IntKind.u64.wrap (n - 1) = n - 1 by rw [IntKind.wrap_u64]; omega, Int.tdiv_eq_ediv_of_nonneg (by omega), show IntKind.u64.wrap ((n - 1) / 65536) = (n - 1) / 65536 by rw [IntKind.wrap_u64]; omega, show wrap64 ((n - 1) / 65536) = (n - 1) / 65536 by unfold wrap64; omega]
      unfold wrap64; omega
    have eh : coder_halves.f n = some ((n - 1) / 65536 + 1, 65536) := by unfold coder_halves.f; rw [if_neg hs, ea]
    have ed : wrap64 (Int.tdiv v 65536) = v / 65536 := by rw [Int.tdiv_eq_ediv_of_nonneg h0]; unfold wrap64; omega
    have em : Int.tmod v 65536 = v % 65536 := Int.tmod_eq_emod_of_nonneg h0
    have en : numC v n = [(v / 65536, v / 65536 + 1, (n - 1) / 65536 + 1), (v % 65536, v % 65536 + 1, 65536)] := by unfold numC; rw [if_neg hs]
    have hf1 := hF (v / 65536, v / 65536 + 1, (n - 1) / 65536 + 1) (by rw [en]; simp)
    have hf2 := hF (v % 65536, v % 65536 + 1, 65536) (by rw [en]; simp)
    obtain ⟨L1, R1, o1, hp1, hP1⟩ := put_is h hf1 (by omega)
    obtain ⟨s1, hs1, _, hl1, _⟩ := hP1.step
    obtain ⟨L2, R2, o2, hp2, hP2⟩ := put_is hP1.good hf2 (by omega)
    refine ⟨L2, R2, o2, ?_, by rw [en]; exact .cons h hf1 hP1 (.one hP1.good hf2 hP2)⟩
    refine Ev.congr head (Ev.step (f := fun k => (coder_Put.f k L R out (v / 65536) (v / 65536 + 1) ((n - 1) / 65536 + 1)).bind fun bt => (if bt.2.2.2 = 0 then (coder_PutNum.j1 k 65536 (v % 65536) bt.2.2.2 true L R out bt.1 bt.2.1 bt.2.2.1) else (coder_PutNum.j1 k 65536 (v % 65536) bt.2.2.2 false L R out bt.1 bt.2.1 bt.2.2.1))) (fun k => ?_) (Ev.bind hp1 ?_))
    · simp only [coder_PutNum.j0]
      rw [if_neg (by simp), eh]
      simp only [Option.bind_some]
      rw [if_neg (by omega), e1, ed, show wrap64 (v / 65536 + 1) = v / 65536 + 1 by unfold wrap64; omega, em]
      simp
    · simp only [if_true]
      refine Ev.step (f := fun k => (coder_Put.f k L1 R1 o1 (v % 65536) (v % 65536 + 1) 65536).bind fun bt => (coder_PutNum.j2 k bt.2.2.2 L R out bt.1 bt.2.1 bt.2.2.1)) (fun k => ?_) (Ev.bind hp2 ?_)
      · simp only [coder_PutNum.j1]; rw [if_pos trivial, show wrap64 (v % 65536 + 1) = v % 65536 + 1 by unfold wrap64; omega]
      · exact Ev.step (f := fun _ => some (L2, R2, o2, 0)) (fun k => by simp [coder_PutNum.j2]) (Ev.now _)

/-- Gains. -/
def RightG (g : List Int) : Prop := g.length = 5 ∧ ∀ x ∈ g, 0 ≤ x ∧ x ≤ 44
def inG (x : Int) : Bool := decide (0 ≤ x ∧ x ≤ 44)
def rightB (g : List Int) : Bool := g.all inG && decide (g.length = 5)
theorem rightB_yes {g : List Int} (h : RightG g) : rightB g = true := by
  unfold rightB; rw [Bool.and_eq_true]
  exact ⟨List.all_eq_true.mpr fun x hx => decide_eq_true (h.2 x hx), decide_eq_true h.1⟩
theorem rightB_is {g : List Int} (h : rightB g = true) : RightG g := by
  unfold rightB at h; rw [Bool.and_eq_true] at h
  exact ⟨of_decide_eq_true h.2, fun x hx => of_decide_eq_true (List.all_eq_true.mp h.1 x hx)⟩
theorem rightB_no {g : List Int} (h : ¬ RightG g) : rightB g = false := by
  cases e : rightB g with
  | false => rfl
  | true => exact absurd (rightB_is e) h
theorem right_loop (g : List Int) (hn : g.length ≤ 9223372036854775807) : ∀ (d i : Nat), i + d = g.length → Ev (fun k => gain_Right.l0 k g g (g.length : Int) (i : Int)) ((g.drop i).all inG && decide (g.length = 5)) := by
  intro d
  induction d with
  | zero =>
    intro i hi
    refine Ev.step (f := fun _ => some ((g.length : Int) == 5)) (fun k => by simp only [gain_Right.l0]; rw [if_neg (by omega)]) ?_
    have : g.drop i = [] := List.drop_eq_nil_iff.mpr (by omega)
    rw [this]
    have e : ((g.length : Int) == 5) = (([] : List Int).all inG && decide (g.length = 5)) := by
      simp; rw [Bool.eq_iff_iff]; simp; omega
    rw [← e]; exact Ev.now _
  | succ d ih =>
    intro i hi
    have hlt : i < g.length := by omega
    have hrd : rd g (i : Int) = g[i] := by unfold rd; rw [List.getD_eq_getElem?_getD, Int.toNat_natCast, List.getElem?_eq_getElem hlt]; rfl
    have hdr : g.drop i = g[i] :: g.drop (i + 1) := List.drop_eq_getElem_cons hlt
    have hst : ∀ k, gain_Right.l0 (k + 1) g g (g.length : Int) (i : Int) = if g[i] < 0 then some false else if g[i] > 44 then some false else gain_Right.l0 k g g (g.length : Int) ((i + 1 : Nat) : Int) := by
      intro k
      simp only [gain_Right.l0]
      rw [if_pos (by omega), if_pos (by omega), if_pos (by omega), hrd, show wrap64 ((i : Int) + 1) = ((i + 1 : Nat) : Int) by unfold wrap64; omega]
    rw [hdr, List.all_cons]
    by_cases h1 : g[i] < 0
    · refine Ev.step (f := fun _ => some false) (fun k => by rw [hst, if_pos h1]) ?_
      rw [show inG g[i] = false from decide_eq_false (by omega)]; exact Ev.now _
    · by_cases h2 : g[i] > 44
      · refine Ev.step (f := fun _ => some false) (fun k => by rw [hst, if_neg h1, if_pos h2]) ?_
        rw [show inG g[i] = false from decide_eq_false (by omega)]; exact Ev.now _
      · refine Ev.step (f := fun k => gain_Right.l0 k g g (g.length : Int) ((i + 1 : Nat) : Int)) (fun k => by rw [hst, if_neg h1, if_neg h2]) ?_
        rw [show inG g[i] = true from decide_eq_true (by omega)]; exact ih (i + 1) (by omega)
theorem right_is (g : List Int) (hn : g.length ≤ 9223372036854775807) : Ev (fun k => gain_Right.f k g) (rightB g) := right_loop g hn g.length 0 (by omega)
theorem RightG.at_ {g : List Int} (h : RightG g) (b : Nat) (hb : b < 5) : 0 ≤ rd g (b : Int) ∧ rd g (b : Int) ≤ 44 := by
  have hlt : b < g.length := by rw [h.1]; exact hb
  have hrd : rd g (b : Int) = g[b] := by unfold rd; rw [List.getD_eq_getElem?_getD, Int.toNat_natCast, List.getElem?_eq_getElem hlt]; rfl
  rw [hrd]; exact h.2 _ (List.getElem_mem hlt)
/-- The choices of one gain. -/
def gainC (g a : Int) (intra : Bool) : List (Int × Int × Int) := if intra = true then numC g 45 else if -3 ≤ g - a ∧ g - a ≤ 3 then [(g - a + 3, g - a + 4, 8)] else (7, 8, 8) :: numC g 45
theorem gainC_len (g a : Int) (i : Bool) : (gainC g a i).length ≤ 3 := by
  unfold gainC; have := numC_len g 45
  split
  · omega
  · split <;> simp <;> omega
theorem put1_is {L R : Int} {out : List Int} {g a : Int} {intra : Bool} (h : Good L R out) (g0 : 0 ≤ g) (g1 : g ≤ 44) (ha : intra = false → 0 ≤ a ∧ a ≤ 44) (hn : out.length + 6 ≤ 3996) :
    ∃ L' R' out', Ev (fun k => gain_put.f k L R out g a intra) (L', R', out', 0) ∧ Chain (gainC g a intra) L R out L' R' out' := by
  have ew : IntKind.u64.wrap g = g := by rw [IntKind.wrap_u64]; omega
  cases intra with
  | true =>
    obtain ⟨L1, R1, o1, hp, hC⟩ := putNum_is (n := 45) h g0 (by omega) (by omega) (by omega)
    refine ⟨L1, R1, o1, ?_, by unfold gainC; rw [if_pos rfl]; exact hC⟩
    refine Ev.congr (f := fun k => (coder_PutNum.f k L R out g 45).bind fun bt => some (bt.1, bt.2.1, bt.2.2.1, bt.2.2.2)) (fun k => ?_) (Ev.bind hp (Ev.now _))
    unfold gain_put.f; rw [if_pos rfl, ew]
  | false =>
    obtain ⟨a0, a1⟩ := ha rfl
    have ed : wrap64 (g - a) = g - a := by unfold wrap64; omega
    by_cases hd : -3 ≤ g - a ∧ g - a ≤ 3
    · have hf : Fair (g - a + 3) (g - a + 4) 8 := ⟨by omega, by omega, by omega, by omega⟩
      obtain ⟨L1, R1, o1, hp, hP⟩ := put_is h hf (by omega)
      refine ⟨L1, R1, o1, ?_, by unfold gainC; rw [if_neg (by simp), if_pos hd]; exact .one h hf hP⟩
      refine Ev.congr (f := fun k => gain_put.j0 k g (g - a) true L R out) (fun k => ?_) (Ev.step (f := fun k => (coder_Put.f k L R out (g - a + 3) (g - a + 4) 8).bind fun bt => some (bt.1, bt.2.1, bt.2.2.1, bt.2.2.2)) (fun k => ?_) (Ev.bind hp (Ev.now _)))
      · unfold gain_put.f; rw [if_neg (by simp), ed, if_pos (by omega), show decide (g - a ≤ 3) = true by simp; omega]
      · simp only [gain_put.j0]; rw [if_pos trivial, show wrap64 (g - a + 3) = g - a + 3 by unfold wrap64; omega, show wrap64 (g - a + 3 + 1) = g - a + 4 by unfold wrap64; omega]
    · have hf : Fair 7 8 8 := ⟨by omega, by omega, by omega, by omega⟩
      obtain ⟨L1, R1, o1, hp, hP⟩ := put_is h hf (by omega)
      obtain ⟨s1, hs1, _, hl1, _⟩ := hP.step
      obtain ⟨L2, R2, o2, hp2, hC⟩ := putNum_is (n := 45) hP.good g0 (by omega) (by omega) (by omega)
      refine ⟨L2, R2, o2, ?_, by unfold gainC; rw [if_neg (by simp), if_neg hd]; exact .cons h hf hP hC⟩
      refine Ev.congr (f := fun k => gain_put.j0 k g (g - a) false L R out) (fun k => ?_) (Ev.step (f := fun k => (coder_Put.f k L R out 7 8 8).bind fun bt => if bt.2.2.2 = 0 then (coder_PutNum.f k bt.1 bt.2.1 bt.2.2.1 g 45).bind fun ct => some (ct.1, ct.2.1, ct.2.2.1, ct.2.2.2) else some (bt.1, bt.2.1, bt.2.2.1, bt.2.2.2)) (fun k => ?_) (Ev.bind hp ?_))
      · unfold gain_put.f; rw [if_neg (by simp), ed]
        by_cases h3 : g - a ≥ -3
        · rw [if_pos h3, show decide (g - a ≤ 3) = false by simp; omega]
        · rw [if_neg h3]
      · simp only [gain_put.j0]; rw [if_neg (by simp), ew]
      · simp only [if_true]
        exact Ev.bind hp2 (Ev.now _)
/-- The choices of gains, from band b on. -/
def gainsC (g a : List Int) (intra : Bool) : Nat → List (Int × Int × Int)
  | 0 => []
  | d + 1 => gainC (rd g ((4 - d : Nat) : Int)) (if intra = true then 0 else rd a ((4 - d : Nat) : Int)) intra ++ gainsC g a intra d
theorem gainsC_len (g a : List Int) (i : Bool) : ∀ d, (gainsC g a i d).length ≤ 3 * d
  | 0 => by simp [gainsC]
  | d + 1 => by
    have := gainsC_len g a i d
    have := gainC_len (rd g ((4 - d : Nat) : Int)) (if i = true then 0 else rd a ((4 - d : Nat) : Int)) i
    simp only [gainsC, List.length_append]; omega
theorem gains_loop {g a : List Int} {intra : Bool} (hg : RightG g) (ha : intra = false → RightG a) (s1 s2 : Int) (s3 : List Int) :
    ∀ (d : Nat), d ≤ 5 → ∀ (L R : Int) (out : List Int), Good L R out → out.length + 6 * d ≤ 3996 →
    ∃ L' R' out', Ev (fun k => gain_Put.l0 k g a intra ((5 - d : Nat) : Int) s1 s2 s3 L R out) (L', R', out', 0) ∧ Chain (gainsC g a intra d) L R out L' R' out' := by
  intro d
  induction d with
  | zero =>
    intro _ L R out h hn
    refine ⟨L, R, out, Ev.step (f := fun _ => some (L, R, out, 0)) (fun k => by simp only [gain_Put.l0]; rw [if_neg (by omega)]) (Ev.now _), .nil⟩
  | succ d ih =>
    intro hd L R out h hn
    have hb : (5 - (d + 1) : Nat) = 4 - d := by omega
    obtain ⟨g0, g1⟩ := hg.at_ (4 - d) (by omega)
    have ha' : intra = false → 0 ≤ (if intra = true then 0 else rd a ((4 - d : Nat) : Int)) ∧ (if intra = true then 0 else rd a ((4 - d : Nat) : Int)) ≤ 44 := by
      intro e; rw [if_neg (by simp [e])]; exact (ha e).at_ (4 - d) (by omega)
    obtain ⟨L1, R1, o1, hp, hC⟩ := put1_is (intra := intra) h g0 g1 ha' (by omega)
    have hl := hC.len
    have hl3 := gainC_len (rd g ((4 - d : Nat) : Int)) (if intra = true then 0 else rd a ((4 - d : Nat) : Int)) intra
    obtain ⟨L2, R2, o2, hq, hD⟩ := ih (by omega) L1 R1 o1 (hC.good h) (by omega)
    refine ⟨L2, R2, o2, ?_, hC.append hD⟩
    rw [hb]
    refine Ev.step (f := fun k => gain_Put.j2 k g a intra ((4 - d : Nat) : Int) (if intra = true then 0 else rd a ((4 - d : Nat) : Int)) ((4 - d : Nat) : Int) s1 s2 s3 L R out) (fun k => ?_) (Ev.step (f := fun k => (gain_put.f k L R out (rd g ((4 - d : Nat) : Int)) (if intra = true then 0 else rd a ((4 - d : Nat) : Int)) intra).bind fun bt => if bt.2.2.2 = 0 then gain_Put.l0 k g a intra ((5 - d : Nat) : Int) s1 s2 s3 bt.1 bt.2.1 bt.2.2.1 else some (s1, s2, s3, bt.2.2.2)) (fun k => ?_) (Ev.bind hp ?_))
    · simp only [gain_Put.l0]
      rw [if_pos (by omega)]
      cases intra with
      | true => rw [if_pos rfl, if_pos rfl]
      | false =>
        rw [if_neg (by simp), if_pos (by omega), if_pos (by have := (ha rfl).1; omega), if_neg (by simp)]
    · simp only [gain_Put.j2]
      rw [if_pos (by omega), if_pos (by have := hg.1; omega), show wrap64 (((4 - d : Nat) : Int) + 1) = ((5 - d : Nat) : Int) by unfold wrap64; omega]
    · simp only [if_true]; exact hq
/-- gain.Put of gains. -/
theorem gains_put {L R : Int} {out g a : List Int} {intra : Bool} (h : Good L R out) (hg : RightG g) (ha : intra = false → RightG a) (hn : out.length + 30 ≤ 3996) :
    ∃ L' R' out', Ev (fun k => gain_Put.f k L R out g a intra) (L', R', out', 0) ∧ Chain (gainsC g a intra 5) L R out L' R' out' := by
  obtain ⟨L1, R1, o1, hq, hC⟩ := gains_loop hg ha L R out 5 (by omega) L R out h (by omega)
  refine ⟨L1, R1, o1, ?_, hC⟩
  have hu := put_unfair (lo := 0) (hi := 1) (tot := 0) h (fun f => by have := f.c; omega) (by omega)
  have hr := right_is g (by rw [hg.1]; omega)
  rw [rightB_yes hg] at hr
  have hj : Ev (fun k => gain_Put.j0 k g a intra false L R out L R out) (L1, R1, o1, 0) := Ev.step (f := fun k => gain_Put.l0 k g a intra ((5 - 5 : Nat) : Int) L R out L R out) (fun k => by simp only [gain_Put.j0]; rw [if_neg (by simp)]; rfl) hq
  unfold gain_Put.f
  refine Ev.congr (f := fun k => (gain_Right.f k g).bind fun t => if t = true then (if intra = true then gain_Put.j0 k g a intra false L R out L R out else (gain_Right.f k a).bind fun u => gain_Put.j0 k g a intra (!u) L R out L R out) else gain_Put.j0 k g a intra true L R out L R out) (fun k => by rw [hu]; rfl) (Ev.bind hr ?_)
  simp only [if_true]
  cases intra with
  | true => simp only [if_true]; exact hj
  | false =>
    have hra := right_is a (by rw [(ha rfl).1]; omega)
    rw [rightB_yes (ha rfl)] at hra
    refine Ev.congr (f := fun k => (gain_Right.f k a).bind fun u => gain_Put.j0 k g a false (!u) L R out L R out) (fun k => by rw [if_neg (by simp)]) (Ev.bind hra ?_)
    exact hj
/-- gain.Put of what are no gains. -/
theorem gains_bad {L R : Int} {out g a : List Int} {intra : Bool} (h : Good L R out) (hb : ¬ (RightG g ∧ (intra = false → RightG a))) (hn : out.length ≤ 4000) (hg : g.length ≤ 9223372036854775807) (ha : a.length ≤ 9223372036854775807) :
    Ev (fun k => gain_Put.f k L R out g a intra) (L, R, out, 1) := by
  have hu := put_unfair (lo := 0) (hi := 1) (tot := 0) h (fun f => by have := f.c; omega) hn
  have hj : Ev (fun k => gain_Put.j0 k g a intra true L R out L R out) (L, R, out, 1) := Ev.step (f := fun k => some (L, R, out, 1)) (fun k => by simp [gain_Put.j0]) (Ev.now _)
  unfold gain_Put.f
  refine Ev.congr (f := fun k => (gain_Right.f k g).bind fun t => if t = true then (if intra = true then gain_Put.j0 k g a intra false L R out L R out else (gain_Right.f k a).bind fun u => gain_Put.j0 k g a intra (!u) L R out L R out) else gain_Put.j0 k g a intra true L R out L R out) (fun k => by rw [hu]; rfl) (Ev.bind (right_is g hg) ?_)
  by_cases hG : RightG g
  · simp only [rightB_yes hG, if_true]
    have hi : intra = false := by
      cases intra with
      | true => exact absurd ⟨hG, fun e => by simp at e⟩ hb
      | false => rfl
    have hA : ¬ RightG a := fun hA => hb ⟨hG, fun _ => hA⟩
    subst hi
    refine Ev.congr (f := fun k => (gain_Right.f k a).bind fun u => gain_Put.j0 k g a false (!u) L R out L R out) (fun k => by rw [if_neg (by simp)]) (Ev.bind (right_is a ha) ?_)
    rw [rightB_no hA]
    exact hj
  · simp only [rightB_no hG]
    refine Ev.congr (f := fun k => gain_Put.j0 k g a intra true L R out L R out) (fun k => by rw [if_neg (by simp)]) hj
end Go.Proofs.Ytgknajladloffaa.M
