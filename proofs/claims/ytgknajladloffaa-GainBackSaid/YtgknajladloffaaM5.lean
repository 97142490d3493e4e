/- What gain.Take answers behind gain.Put; GainBack's plain law. -/
import Derived.Test.YtgknajladloffaaM3
import Derived.Test.YtgknajladloffaaM4
import Derived.Test.YtgknajladloffaaDx41
namespace Go.Proofs.Ytgknajladloffaa.M
open Go.RowKit Go.Proofs.YtgknajladloffaaW.PrintWords Go.Proofs.Ytgknajladloffaa.Q
set_option linter.unusedVariables false
set_option linter.unusedSimpArgs false

/-- A decoder that follows an encoder. -/
structure Fol (b : List Int) (L R : Int) (out : List Int) (c p : Int) : Prop where
  good : Good L R out
  at_ : At b L out c p
  lt : c < R
  p0 : 0 ≤ p
theorem Chain.lt {b : List Int} (hb : Bytes b) {cs : List (Int × Int × Int)} {L1 R1 : Int} {out1 : List Int} {L2 R2 : Int} {out2 : List Int} {c1 p1 : Int} (hk : Chain cs L1 R1 out1 L2 R2 out2) (hI : In b (V L2 out2) R2 out2.length) (hA : At b L1 out1 c1 p1) : c1 < R1 := by
  have := (hk.in_ hI).take hb
  have := hA.2
  omega
/-- One gain, taken. -/
theorem take_gain {b : List Int} (hb : Bytes b) (hbl : b.length < 1000000) {g a : Int} {intra : Bool} (g0 : 0 ≤ g) (g1 : g ≤ 44) (ha : intra = false → 0 ≤ a ∧ a ≤ 44) {cs : List (Int × Int × Int)} {L R : Int} {out : List Int} {L2 R2 : Int} {out2 : List Int} {c p : Int} (hF : Fol b L R out c p)
    (h : Chain (gainC g a intra ++ cs) L R out L2 R2 out2) (hI : In b (V L2 out2) R2 out2.length) :
    ∃ L1 R1 out1 c1 p1, Ev (fun k => gain_take.f k c R b p a intra) (c1, R1, b, p1, g) ∧ Fol b L1 R1 out1 c1 p1 ∧ Chain cs L1 R1 out1 L2 R2 out2 := by
  obtain ⟨hG, hA, hc, hp⟩ := hF
  have ew : wrap64 g = g := by unfold wrap64; omega
  cases intra with
  | true =>
    rw [show gainC g a true = numC g 45 by unfold gainC; rw [if_pos rfl]] at h
    obtain ⟨L1, R1, o1, c1, p1, hE, hA1, hk, hg1, hc1, hp1⟩ := takeNum hb hbl (n := 45) g0 (by omega) (by omega) hG hc hp h hI hA
    refine ⟨L1, R1, o1, c1, p1, ?_, ⟨hg1, hA1, hc1, hp1⟩, hk⟩
    refine Ev.congr (f := fun k => (coder_TakeNum.f k c R b p 45).bind fun bt => some (bt.1, bt.2.1, bt.2.2.1, bt.2.2.2.1, wrap64 bt.2.2.2.2.1)) (fun k => by unfold gain_take.f; rw [if_pos rfl]) (Ev.bind hE ?_)
    simp only [ew]; exact Ev.now _
  | false =>
    obtain ⟨a0, a1⟩ := ha rfl
    by_cases hd : -3 ≤ g - a ∧ g - a ≤ 3
    · rw [show gainC g a false = [(g - a + 3, g - a + 4, 8)] by unfold gainC; rw [if_neg (by simp), if_pos hd]] at h
      have h' : Chain ((g - a + 3, g - a + 3 + 1, 8) :: cs) L R out L2 R2 out2 := by rw [show g - a + 3 + 1 = g - a + 4 by omega]; exact h
      obtain ⟨hget, _, _, _, L1, R1, o1, c1, p1, hE, hA1, hk, hg1, hp1⟩ := take1 hb hbl h' hI hA
      refine ⟨L1, R1, o1, c1, p1, ?_, ⟨hg1, hA1, hk.lt hb hI hA1, hp1⟩, hk⟩
      refine Ev.congr (f := fun k => (coder_Take.f k c R b p (g - a + 3) (g - a + 3 + 1) 8).bind fun bt => some (bt.1, bt.2.1, bt.2.2.1, bt.2.2.2.1, g)) (fun k => ?_) (Ev.bind hE (Ev.now _))
      unfold gain_take.f
      rw [if_neg (by simp), hget]
      simp only [Option.bind_some]
      rw [show wrap64 (g - a + 3 + 1) = g - a + 3 + 1 by unfold wrap64; omega, show mx 0 (mn (wrap64 ((wrap64 (a + (g - a + 3))) - 3)) 44) = g by unfold mx mn wrap64; split <;> split <;> omega]
      congr 1; funext bt; rw [if_neg (by omega)]
    · rw [show gainC g a false = (7, 8, 8) :: numC g 45 by unfold gainC; rw [if_neg (by simp), if_neg hd]] at h
      have h' : Chain ((7, 7 + 1, 8) :: (numC g 45 ++ cs)) L R out L2 R2 out2 := h
      obtain ⟨hget, _, _, _, L1, R1, o1, c1, p1, hE, hA1, hk, hg1, hp1⟩ := take1 hb hbl h' hI hA
      obtain ⟨L3, R3, o3, c3, p3, hE3, hA3, hk3, hg3, hc3, hp3⟩ := takeNum hb hbl (n := 45) g0 (by omega) (by omega) hg1 (hk.lt hb hI hA1) hp1 hk hI hA1
      refine ⟨L3, R3, o3, c3, p3, ?_, ⟨hg3, hA3, hc3, hp3⟩, hk3⟩
      refine Ev.congr (f := fun k => (coder_Take.f k c R b p 7 (7 + 1) 8).bind fun bt => (coder_TakeNum.f k bt.1 bt.2.1 bt.2.2.1 bt.2.2.2.1 45).bind fun ct => some (ct.1, ct.2.1, ct.2.2.1, ct.2.2.2.1, wrap64 ct.2.2.2.2.1)) (fun k => ?_) (Ev.bind hE (Ev.bind hE3 ?_))
      · unfold gain_take.f
        rw [if_neg (by simp), hget]
        simp only [Option.bind_some]
        rw [show wrap64 (7 + 1) = 7 + 1 by unfold wrap64; omega]
        simp
      · simp only [ew]; exact Ev.now _
theorem takes_loop {b : List Int} (hb : Bytes b) (hbl : b.length < 1000000) {g a : List Int} {intra : Bool} (hg : RightG g) (ha : intra = false → RightG a) {cs : List (Int × Int × Int)} {L2 R2 : Int} {out2 : List Int} (hI : In b (V L2 out2) R2 out2.length) :
    ∀ (d : Nat), d ≤ 5 → ∀ (L R : Int) (out : List Int) (c p : Int), Fol b L R out c p → Chain (gainsC g a intra d ++ cs) L R out L2 R2 out2 →
    ∃ L1 R1 out1 c1 p1, Ev (fun k => gain_Take.l0 k a intra (g.take (5 - d)) ((5 - d : Nat) : Int) c R b p) (c1, R1, b, p1, g, 0) ∧ Fol b L1 R1 out1 c1 p1 ∧ Chain cs L1 R1 out1 L2 R2 out2 := by
  intro d
  induction d with
  | zero =>
    intro _ L R out c p hF h
    refine ⟨L, R, out, c, p, Ev.step (f := fun _ => some (c, R, b, p, g, 0)) (fun k => ?_) (Ev.now _), hF, h⟩
    simp only [gain_Take.l0]; rw [if_neg (by omega), List.take_of_length_le (by have := hg.1; omega)]
  | succ d ih =>
    intro hd L R out c p hF h
    have hbb : (5 - (d + 1) : Nat) = 4 - d := by omega
    obtain ⟨g0, g1⟩ := hg.at_ (4 - d) (by omega)
    have ha' : intra = false → 0 ≤ (if intra = true then 0 else rd a ((4 - d : Nat) : Int)) ∧ (if intra = true then 0 else rd a ((4 - d : Nat) : Int)) ≤ 44 := by
      intro e; rw [if_neg (by simp [e])]; exact (ha e).at_ (4 - d) (by omega)
    rw [show gainsC g a intra (d + 1) = gainC (rd g ((4 - d : Nat) : Int)) (if intra = true then 0 else rd a ((4 - d : Nat) : Int)) intra ++ gainsC g a intra d from rfl, List.append_assoc] at h
    obtain ⟨L1, R1, o1, c1, p1, hE, hF1, hk⟩ := take_gain hb hbl g0 g1 ha' hF h hI
    obtain ⟨L3, R3, o3, c3, p3, hE3, hF3, hk3⟩ := ih (by omega) L1 R1 o1 c1 p1 hF1 hk
    refine ⟨L3, R3, o3, c3, p3, ?_, hF3, hk3⟩
    rw [hbb]
    have hlt : 4 - d < g.length := by rw [hg.1]; omega
    have hrd : rd g ((4 - d : Nat) : Int) = g[4 - d] := by unfold rd; rw [List.getD_eq_getElem?_getD, Int.toNat_natCast, List.getElem?_eq_getElem hlt]; rfl
    have htk : g.take (4 - d) ++ [rd g ((4 - d : Nat) : Int)] = g.take (5 - d) := by
      rw [hrd, List.take_append_getElem hlt, show 4 - d + 1 = 5 - d by omega]
    refine Ev.step (f := fun k => (gain_take.f k c R b p (if intra = true then 0 else rd a ((4 - d : Nat) : Int)) intra).bind fun bt => gain_Take.l0 k a intra (g.take (4 - d) ++ [bt.2.2.2.2]) ((5 - d : Nat) : Int) bt.1 bt.2.1 bt.2.2.1 bt.2.2.2.1) (fun k => ?_) (Ev.bind hE ?_)
    · simp only [gain_Take.l0]
      have hlen : (g.take (4 - d)).length < 17592186044416 := by rw [List.length_take]; omega
      rw [if_pos (by omega), show wrap64 (((4 - d : Nat) : Int) + 1) = ((5 - d : Nat) : Int) by unfold wrap64; omega]
      cases intra with
      | true => rw [if_pos rfl, if_pos rfl]; simp only [if_pos hlen]
      | false =>
        rw [if_neg (by simp), if_pos (by omega), if_pos (by have := (ha rfl).1; omega), if_neg (by simp)]; simp only [if_pos hlen]
    · simp only [htk]; exact hE3
/-- gain.Take of gains that were put. -/
theorem gains_take {b : List Int} (hb : Bytes b) (hbl : b.length < 1000000) {g a : List Int} {intra : Bool} (hg : RightG g) (ha : intra = false → RightG a) {cs : List (Int × Int × Int)} {L2 R2 : Int} {out2 : List Int} (hI : In b (V L2 out2) R2 out2.length)
    {L R : Int} {out : List Int} {c p : Int} (hF : Fol b L R out c p) (h : Chain (gainsC g a intra 5 ++ cs) L R out L2 R2 out2) :
    ∃ L1 R1 out1 c1 p1, Ev (fun k => gain_Take.f k c R b p a intra) (c1, R1, b, p1, g, 0) ∧ Fol b L1 R1 out1 c1 p1 ∧ Chain cs L1 R1 out1 L2 R2 out2 := by
  obtain ⟨L1, R1, o1, c1, p1, hE, hF1, hk⟩ := takes_loop hb hbl hg ha hI 5 (by omega) L R out c p hF h
  refine ⟨L1, R1, o1, c1, p1, ?_, hF1, hk⟩
  have hj : Ev (fun k => gain_Take.j0 k a intra false c R b p) (c1, R1, b, p1, g, 0) := Ev.step (f := fun k => gain_Take.l0 k a intra (g.take (5 - 5)) ((5 - 5 : Nat) : Int) c R b p) (fun k => by simp only [gain_Take.j0]; rw [if_neg (by simp)]; rfl) hE
  cases intra with
  | true => exact Ev.congr (f := fun k => gain_Take.j0 k a true false c R b p) (fun k => by unfold gain_Take.f; rw [if_pos rfl]) hj
  | false =>
    have hra := right_is a (by rw [(ha rfl).1]; omega)
    rw [rightB_yes (ha rfl)] at hra
    refine Ev.congr (f := fun k => (gain_Right.f k a).bind fun t => gain_Take.j0 k a false (!t) c R b p) (fun k => by unfold gain_Take.f; rw [if_neg (by simp)]) (Ev.bind hra ?_)
    exact hj
theorem same_loop (x : List Int) (hn : x.length < 1000000) : ∀ (d i : Nat), i + d = x.length → Ev (fun k => psalteryref06_Same.l0 k x x (i : Int)) true := by
  intro d
  induction d with
  | zero =>
    intro i hi
    exact Ev.step (f := fun _ => some true) (fun k => by simp only [psalteryref06_Same.l0]; rw [if_neg (by omega)]) (Ev.now _)
  | succ d ih =>
    intro i hi
    refine Ev.step (f := fun k => psalteryref06_Same.l0 k x x ((i + 1 : Nat) : Int)) (fun k => ?_) (ih (i + 1) (by omega))
    simp only [psalteryref06_Same.l0]
    rw [if_pos (by omega), if_pos (by omega), if_pos (by omega), if_pos trivial, show wrap64 ((i : Int) + 1) = ((i + 1 : Nat) : Int) by unfold wrap64; omega]
theorem same_self (x : List Int) (hn : x.length < 1000000) : Ev (fun k => psalteryref06_Same.f k x x) true :=
  Ev.congr (f := fun k => psalteryref06_Same.l0 k x x ((0 : Nat) : Int)) (fun k => by unfold psalteryref06_Same.f; rw [if_pos rfl]; rfl) (same_loop x hn x.length 0 (by omega))
/-- The choices of rows, one behind the other. -/
def rowsC (a : List Int) : List S58 → List (Int × Int × Int)
  | [] => []
  | r :: rs => gainsC r.f0 a r.f1 5 ++ rowsC r.f0 rs
def lastG (a : List Int) : List S58 → List Int
  | [] => a
  | r :: rs => lastG r.f0 rs
theorem rowsC_snoc (r : S58) : ∀ (ks : List S58) (a : List Int), rowsC a (ks ++ [r]) = rowsC a ks ++ gainsC r.f0 (lastG a ks) r.f1 5
  | [], a => by simp [rowsC, lastG]
  | k :: ks, a => by simp only [List.cons_append, rowsC, lastG, rowsC_snoc r ks, List.append_assoc]
theorem lastG_snoc (r : S58) : ∀ (ks : List S58) (a : List Int), lastG a (ks ++ [r]) = r.f0
  | [], a => rfl
  | k :: ks, a => by simp only [List.cons_append, lastG]; exact lastG_snoc r ks _
theorem back_take {b : List Int} (hb : Bytes b) (hbl : b.length < 1000000) {L2 R2 : Int} {out2 : List Int} (hI : In b (V L2 out2) R2 out2.length) : ∀ (rest done : List S58) (a : List Int), (done ++ rest).length ≤ 100 → RightG a → (∀ r ∈ rest, RightG r.f0) →
    ∀ (L R : Int) (out : List Int) (c p : Int), Fol b L R out c p → Chain (rowsC a rest) L R out L2 R2 out2 → Ev (fun k => psalterylaw11_GainBack.l1 k a (done ++ rest) (done.length : Int) c R b p) true := by
  intro rest
  induction rest with
  | nil =>
    intro done a hl ha hr L R out c p hF h
    refine Ev.step (f := fun k => (psalterylaw11_knows.f k).bind fun t => some t) (fun k => ?_) (Ev.bind knows11 (Ev.now _))
    simp only [psalterylaw11_GainBack.l1]
    rw [if_neg (by simp)]
  | cons r rest ih =>
    intro done a hl ha hr L R out c p hF h
    have hg := hr r (by simp)
    obtain ⟨L1, R1, o1, c1, p1, hE, hF1, hk⟩ := gains_take hb hbl hg (fun _ => ha) hI hF h
    have hS := same_self r.f0 (by rw [hg.1]; omega)
    have hx : rd_T58 (done ++ r :: rest) (done.length : Int) = r := by
      unfold rd_T58; rw [List.getD_eq_getElem?_getD, Int.toNat_natCast]; simp
    have hi := ih (done ++ [r]) r.f0 (by simpa using hl) hg (fun x hx => hr x (by simp [hx])) L1 R1 o1 c1 p1 hF1 hk
    simp only [List.append_assoc, List.singleton_append, List.length_append, List.length_singleton] at hi
    simp only [List.length_append, List.length_cons] at hl
    refine Ev.step (f := fun k => (gain_Take.f k c R b p a r.f1).bind fun bt => if bt.2.2.2.2.2 = 0 then (psalteryref06_Same.f k bt.2.2.2.2.1 r.f0).bind fun t => if t = true then psalterylaw11_GainBack.l1 k bt.2.2.2.2.1 (done ++ r :: rest) ((done.length + 1 : Nat) : Int) bt.1 bt.2.1 bt.2.2.1 bt.2.2.2.1 else some false else some false) (fun k => ?_) (Ev.bind hE ?_)
    · simp only [psalterylaw11_GainBack.l1]
      rw [if_pos (by simp only [List.length_append, List.length_cons]; omega), if_pos (by omega), hx, show wrap64 ((done.length : Int) + 1) = ((done.length + 1 : Nat) : Int) by unfold wrap64; omega]
    · simp only [if_true]
      refine Ev.bind hS ?_
      simp only [if_true]
      exact hi
theorem V_four {L : Int} (out : List Int) (h0 : 0 ≤ L) (h1 : L ≤ 4294967295) : val (out ++ [L / 16777216 % 256, L / 65536 % 256, L / 256 % 256, L % 256]) = V L out := by
  rw [val_append]; simp only [val, List.length_cons, List.length_nil, V]
  have : L / 16777216 % 256 * 256 ^ 3 + (L / 65536 % 256 * 256 ^ 2 + (L / 256 % 256 * 256 ^ 1 + (L % 256 * 256 ^ 0 + 0))) = L := by omega
  simp only [Nat.zero_add, Nat.reduceAdd] at this ⊢
  rw [this]; omega
theorem open_is {b : List Int} (hb : Bytes b) (hl : 4 ≤ b.length) : coder_Open.f b = some (val (b.take 4), 4294967295, b, 4) := by
  have h0 : coder_at.f b 0 = some b[0] := at_is hb (p := 0) (by omega)
  have h1 : coder_at.f b 1 = some b[1] := at_is hb (p := 1) (by omega)
  have h2 : coder_at.f b 2 = some b[2] := at_is hb (p := 2) (by omega)
  have h3 : coder_at.f b 3 = some b[3] := at_is hb (p := 3) (by omega)
  have b0 := hb b[0] (List.getElem_mem (by omega))
  have b1 := hb b[1] (List.getElem_mem (by omega))
  have b2 := hb b[2] (List.getElem_mem (by omega))
  have b3 := hb b[3] (List.getElem_mem (by omega))
  have ev := val_take b (p := 3) (by omega)
  rw [val_take b (p := 2) (by omega), val_take b (p := 1) (by omega), val_take b (p := 0) (by omega), show val (b.take 0) = 0 by simp [val]] at ev
  generalize b[0] = y0 at h0 b0 ev
  generalize b[1] = y1 at h1 b1 ev
  generalize b[2] = y2 at h2 b2 ev
  generalize b[3] = y3 at h3 b3 ev
  unfold coder_Open.f
  rw [h0, h1, h2, h3]
  simp only [Option.bind_some]
  rw [show IntKind.u64.wrap (y0 * 16777216) = y0 * 2 ^ 24 by rw [IntKind.wrap_u64]; omega, show IntKind.u64.wrap (y1 * 65536) = y1 * 65536 by rw [IntKind.wrap_u64]; omega, show IntKind.u64.wrap (y2 * 256) = y2 * 256 by rw [IntKind.wrap_u64]; omega,
    or_low 24 (by omega) (by omega) (by omega) (by omega) (by omega), show y0 * 2 ^ 24 + y1 * 65536 = (y0 * 256 + y1) * 2 ^ 16 by omega, or_low 16 (by omega) (by omega) (by omega) (by omega) (by omega),
    show (y0 * 256 + y1) * 2 ^ 16 + y2 * 256 = ((y0 * 256 + y1) * 256 + y2) * 2 ^ 8 by omega, or_low 8 (by omega) (by omega) (by omega) (by omega) (by omega), ev]
  congr 2; omega
def nil5 : List Int := [0, 0, 0, 0, 0]
theorem right5 : RightG nil5 := ⟨rfl, by simp [nil5]⟩
theorem back_end {l ks : List S58} {a : List Int} {i L R : Int} {out : List Int} (hk : ks.length ≤ 100) (hr : ∀ r ∈ ks, RightG r.f0) (hG : Good L R out) (hn : out.length ≤ 3000) (h : Chain (rowsC nil5 ks) 0 4294967295 [] L R out) :
    Ev (fun k => psalterylaw11_GainBack.j1 k l nil5 a ks i false L R out) true := by
  have hB : Bytes (out ++ [L / 16777216 % 256, L / 65536 % 256, L / 256 % 256, L % 256]) := hG.by_.append (fun x hx => by
    simp at hx; omega)
  have hlen : (out ++ [L / 16777216 % 256, L / 65536 % 256, L / 256 % 256, L % 256]).length = out.length + 4 := by simp
  have hv := V_four out hG.l0 hG.l1
  generalize hBe : out ++ [L / 16777216 % 256, L / 65536 % 256, L / 256 % 256, L % 256] = B at hB hlen hv
  have hI : In B (V L out) R out.length := by
    have := hG.r0
    refine ⟨by omega, ?_, ?_⟩
    · rw [hlen, show out.length + 4 - 4 - out.length = 0 by omega, hv]; simp
    · rw [hlen, show out.length + 4 - 4 - out.length = 0 by omega, hv]; simp; omega
  have hA : At B 0 [] (val (B.take 4)) 4 := ⟨rfl, by simp [V, val]⟩
  have hF : Fol B 0 4294967295 [] (val (B.take 4)) 4 := ⟨Good.new, hA, h.lt hB hI hA, by omega⟩
  have hT := back_take hB (by omega) hI ks [] nil5 (by simpa using hk) right5 hr 0 4294967295 [] _ _ hF h
  refine Ev.step (f := fun k => psalterylaw11_GainBack.l1 k nil5 ks 0 (val (B.take 4)) 4294967295 B 4) (fun k => ?_) hT
  simp only [psalterylaw11_GainBack.j1]
  rw [if_neg (by simp)]
  unfold coder_Finish.f
  rw [own_is hG (by omega)]
  simp only [Option.bind_some]
  rw [if_pos (by simp; omega), hBe]
  simp only [Option.bind_some]
  rw [open_is hB (by omega)]
  rfl
theorem back_loop (l : List S58) (hl : ∀ x ∈ l, x.f0.length ≤ 9223372036854775807) : ∀ (d i : Nat) (ks : List S58) (L R : Int) (out : List Int), i + d = 20 → ks.length ≤ i → (∀ r ∈ ks, RightG r.f0) → RightG (lastG nil5 ks) → Good L R out → out.length ≤ 30 * i → Chain (rowsC nil5 ks) 0 4294967295 [] L R out →
    Ev (fun k => psalterylaw11_GainBack.l0 k l nil5 (lastG nil5 ks) ks (i : Int) L R out) true := by
  intro d
  induction d with
  | zero =>
    intro i ks L R out hi hk hr ha hG hn h
    refine Ev.step (f := fun k => psalterylaw11_GainBack.j1 k l nil5 (lastG nil5 ks) ks (i : Int) false L R out) (fun k => ?_) (back_end (by omega) hr hG (by omega) h)
    simp only [psalterylaw11_GainBack.l0]
    split
    · rw [show decide ((i : Int) < 20) = false by simp; omega]
    · rfl
  | succ d ih =>
    intro i ks L R out hi hk hr ha hG hn h
    by_cases hlt : i < l.length
    · have hx : rd_T58 l (i : Int) = l[i] := by unfold rd_T58; rw [List.getD_eq_getElem?_getD, Int.toNat_natCast, List.getElem?_eq_getElem hlt]; rfl
      have ei : wrap64 ((i : Int) + 1) = ((i + 1 : Nat) : Int) := by unfold wrap64; omega
      refine Ev.step (f := fun k => psalterylaw11_GainBack.j1 k l nil5 (lastG nil5 ks) ks (i : Int) true L R out) (fun k => ?_) (Ev.step (f := fun k => (gain_Put.f k L R out l[i].f0 (lastG nil5 ks) l[i].f1).bind fun bt => if bt.2.2.2 = 0 then psalterylaw11_GainBack.l0 k l nil5 l[i].f0 (ks ++ [l[i]]) ((i + 1 : Nat) : Int) bt.1 bt.2.1 bt.2.2.1 else psalterylaw11_GainBack.l0 k l nil5 (lastG nil5 ks) ks ((i + 1 : Nat) : Int) L R out) (fun k => ?_) ?_)
      · simp only [psalterylaw11_GainBack.l0]
        rw [if_pos (by omega), show decide ((i : Int) < 20) = true by simp; omega]
      · simp only [psalterylaw11_GainBack.j1]
        rw [if_pos trivial, if_pos (by omega), if_pos (by omega), hx, ei]
        simp only [if_pos (show ks.length < 4398046511104 by omega)]
      · by_cases hR : RightG l[i].f0
        · obtain ⟨L1, R1, o1, hp, hC⟩ := gains_put (intra := l[i].f1) hG hR (fun _ => ha) (by omega)
          have hlen := hC.len
          have hg3 := gainsC_len l[i].f0 (lastG nil5 ks) l[i].f1 5
          refine Ev.bind hp ?_
          simp only [if_true]
          have := ih (i + 1) (ks ++ [l[i]]) L1 R1 o1 (by omega) (by simp; omega) (fun r hr' => by
            rcases List.mem_append.mp hr' with h1 | h1
            · exact hr r h1
            · simp at h1; subst h1; exact hR) (by rw [lastG_snoc]; exact hR) (hC.good hG) (by omega) (by rw [rowsC_snoc]; exact h.append hC)
          rw [lastG_snoc] at this
          exact this
        · have hp := gains_bad (intra := l[i].f1) hG (fun h => hR h.1) (by omega) (hl _ (List.getElem_mem hlt)) (Nat.le_trans (Nat.le_of_eq ha.1) (by decide))
          refine Ev.bind hp ?_
          refine Ev.congr (f := fun k => psalterylaw11_GainBack.l0 k l nil5 (lastG nil5 ks) ks ((i + 1 : Nat) : Int) L R out) (fun k => by simp) ?_
          exact ih (i + 1) ks L R out (by omega) (by omega) hr ha hG (by omega) h
    · refine Ev.step (f := fun k => psalterylaw11_GainBack.j1 k l nil5 (lastG nil5 ks) ks (i : Int) false L R out) (fun k => ?_) (back_end (by omega) hr hG (by omega) h)
      simp only [psalterylaw11_GainBack.l0]
      rw [if_neg (by omega)]
/-- The plain law. -/
theorem gainBack (l : List S58) (hl : ∀ x ∈ l, x.f0.length ≤ 9223372036854775807) : ∃ k, psalterylaw11_GainBack.f k l = some true := by
  refine Ev.rounds (g := fun k => psalterylaw11_GainBack.f k l) ?_
  unfold psalterylaw11_GainBack.f coder_New.f
  simp only [Option.bind_some]
  exact back_loop l hl 20 0 [] 0 4294967295 [] (by omega) (by simp) (by simp) right5 Good.new (by simp) .nil
end Go.Proofs.Ytgknajladloffaa.M
