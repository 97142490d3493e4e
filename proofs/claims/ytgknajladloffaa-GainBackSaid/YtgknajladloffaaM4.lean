/- The decoder: what coder.Get, coder.Take, coder.TakeNum and gain.Take answer behind what was put. -/
import Derived.Test.YtgknajladloffaaM2
import Derived.Test.YtgknajladloffaaDx9
import Derived.Test.YtgknajladloffaaDx10
import Derived.Test.YtgknajladloffaaDx11
import Derived.Test.YtgknajladloffaaDx12
namespace Go.Proofs.Ytgknajladloffaa.M
open Go.RowKit Go.Proofs.YtgknajladloffaaW.PrintWords Go.Proofs.Ytgknajladloffaa.Q
set_option linter.unusedVariables false
set_option linter.unusedSimpArgs false

theorem or_low (i : Nat) {x y : Int} (hx : 0 ≤ x) (hy : 0 ≤ y) (hl : y < 2 ^ i) (hb : x * 2 ^ i < 18446744073709551616) (hy2 : y < 18446744073709551616) : Go.bits .or .u64 (x * 2 ^ i) y = x * 2 ^ i + y := by
  obtain ⟨a, rfl⟩ := Int.eq_ofNat_of_zero_le hx
  obtain ⟨b, rfl⟩ := Int.eq_ofNat_of_zero_le hy
  have e : ((a : Int) * 2 ^ i) = ((2 ^ i * a : Nat) : Int) := by push_cast; rw [Int.mul_comm]
  rw [e] at hb ⊢
  have hl' : b < 2 ^ i := by exact_mod_cast hl
  rw [bits_or_u64_nat _ _ (by omega) (by omega), ← Nat.two_pow_add_eq_or_of_lt hl']
  push_cast; rfl
theorem at_is {b : List Int} (hb : Bytes b) {p : Nat} (hp : p < b.length) : coder_at.f b (p : Int) = some b[p] := by
  unfold coder_at.f
  have h := hb b[p] (List.getElem_mem hp)
  have hrd : rd b (p : Int) = b[p] := by unfold rd; rw [List.getD_eq_getElem?_getD, Int.toNat_natCast, List.getElem?_eq_getElem hp]; rfl
  rw [if_neg (by omega), if_pos (by omega), if_pos (by omega), hrd, show IntKind.u64.wrap b[p] = b[p] by rw [IntKind.wrap_u64]; omega]
theorem val_take (b : List Int) {p : Nat} (hp : p < b.length) : val (b.take (p + 1)) = val (b.take p) * 256 + b[p] := by
  rw [← List.take_append_getElem hp, val_snoc]
theorem take_loop {b : List Int} (hb : Bytes b) (hlen : b.length < 1000000) : ∀ (s : Nat) (g c X R0 : Int) (p : Nat), 16777216 ≤ g * 256 ^ s → g * 256 ^ s ≤ 4294967295 → 0 < g → 0 ≤ c → c < g → p + s ≤ b.length → c + X = val (b.take p) →
    ∃ c', Ev (fun k => coder_Take.l0 k g c R0 b (p : Int)) (c', g * 256 ^ s, b, ((p + s : Nat) : Int), 0) ∧ c' + X * 256 ^ s = val (b.take (p + s)) ∧ 0 ≤ c' ∧ c' < g * 256 ^ s := by
  intro s
  induction s with
  | zero =>
    intro g c X R0 p h1 h2 h3 h4 h5 h6 h7
    refine ⟨c, Ev.step (f := fun _ => some (c, g, b, (p : Int), 0)) (fun k => ?_) ?_, by simpa using h7, h4, by simpa using h5⟩
    · simp only [coder_Take.l0]; rw [if_neg (by simp at h1; omega)]
    · simpa using Ev.now (c, g, b, (p : Int), (0 : Int))
  | succ s ih =>
    intro g c X R0 p h1 h2 h3 h4 h5 h6 h7
    have hp := p256 s
    have e4 : ∀ x : Int, x * 256 * 256 ^ s = x * 256 ^ (s + 1) := fun x => by rw [p256s, Int.mul_assoc, Int.mul_comm 256]
    have hg : g * 1 ≤ g * 256 ^ s := Int.mul_le_mul_of_nonneg_left (by omega) (by omega)
    have hg2 : g < 16777216 := by rw [p256s, ← Int.mul_assoc] at h2; omega
    have hlt : p < b.length := by omega
    have hy := hb b[p] (List.getElem_mem hlt)
    have ec : Go.bits .or .u64 (Go.bits .and .u64 (IntKind.u64.wrap (c * 256)) 4294967295) b[p] = c * 256 + b[p] := by
      rw [show IntKind.u64.wrap (c * 256) = c * 256 by rw [IntKind.wrap_u64]; omega, mask32 _ (by omega) (by omega), show (c * 256) % 4294967296 = c * 2 ^ 8 by omega, or_low 8 (by omega) (by omega) (by omega) (by omega) (by omega)]
      omega
    obtain ⟨c', hE, a1, a2, a3⟩ := ih (g * 256) (c * 256 + b[p]) (X * 256) R0 (p + 1) (by rw [e4]; exact h1) (by rw [e4]; exact h2) (by omega) (by omega) (by omega) (by omega) (by rw [val_take b hlt, ← h7]; omega)
    refine ⟨c', Ev.step (f := fun k => coder_Take.l0 k (g * 256) (c * 256 + b[p]) R0 b ((p + 1 : Nat) : Int)) (fun k => ?_) ?_, ?_, a2, by rw [← e4]; exact a3⟩
    · simp only [coder_Take.l0]
      rw [if_pos hg2, at_is hb hlt]
      simp only [Option.bind_some]
      rw [if_pos (by omega), ec, show (g * 256) % 4294967296 = g * 256 by omega, show wrap64 ((p : Int) + 1) = ((p + 1 : Nat) : Int) by unfold wrap64; omega]
    · rw [e4, show p + 1 + s = p + (s + 1) by omega] at hE; exact hE
    · rw [e4, show p + 1 + s = p + (s + 1) by omega] at a1; exact a1
theorem good_is {c R : Int} {b : List Int} {p : Int} (h1 : c ≤ 4294967295) (h2 : 16777216 ≤ R) (h3 : 0 ≤ p) : coder_good.f c R b p = some (c, R, b, p) := by
  unfold coder_good.f coder_RightDec.f
  rw [if_pos h1, if_pos h2]
  simp [h3]
/-- Where a decoder stands that has taken what an encoder had put. -/
def At (b : List Int) (L : Int) (out : List Int) (c p : Int) : Prop := p = ((out.length + 4 : Nat) : Int) ∧ c + V L out = val (b.take (out.length + 4))
/-- The bytes' number lies in what an encoder may become. -/
structure In (b : List Int) (v R : Int) (n : Nat) : Prop where
  len : n + 4 ≤ b.length
  lo : v * 256 ^ (b.length - 4 - n) ≤ val b
  hi : val b < (v + R) * 256 ^ (b.length - 4 - n)
theorem In.take {b : List Int} {v R : Int} {n : Nat} (hb : Bytes b) (h : In b v R n) : v ≤ val (b.take (n + 4)) ∧ val (b.take (n + 4)) < v + R := by
  obtain ⟨hlen, lo, hi⟩ := h
  have e : val b = val (b.take (n + 4)) * 256 ^ (b.length - 4 - n) + val (b.drop (n + 4)) := by
    have := val_append (b.take (n + 4)) (b.drop (n + 4))
    rw [List.take_append_drop, List.length_drop, show b.length - (n + 4) = b.length - 4 - n by omega] at this
    exact this
  have hr := val_range (l := b.drop (n + 4)) (fun x hx => hb x (List.mem_of_mem_drop hx))
  rw [List.length_drop, show b.length - (n + 4) = b.length - 4 - n by omega] at hr
  have hp := p256 (b.length - 4 - n)
  rw [e] at lo hi
  constructor
  · have : v * 256 ^ (b.length - 4 - n) < (val (b.take (n + 4)) + 1) * 256 ^ (b.length - 4 - n) := by rw [Int.add_mul]; omega
    have := Int.lt_of_mul_lt_mul_right this (by omega)
    omega
  · have : val (b.take (n + 4)) * 256 ^ (b.length - 4 - n) < (v + R) * 256 ^ (b.length - 4 - n) := by omega
    exact Int.lt_of_mul_lt_mul_right this (by omega)
theorem In.back {b : List Int} {v R v' R' : Int} {n s : Nat} (h : In b v' R' (n + s)) (hv : v' = v * 256 ^ s) (hR : R' = R * 256 ^ s) : In b v R n := by
  obtain ⟨hlen, lo, hi⟩ := h
  have e : b.length - 4 - n = s + (b.length - 4 - (n + s)) := by omega
  refine ⟨by omega, ?_, ?_⟩
  · rw [e, Int.pow_add, ← Int.mul_assoc, ← hv]; exact lo
  · rw [e, Int.pow_add, ← Int.mul_assoc, Int.add_mul, ← hv, ← hR]; exact hi
theorem In.wide {b : List Int} {v R x y : Int} {n : Nat} (h : In b (v + x) y n) (h0 : 0 ≤ x) (h1 : x + y ≤ R) : In b v R n := by
  obtain ⟨hlen, lo, hi⟩ := h
  have hp := p256 (b.length - 4 - n)
  have a : v * 256 ^ (b.length - 4 - n) ≤ (v + x) * 256 ^ (b.length - 4 - n) := Int.mul_le_mul_of_nonneg_right (by omega) (by omega)
  have c : (v + x + y) * 256 ^ (b.length - 4 - n) ≤ (v + R) * 256 ^ (b.length - 4 - n) := Int.mul_le_mul_of_nonneg_right (by omega) (by omega)
  exact ⟨hlen, by omega, by omega⟩
theorem Puts.in_ {b : List Int} {L R : Int} {out : List Int} {lo hi tot L' R' : Int} {out' : List Int} (hP : Puts L R out lo hi tot L' R' out') (h : In b (V L' out') R' out'.length) : In b (V L out + below R lo tot) (left R lo hi tot) out.length := by
  obtain ⟨s, _, hR, hl, hV⟩ := hP.step
  rw [hl] at h
  exact h.back hV hR
theorem Chain.in_ {b : List Int} {cs : List (Int × Int × Int)} {L R : Int} {out : List Int} {L1 R1 : Int} {out1 : List Int} (h : Chain cs L R out L1 R1 out1) (hI : In b (V L1 out1) R1 out1.length) : In b (V L out) R out.length := by
  induction h with
  | nil => exact hI
  | cons g f p _ ih =>
    obtain ⟨_, _, h1, h2⟩ := left_range f g.r0
    exact (p.in_ (ih hI)).wide h2 h1
theorem take_is {b : List Int} (hb : Bytes b) (hbl : b.length < 1000000) {L R : Int} {out : List Int} {lo hi tot L' R' : Int} {out' : List Int} {c p : Int} (hG : Good L R out) (hf : Fair lo hi tot) (hP : Puts L R out lo hi tot L' R' out')
    (hI : In b (V L' out') R' out'.length) (hA : At b L out c p) : (below R lo tot ≤ c ∧ c < below R lo tot + left R lo hi tot) ∧
    ∃ c' p', Ev (fun k => coder_Take.f k c R b p lo hi tot) (c', R', b, p', 0) ∧ At b L' out' c' p' := by
  obtain ⟨q, hl, hbl', hb0⟩ := left_range hf hG.r0
  have hr1 := hG.r1
  obtain ⟨rfl, hc⟩ := hA
  have ht := (hP.in_ hI).take hb
  have hc0 : below R lo tot ≤ c ∧ c < below R lo tot + left R lo hi tot := by omega
  refine ⟨hc0, ?_⟩
  obtain ⟨s, hs, hR, hn, hV⟩ := hP.step
  have hlen := hI.len
  have hg' := hP.good
  obtain ⟨c', hE, a1, a2, a3⟩ := take_loop hb hbl s (left R lo hi tot) (c - below R lo tot) (V L out + below R lo tot) R (out.length + 4) (by rw [← hR]; exact hg'.r0) (by rw [← hR]; exact hg'.r1) (by omega) (by omega) (by omega) (by omega) (by omega)
  refine ⟨c', ((out'.length + 4 : Nat) : Int), ?_, rfl, ?_⟩
  · refine Ev.congr (f := fun k => coder_Take.l0 k (left R lo hi tot) (c - below R lo tot) R b ((out.length + 4 : Nat) : Int)) (fun k => ?_) ?_
    · unfold coder_Take.f
      rw [good_is (by omega) hG.r0 (by omega)]
      simp only [Option.bind_some]
      rw [fair_yes hf]
      simp only [Option.bind_some, if_true]
      rw [part_is hf hG.r0 hG.r1]
      simp only [Option.bind_some]
      rw [show mn c (below R lo tot) = below R lo tot by unfold mn; split <;> omega, show IntKind.u64.wrap (c - below R lo tot) = c - below R lo tot by rw [IntKind.wrap_u64]; omega]
    · rw [hR, show out'.length + 4 = out.length + 4 + s by omega]; exact hE
  · rw [hV, show out'.length + 4 = out.length + 4 + s by omega]; exact a1
/-- A choice of one is told by coder.Get. -/
theorem get_is {b : List Int} {R lo tot c p : Int} (r0 : 16777216 ≤ R) (r1 : R ≤ 4294967295) (hf : Fair lo (lo + 1) tot) (h : below R lo tot ≤ c ∧ c < below R lo tot + left R lo (lo + 1) tot) (hp : 0 ≤ p) : coder_Get.f c R b p tot = some (lo, 0) := by
  obtain ⟨q, hl, hbl, hb0⟩ := left_range hf r0
  obtain ⟨q1, h1, h2, h3, h4, h5, h6, h7⟩ := share hf r0
  obtain ⟨a, _, b2, d⟩ := hf
  obtain ⟨hc1, hc2⟩ := h
  have hRt : R / tot ≤ R := Int.ediv_le_self _ (by omega)
  unfold coder_Get.f
  rw [good_is (by omega) r0 hp]
  simp only [Option.bind_some]
  have e2 : Int.tdiv R (tot % 4294967296) % 4294967296 = R / tot := by
    rw [show tot % 4294967296 = tot by omega, Int.tdiv_eq_ediv_of_nonneg (by omega)]; omega
  have hcd : c / (R / tot) ≤ c := Int.ediv_le_self _ (by omega)
  have hcd0 : 0 ≤ c / (R / tot) := Int.ediv_nonneg (by omega) (by omega)
  rw [if_neg (by omega), if_neg (by omega), if_neg (by omega), e2, if_neg (by omega), Int.tdiv_eq_ediv_of_nonneg (by omega), show IntKind.u64.wrap (c / (R / tot)) = c / (R / tot) by rw [IntKind.wrap_u64]; omega, show wrap64 (c / (R / tot)) = c / (R / tot) by unfold wrap64; omega, show wrap64 (tot - 1) = tot - 1 by unfold wrap64; omega]
  have hlo : lo ≤ c / (R / tot) := by
    rw [Int.le_ediv_iff_mul_le (by omega), Int.mul_comm]; unfold below at hc1; exact hc1
  unfold num_Clamp.f
  rw [if_neg (by omega)]
  by_cases he : lo + 1 = tot
  · by_cases hg : c / (R / tot) > tot - 1
    · rw [if_pos hg]; simp only [Option.bind_some]; congr 2; omega
    · rw [if_neg hg]; simp only [Option.bind_some]; congr 2; omega
  · have hlt : c / (R / tot) < lo + 1 := by
      rw [Int.ediv_lt_iff_lt_mul (by omega), Int.add_mul, Int.one_mul, Int.mul_comm lo]
      unfold below left at hc2; rw [if_neg he, show lo + 1 - lo = 1 by omega, Int.mul_one] at hc2; exact hc2
    rw [if_neg (by omega)]; simp only [Option.bind_some]; congr 2; omega
theorem Chain.split {cs ds : List (Int × Int × Int)} {L R : Int} {out : List Int} {L2 R2 : Int} {out2 : List Int} (h : Chain (cs ++ ds) L R out L2 R2 out2) : ∃ L1 R1 out1, Chain cs L R out L1 R1 out1 ∧ Chain ds L1 R1 out1 L2 R2 out2 := by
  induction cs generalizing L R out with
  | nil => exact ⟨_, _, _, .nil, h⟩
  | cons c cs ih =>
    cases h with
    | cons g f p k =>
      obtain ⟨_, _, _, a, b⟩ := ih k
      exact ⟨_, _, _, .cons g f p a, b⟩
/-- One choice of one, taken. -/
theorem take1 {b : List Int} (hb : Bytes b) (hbl : b.length < 1000000) {lo tot : Int} {cs : List (Int × Int × Int)} {L R : Int} {out : List Int} {L2 R2 : Int} {out2 : List Int} {c p : Int} (h : Chain ((lo, lo + 1, tot) :: cs) L R out L2 R2 out2)
    (hI : In b (V L2 out2) R2 out2.length) (hA : At b L out c p) : coder_Get.f c R b p tot = some (lo, 0) ∧ 0 ≤ lo ∧ lo < tot ∧ tot ≤ 65536 ∧
    ∃ L1 R1 out1 c1 p1, Ev (fun k => coder_Take.f k c R b p lo (lo + 1) tot) (c1, R1, b, p1, 0) ∧ At b L1 out1 c1 p1 ∧ Chain cs L1 R1 out1 L2 R2 out2 ∧ Good L1 R1 out1 ∧ 0 ≤ p1 := by
  cases h with
  | cons g f pu k =>
    obtain ⟨hc, c', p', hE, hA'⟩ := take_is hb hbl g f pu (k.in_ hI) hA
    exact ⟨get_is g.r0 g.r1 f hc (by rw [hA.1]; omega), f.a, by have := f.c; omega, f.d, _, _, _, c', p', hE, hA', k, pu.good, by rw [hA'.1]; omega⟩
/-- A number, taken. -/
theorem takeNum {b : List Int} (hb : Bytes b) (hbl : b.length < 1000000) {v n : Int} (h0 : 0 ≤ v) (h1 : v < n) (h2 : n ≤ 4294967296) {cs : List (Int × Int × Int)} {L R : Int} {out : List Int} {L2 R2 : Int} {out2 : List Int} {c p : Int} (hG : Good L R out) (hc : c < R) (hp : 0 ≤ p)
    (h : Chain (numC v n ++ cs) L R out L2 R2 out2) (hI : In b (V L2 out2) R2 out2.length) (hA : At b L out c p) :
    ∃ L1 R1 out1 c1 p1, Ev (fun k => coder_TakeNum.f k c R b p n) (c1, R1, b, p1, v, 0) ∧ At b L1 out1 c1 p1 ∧ Chain cs L1 R1 out1 L2 R2 out2 ∧ Good L1 R1 out1 ∧ c1 < R1 ∧ 0 ≤ p1 := by
  have hr1 := hG.r1
  have head : ∀ k, coder_TakeNum.f k c R b p n = coder_TakeNum.j0 k n false c R b p := by
    intro k
    unfold coder_TakeNum.f
    rw [good_is (by omega) hG.r0 hp]
    simp only [Option.bind_some]
    rw [if_neg (by omega), show decide (n > 4294967296) = false by simp; omega]
  have lt : ∀ {L1 R1 : Int} {out1 : List Int} {c1 p1 : Int}, Chain cs L1 R1 out1 L2 R2 out2 → At b L1 out1 c1 p1 → c1 < R1 := by
    intro L1 R1 out1 c1 p1 hk hA1
    have := (hk.in_ hI).take hb
    have := hA1.2
    omega
  by_cases hs : n ≤ 65536
  · have eh : coder_halves.f n = some (n, 1) := by
      unfold coder_halves.f; rw [if_pos hs, show wrap64 n = n by unfold wrap64; omega]
    rw [show numC v n = [(v, v + 1, n)] by unfold numC; rw [if_pos hs]] at h
    obtain ⟨hget, _, _, _, L1, R1, out1, c1, p1, hE, hA1, hk, hg1, hp1⟩ := take1 hb hbl h hI hA
    refine ⟨L1, R1, out1, c1, p1, ?_, hA1, hk, hg1, lt hk hA1, hp1⟩
    refine Ev.congr head (Ev.step (f := fun k => (coder_Take.f k c R b p v (v + 1) n).bind fun bt => some (bt.1, bt.2.1, bt.2.2.1, bt.2.2.2.1, v, 0)) (fun k => ?_) (Ev.bind hE (Ev.now _)))
    simp only [coder_TakeNum.j0]
    rw [if_neg (by simp), eh]
    simp only [Option.bind_some]
    rw [hget]
    simp only [Option.bind_some]
    rw [show wrap64 (v + 1) = v + 1 by unfold wrap64; omega, show mn (IntKind.u64.wrap v) (IntKind.u64.wrap (n - 1)) = v by rw [IntKind.wrap_u64, IntKind.wrap_u64]; unfold mn; split <;> omega]
    simp
  · have ea : wrap64 (wrap64 (IntKind.u64.wrap (Int.tdiv (IntKind.u64.wrap (n - 1)) 65536)) + 1) = (n - 1) / 65536 + 1 := by
      rw [show IntKind.u64.wrap (n - 1) = n - 1 by rw [IntKind.wrap_u64]; omega, Int.tdiv_eq_ediv_of_nonneg (by omega), show IntKind.u64.wrap ((n - 1) / 65536) = (n - 1) / 65536 by rw [IntKind.wrap_u64]; omega, show wrap64 ((n - 1) / 65536) = (n - 1) / 65536 by unfold wrap64; omega]
      unfold wrap64; omega
    have eh : coder_halves.f n = some ((n - 1) / 65536 + 1, 65536) := by unfold coder_halves.f; rw [if_neg hs, ea]
    rw [show numC v n = [(v / 65536, v / 65536 + 1, (n - 1) / 65536 + 1), (v % 65536, v % 65536 + 1, 65536)] by unfold numC; rw [if_neg hs]] at h
    obtain ⟨hget, _, _, _, L1, R1, out1, c1, p1, hE, hA1, hk, hg1, hp1⟩ := take1 hb hbl h hI hA
    obtain ⟨hget2, _, _, _, L3, R3, out3, c3, p3, hE3, hA3, hk3, hg3, hp3⟩ := take1 hb hbl hk hI hA1
    refine ⟨L3, R3, out3, c3, p3, ?_, hA3, hk3, hg3, lt hk3 hA3, hp3⟩
    refine Ev.congr head (Ev.step (f := fun k => (coder_Take.f k c R b p (v / 65536) (v / 65536 + 1) ((n - 1) / 65536 + 1)).bind fun bt => ((coder_Get.f bt.1 bt.2.1 bt.2.2.1 bt.2.2.2.1 65536).bind fun ct => ((coder_Take.f k bt.1 bt.2.1 bt.2.2.1 bt.2.2.2.1 ct.1 (wrap64 (ct.1 + 1)) 65536).bind fun dt => some (dt.1, dt.2.1, dt.2.2.1, dt.2.2.2.1, mn (IntKind.u64.wrap ((IntKind.u64.wrap ((IntKind.u64.wrap (v / 65536)) * (IntKind.u64.wrap 65536))) + (IntKind.u64.wrap ct.1))) (IntKind.u64.wrap (n - 1)), 0)))) (fun k => ?_) (Ev.bind hE ?_))
    · simp only [coder_TakeNum.j0]
      rw [if_neg (by simp), eh]
      simp only [Option.bind_some]
      rw [hget]
      simp only [Option.bind_some]
      rw [show wrap64 (v / 65536 + 1) = v / 65536 + 1 by unfold wrap64; omega]
      simp
    · simp only [hget2, Option.bind_some]
      rw [show wrap64 (v % 65536 + 1) = v % 65536 + 1 by unfold wrap64; omega]
      have em : mn (IntKind.u64.wrap ((IntKind.u64.wrap ((IntKind.u64.wrap (v / 65536)) * (IntKind.u64.wrap 65536))) + (IntKind.u64.wrap (v % 65536)))) (IntKind.u64.wrap (n - 1)) = v := by
        simp only [IntKind.wrap_u64]; unfold mn; split <;> omega
      rw [em]
      exact Ev.bind hE3 (Ev.now _)
end Go.Proofs.Ytgknajladloffaa.M
