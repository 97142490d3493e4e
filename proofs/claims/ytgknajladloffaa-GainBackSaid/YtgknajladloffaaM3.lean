/- How many bits choices take; the plain law of GainShort. -/
import Derived.Test.YtgknajladloffaaM2
import Derived.Test.YtgknajladloffaaDx35
import Derived.Test.YtgknajladloffaaDx42
namespace Go.Proofs.Ytgknajladloffaa.M
open Go.RowKit Go.Proofs.YtgknajladloffaaW.PrintWords Go.Proofs.Ytgknajladloffaa.Q
set_option linter.unusedVariables false
set_option linter.unusedSimpArgs false

def W : List (Int × Int × Int) → Int
  | [] => 1
  | c :: cs => (c.2.2 + 1) * W cs
theorem W_append (a b : List (Int × Int × Int)) : W (a ++ b) = W a * W b := by
  induction a with
  | nil => simp [W]
  | cons c a ih => simp only [List.cons_append, W, ih, Int.mul_assoc]
theorem left_weight {R lo hi tot : Int} (h : Fair lo hi tot) (r0 : 16777216 ≤ R) (ht : tot ≤ 256) : R ≤ left R lo hi tot * (tot + 1) := by
  have hl := (left_range h r0).1
  have h0 := h.a; have h1 := h.b; have h2 := h.c
  have ht0 : 0 < tot := by omega
  have q : 65536 ≤ R / tot := by rw [Int.le_ediv_iff_mul_le ht0]; omega
  have hm := Int.emod_add_mul_ediv R tot
  have hlt := Int.emod_lt_of_pos R ht0
  have h3 : R / tot * (tot + 1) ≤ left R lo hi tot * (tot + 1) := Int.mul_le_mul_of_nonneg_right hl (by omega)
  have h4 : R / tot * (tot + 1) = tot * (R / tot) + R / tot := by rw [Int.mul_add, Int.mul_comm]; omega
  omega
theorem W_pos {cs : List (Int × Int × Int)} (h : ∀ c ∈ cs, 0 < c.2.2) : 0 < W cs := by
  induction cs with
  | nil => simp [W]
  | cons c cs ih => exact Int.mul_pos (by have := h c (by simp); omega) (ih (fun x hx => h x (by simp [hx])))
theorem chain_bits {cs : List (Int × Int × Int)} {L R : Int} {out : List Int} {L1 R1 : Int} {out1 : List Int} (h : Chain cs L R out L1 R1 out1) (ht : ∀ c ∈ cs, c.2.2 ≤ 256) :
    R * 256 ^ out1.length ≤ R1 * W cs * 256 ^ out.length := by
  induction h with
  | nil => simp [W]
  | @cons lo hi tot cs L R out L1 R1 out1 L2 R2 out2 g f p c ih =>
    have ih := ih (fun x hx => ht x (by simp [hx]))
    obtain ⟨s, hs, hR, hl, hV⟩ := p.step
    have hw := left_weight f g.r0 (ht (lo, hi, tot) (by simp))
    have htot : 0 < tot + 1 := by have := f.a; have := f.b; have := f.c; omega
    have p1 := p256 out.length; have p2 := p256 out1.length; have p3 := p256 out2.length; have p4 := p256 s
    have e1 : (256 : Int) ^ out1.length = 256 ^ out.length * 256 ^ s := by rw [hl, Int.pow_add]
    -- R * 256^out1 ≤ R1 * (tot+1) * 256^out
    have a1 : R * 256 ^ out1.length ≤ R1 * (tot + 1) * 256 ^ out.length := by
      have : R * (256 ^ out.length * 256 ^ s) ≤ (left R lo hi tot * (tot + 1)) * (256 ^ out.length * 256 ^ s) := Int.mul_le_mul_of_nonneg_right hw (Int.le_of_lt (Int.mul_pos p1 p4))
      rw [e1, hR]
      have e2 : left R lo hi tot * (tot + 1) * (256 ^ out.length * 256 ^ s) = left R lo hi tot * 256 ^ s * (tot + 1) * 256 ^ out.length := by
        simp only [Int.mul_assoc, Int.mul_comm, Int.mul_left_comm]
      omega
    have a2 : R * 256 ^ out1.length * 256 ^ out2.length ≤ R1 * (tot + 1) * 256 ^ out.length * 256 ^ out2.length := Int.mul_le_mul_of_nonneg_right a1 (Int.le_of_lt p3)
    have a3 : (R1 * 256 ^ out2.length) * ((tot + 1) * 256 ^ out.length) ≤ (R2 * W cs * 256 ^ out1.length) * ((tot + 1) * 256 ^ out.length) := Int.mul_le_mul_of_nonneg_right ih (Int.le_of_lt (Int.mul_pos htot p1))
    have e3 : R1 * (tot + 1) * 256 ^ out.length * 256 ^ out2.length = (R1 * 256 ^ out2.length) * ((tot + 1) * 256 ^ out.length) := by simp only [Int.mul_assoc, Int.mul_comm, Int.mul_left_comm]
    have e4 : (R2 * W cs * 256 ^ out1.length) * ((tot + 1) * 256 ^ out.length) = (R2 * W ((lo, hi, tot) :: cs) * 256 ^ out.length) * 256 ^ out1.length := by simp only [W, Int.mul_assoc, Int.mul_comm, Int.mul_left_comm]
    have e5 : R * 256 ^ out1.length * 256 ^ out2.length = (R * 256 ^ out2.length) * 256 ^ out1.length := by simp only [Int.mul_assoc, Int.mul_comm, Int.mul_left_comm]
    exact Int.le_of_mul_le_mul_right (by omega : (R * 256 ^ out2.length) * 256 ^ out1.length ≤ (R2 * W ((lo, hi, tot) :: cs) * 256 ^ out.length) * 256 ^ out1.length) p2
theorem numC45 (v : Int) : numC v 45 = [(v, v + 1, 45)] := by unfold numC; rw [if_pos (by omega)]
theorem gainC_W (g a : Int) (i : Bool) : (∀ c ∈ gainC g a i, c.2.2 ≤ 256) ∧ (∀ c ∈ gainC g a i, 0 < c.2.2) ∧ W (gainC g a i) ≤ (if i = true then 64 else 512) := by
  unfold gainC; rw [numC45]
  split
  · simp [W]
  · split <;> simp [W]
theorem gainsC_W (g a : List Int) (i : Bool) : ∀ d : Nat, (∀ c ∈ gainsC g a i d, c.2.2 ≤ 256) ∧ (∀ c ∈ gainsC g a i d, 0 < c.2.2) ∧ W (gainsC g a i d) ≤ (if i = true then 64 else 512) ^ d
  | 0 => by simp [gainsC, W]
  | d + 1 => by
    obtain ⟨h1, h2, h3⟩ := gainC_W (rd g ((4 - d : Nat) : Int)) (if i = true then 0 else rd a ((4 - d : Nat) : Int)) i
    obtain ⟨k1, k2, k3⟩ := gainsC_W g a i d
    refine ⟨fun c hc => ?_, fun c hc => ?_, ?_⟩
    · rcases List.mem_append.mp hc with h | h
      · exact h1 c h
      · exact k1 c h
    · rcases List.mem_append.mp hc with h | h
      · exact h2 c h
      · exact k2 c h
    · simp only [gainsC, W_append, Int.pow_succ]
      rw [Int.mul_comm]
      have p := W_pos h2
      exact Int.mul_le_mul k3 h3 (Int.le_of_lt p) (Int.pow_nonneg (by split <;> omega))
def mostN (i : Bool) : Nat := if i = true then 30 else 45
theorem gains_bits {g a : List Int} {i : Bool} {L R : Int} {out : List Int} {L1 R1 : Int} {out1 : List Int} {room : Nat} (hg : Good L1 R1 out1) (h : Chain (gainsC g a i 5) L R out L1 R1 out1) (hi : 4294967295 * 256 ^ out.length ≤ R * 2 ^ room) :
    4294967295 * 256 ^ out1.length ≤ R1 * 2 ^ (room + mostN i) := by
  obtain ⟨h1, h2, h3⟩ := gainsC_W g a i 5
  have hb := chain_bits h h1
  have hW : W (gainsC g a i 5) ≤ 2 ^ mostN i := by
    cases i with
    | true => simpa [mostN] using h3
    | false => simpa [mostN] using h3
  have p1 := p256 out.length; have p2 := p256 out1.length
  have p3 : (0 : Int) < 2 ^ room := Int.pow_pos (by omega)
  have r1 := hg.r0
  have a1 : 4294967295 * 256 ^ out.length * 256 ^ out1.length ≤ R * 2 ^ room * 256 ^ out1.length := Int.mul_le_mul_of_nonneg_right hi (Int.le_of_lt p2)
  have a2 : R * 256 ^ out1.length * 2 ^ room ≤ R1 * W (gainsC g a i 5) * 256 ^ out.length * 2 ^ room := Int.mul_le_mul_of_nonneg_right hb (Int.le_of_lt p3)
  have a3 : W (gainsC g a i 5) * (R1 * 256 ^ out.length * 2 ^ room) ≤ 2 ^ mostN i * (R1 * 256 ^ out.length * 2 ^ room) := Int.mul_le_mul_of_nonneg_right hW (Int.le_of_lt (Int.mul_pos (Int.mul_pos (by omega) p1) p3))
  have e1 : R * 2 ^ room * 256 ^ out1.length = R * 256 ^ out1.length * 2 ^ room := by simp only [Int.mul_assoc, Int.mul_comm, Int.mul_left_comm]
  have e2 : R1 * W (gainsC g a i 5) * 256 ^ out.length * 2 ^ room = W (gainsC g a i 5) * (R1 * 256 ^ out.length * 2 ^ room) := by simp only [Int.mul_assoc, Int.mul_comm, Int.mul_left_comm]
  have e3 : 2 ^ mostN i * (R1 * 256 ^ out.length * 2 ^ room) = R1 * 2 ^ (room + mostN i) * 256 ^ out.length := by rw [Int.pow_add]; simp only [Int.mul_assoc, Int.mul_comm, Int.mul_left_comm]
  have e4 : (4294967295 : Int) * 256 ^ out.length * 256 ^ out1.length = 4294967295 * 256 ^ out1.length * 256 ^ out.length := Int.mul_right_comm _ _ _
  have a4 : (4294967295 : Int) * 256 ^ out1.length * 256 ^ out.length ≤ R1 * 2 ^ (room + mostN i) * 256 ^ out.length := by omega
  exact Int.le_of_mul_le_mul_right a4 p1
theorem bits_len {R : Int} {n room : Nat} (h1 : R ≤ 4294967295) (h : 4294967295 * 256 ^ n ≤ R * 2 ^ room) : 8 * n ≤ room := by
  have p3 : (0 : Int) < 2 ^ room := Int.pow_pos (by omega)
  have a1 : R * 2 ^ room ≤ 4294967295 * 2 ^ room := Int.mul_le_mul_of_nonneg_right h1 (Int.le_of_lt p3)
  have a2 : (256 : Int) ^ n ≤ 2 ^ room := Int.le_of_mul_le_mul_left (by omega : (4294967295 : Int) * 256 ^ n ≤ 4294967295 * 2 ^ room) (by omega)
  have e : (256 : Int) ^ n = ((2 ^ (8 * n) : Nat) : Int) := by rw [Nat.pow_mul, Int.natCast_pow]; rfl
  have e2 : (2 : Int) ^ room = ((2 ^ room : Nat) : Int) := (Int.natCast_pow 2 room).symm
  rw [e, e2] at a2
  exact (Nat.pow_le_pow_iff_right (by omega)).mp (Int.ofNat_le.mp a2)
theorem knows11 : Ev (fun k => psalterylaw11_knows.f k) true := Ev.of (fun k => psalterylaw11_knows.mono k) (k := 40) (by decide +kernel)
theorem most_is (i : Bool) : gain_Most.f i = some ((mostN i : Nat) : Int) := by cases i <;> rfl
theorem short_end {l : List S58} {a : List Int} {room i L R : Int} {out : List Int} (h0 : 0 ≤ room) (h1 : room ≤ 1000) (h : 8 * (out.length : Int) ≤ room) : Ev (fun k => psalterylaw11_GainShort.j1 k l a room i false L R out) true := by
  refine Ev.step (f := fun k => (psalterylaw11_knows.f k).bind fun t => some t) (fun k => ?_) (Ev.bind knows11 (Ev.now _))
  simp only [psalterylaw11_GainShort.j1]
  rw [if_neg (by simp), if_pos (by unfold wrap64; omega)]
theorem short_loop (l : List S58) (hl : ∀ x ∈ l, x.f0.length ≤ 9223372036854775807) : ∀ (d i room : Nat) (a : List Int) (L R : Int) (out : List Int), i + d = 20 → room ≤ 45 * i → RightG a → Good L R out → 4294967295 * 256 ^ out.length ≤ R * 2 ^ room →
    Ev (fun k => psalterylaw11_GainShort.l0 k l a (room : Int) (i : Int) L R out) true := by
  intro d
  induction d with
  | zero =>
    intro i room a L R out hi hr ha hg hb
    have hn := bits_len hg.r1 hb
    have fin := short_end (l := l) (a := a) (room := (room : Int)) (i := (i : Int)) (L := L) (R := R) (out := out) (by omega) (by omega) (by omega)
    refine Ev.step (f := fun k => psalterylaw11_GainShort.j1 k l a (room : Int) (i : Int) false L R out) (fun k => ?_) fin
    simp only [psalterylaw11_GainShort.l0]
    split
    · rw [show decide ((i : Int) < 20) = false by simp; omega]
    · rfl
  | succ d ih =>
    intro i room a L R out hi hr ha hg hb
    have hn := bits_len hg.r1 hb
    by_cases hlt : i < l.length
    · have hx : rd_T58 l (i : Int) = l[i] := by unfold rd_T58; rw [List.getD_eq_getElem?_getD, Int.toNat_natCast, List.getElem?_eq_getElem hlt]; rfl
      have ei : wrap64 ((i : Int) + 1) = ((i + 1 : Nat) : Int) := by unfold wrap64; omega
      refine Ev.step (f := fun k => psalterylaw11_GainShort.j1 k l a (room : Int) (i : Int) true L R out) (fun k => ?_) (Ev.step (f := fun k => (gain_Put.f k L R out l[i].f0 a l[i].f1).bind fun bt => if bt.2.2.2 = 0 then psalterylaw11_GainShort.l0 k l l[i].f0 (wrap64 ((room : Int) + (mostN l[i].f1 : Nat))) ((i + 1 : Nat) : Int) bt.1 bt.2.1 bt.2.2.1 else psalterylaw11_GainShort.l0 k l a (room : Int) ((i + 1 : Nat) : Int) L R out) (fun k => ?_) ?_)
      · simp only [psalterylaw11_GainShort.l0]
        rw [if_pos (by omega), show decide ((i : Int) < 20) = true by simp; omega]
      · simp only [psalterylaw11_GainShort.j1]
        rw [if_pos trivial, if_pos (by omega), if_pos (by omega), hx, most_is, ei]
        rfl
      · by_cases hG : RightG l[i].f0
        · obtain ⟨L1, R1, o1, hp, hC⟩ := gains_put (intra := l[i].f1) hg hG (fun _ => ha) (by omega)
          have hg1 := hC.good hg
          have hm : mostN l[i].f1 ≤ 45 := by unfold mostN; split <;> omega
          refine Ev.bind hp ?_
          simp only [if_true]
          have er : wrap64 ((room : Int) + (mostN l[i].f1 : Nat)) = ((room + mostN l[i].f1 : Nat) : Int) := by unfold wrap64; omega
          rw [er]
          exact ih (i + 1) (room + mostN l[i].f1) l[i].f0 L1 R1 o1 (by omega) (by omega) hG hg1 (gains_bits hg1 hC hb)
        · have hp := gains_bad (intra := l[i].f1) hg (fun h => hG h.1) (by omega) (hl _ (List.getElem_mem hlt)) (Nat.le_trans (Nat.le_of_eq ha.1) (by decide))
          refine Ev.bind hp ?_
          refine Ev.congr (f := fun k => psalterylaw11_GainShort.l0 k l a (room : Int) ((i + 1 : Nat) : Int) L R out) (fun k => by simp) ?_
          exact ih (i + 1) room a L R out (by omega) (by omega) ha hg hb
    · have fin := short_end (l := l) (a := a) (room := (room : Int)) (i := (i : Int)) (L := L) (R := R) (out := out) (by omega) (by omega) (by omega)
      refine Ev.step (f := fun k => psalterylaw11_GainShort.j1 k l a (room : Int) (i : Int) false L R out) (fun k => ?_) fin
      simp only [psalterylaw11_GainShort.l0]
      rw [if_neg (by omega)]
/-- The plain law. -/
theorem gainShort (l : List S58) (hl : ∀ x ∈ l, x.f0.length ≤ 9223372036854775807) : ∃ k, psalterylaw11_GainShort.f k l = some true := by
  refine Ev.rounds (g := fun k => psalterylaw11_GainShort.f k l) ?_
  unfold psalterylaw11_GainShort.f coder_New.f
  simp only [Option.bind_some]
  exact short_loop l hl 20 0 0 [0, 0, 0, 0, 0] 0 4294967295 [] (by omega) (by omega) ⟨rfl, by simp⟩ Good.new (by simp)
end Go.Proofs.Ytgknajladloffaa.M
