/- The range coder's encoder: what coder.Put answers, as numbers. -/
import Derived.Test.YtgknajladloffaaM0
import Derived.Test.YtgknajladloffaaDx5
namespace Go.Proofs.Ytgknajladloffaa.M
open Go.RowKit Go.Proofs.YtgknajladloffaaW.PrintWords Go.Proofs.Ytgknajladloffaa.Q
set_option linter.unusedVariables false
set_option linter.unusedSimpArgs false

/-- The number that an encoder is. -/
def V (L : Int) (out : List Int) : Int := val out * 4294967296 + L
/-- A right encoder, whose range ends within its bytes. -/
structure Good (L R : Int) (out : List Int) : Prop where
  l0 : 0 ≤ L
  l1 : L ≤ 4294967295
  r0 : 16777216 ≤ R
  r1 : R ≤ 4294967295
  by_ : Bytes out
  top : V L out + R ≤ 256 ^ out.length * 4294967296
theorem Good.new : Good 0 4294967295 [] := ⟨by omega, by omega, by omega, by omega, Bytes.nil, by simp [V, val]⟩
/-- What lies below a choice, and what is left of a range. -/
def below (R lo tot : Int) : Int := R / tot * lo
def left (R lo hi tot : Int) : Int := if hi = tot then R - R / tot * lo else R / tot * (hi - lo)
structure Fair (lo hi tot : Int) : Prop where
  a : 0 ≤ lo
  b : lo < hi
  c : hi ≤ tot
  d : tot ≤ 65536
theorem fair_yes {lo hi tot : Int} (h : Fair lo hi tot) : coder_fair.f lo hi tot = some true := by
  unfold coder_fair.f
  rw [if_pos h.a, if_pos h.b, if_pos h.c]; simp [h.d]
theorem fair_no {lo hi tot : Int} (h : ¬ Fair lo hi tot) : coder_fair.f lo hi tot = some false := by
  unfold coder_fair.f
  split
  · split
    · split
      · rename_i a b c
        have : ¬ tot ≤ 65536 := fun d => h ⟨a, b, c, d⟩
        simp [this]
      · rfl
    · rfl
  · rfl
theorem share {R lo hi tot : Int} (h : Fair lo hi tot) (r0 : 16777216 ≤ R) : 256 ≤ R / tot ∧ R / tot * tot ≤ R ∧ R / tot * lo ≤ R / tot * tot ∧ 0 ≤ R / tot * lo ∧ R / tot ≤ R / tot * (hi - lo) ∧ R / tot * (hi - lo) = R / tot * hi - R / tot * lo ∧ R / tot * hi ≤ R / tot * tot ∧ R / tot ≤ R / tot * hi - R / tot * lo := by
  obtain ⟨a, b, c, d⟩ := h
  have ht : 0 < tot := by omega
  have q : 256 ≤ R / tot := by
    rw [Int.le_ediv_iff_mul_le ht]; omega
  have h1 : R / tot * tot ≤ R := Int.ediv_mul_le _ (by omega)
  have h2 : R / tot * lo ≤ R / tot * tot := Int.mul_le_mul_of_nonneg_left (by omega) (by omega)
  have h3 : 0 ≤ R / tot * lo := Int.mul_nonneg (by omega) a
  have h4 : R / tot * 1 ≤ R / tot * (hi - lo) := Int.mul_le_mul_of_nonneg_left (by omega) (by omega)
  have h5 : R / tot * (hi - lo) = R / tot * hi - R / tot * lo := Int.mul_sub _ _ _
  have h6 : R / tot * hi ≤ R / tot * tot := Int.mul_le_mul_of_nonneg_left (by omega) (by omega)
  refine ⟨q, h1, h2, h3, by omega, h5, h6, by omega⟩
theorem left_range {R lo hi tot : Int} (h : Fair lo hi tot) (r0 : 16777216 ≤ R) : R / tot ≤ left R lo hi tot ∧ 256 ≤ left R lo hi tot ∧ below R lo tot + left R lo hi tot ≤ R ∧ 0 ≤ below R lo tot := by
  obtain ⟨q, h1, h2, h3, h4, h5, h6, h7⟩ := share h r0
  unfold left below
  split
  · rename_i e; subst e; omega
  · omega
theorem part_is {R lo hi tot : Int} (h : Fair lo hi tot) (r0 : 16777216 ≤ R) (r1 : R ≤ 4294967295) : coder_part.f R lo hi tot = some (left R lo hi tot, below R lo tot) := by
  obtain ⟨q, h1, h2, h3, h4, h5, h6, h7⟩ := share h r0
  obtain ⟨a, b, c, d⟩ := h
  unfold coder_part.f left below
  have e1 : tot % 4294967296 = tot := by omega
  have e2 : Int.tdiv R tot = R / tot := Int.tdiv_eq_ediv_of_nonneg (by omega)
  have hq : R / tot ≤ R := Int.ediv_le_self _ (by omega)
  have e3 : (R / tot) % 4294967296 = R / tot := by omega
  have e4 : IntKind.u64.wrap lo = lo := by rw [IntKind.wrap_u64]; omega
  have e5 : IntKind.u64.wrap (R / tot * lo) = R / tot * lo := by rw [IntKind.wrap_u64]; omega
  have e6 : wrap64 (hi - lo) = hi - lo := by unfold wrap64; omega
  rw [e1, e2, e3, e4, e5, e6, if_neg (by omega)]
  split
  · rename_i e; subst e
    congr 2; omega
  · congr 2
    rw [show (hi - lo) % 4294967296 = hi - lo by omega]; omega
theorem own_is {L R : Int} {out : List Int} (h : Good L R out) (hn : out.length ≤ 4000) : coder_own.f L R out = some (L, R, out) := by
  unfold coder_own.f coder_RightEnc.f
  rw [if_pos h.l1, if_pos h.r0]
  have : ((out.length : Int) ≤ 4000) := by omega
  simp only [this, decide_true, Option.bind_some, if_true, List.length_nil, List.nil_append]
  rw [if_pos (by omega)]
/-- One is carried. -/
theorem carry_is : ∀ (m : Nat) (p q : List Int), p.length = m → (p ++ q).length < 9223372036854775807 → Bytes p → val p + 1 < 256 ^ m → ∃ p', p'.length = m ∧ Bytes p' ∧ val p' = val p + 1 ∧ ∀ k, m < k → coder_carry.l0 k (p ++ q) ((m : Int) - 1) = some (p' ++ q) := by
  intro m
  induction m with
  | zero =>
    intro p q hp _ hb hv
    obtain rfl : p = [] := List.length_eq_zero_iff.mp hp
    simp [val] at hv
  | succ m ih =>
    intro p q hp hlen hb hv
    obtain ⟨p0, b, rfl, hp0⟩ := exists_snoc hp
    have hb0 := hb.left
    have hbb := hb b (by simp)
    rw [val_snoc] at hv
    have hget : (p0 ++ [b] ++ q)[m]? = some b := by simp [hp0]
    have hset : (p0 ++ [b] ++ q).set m ((b + 1) % 256) = p0 ++ ((b + 1) % 256 :: q) := by
      rw [List.append_assoc, List.set_append_right _ _ (by omega), hp0]; simp
    have hrd : rd (p0 ++ [b] ++ q) (m : Int) = b := by unfold rd; rw [List.getD_eq_getElem?_getD, Int.toNat_natCast, hget]; rfl
    have hrd2 : rd (p0 ++ ((b + 1) % 256 :: q)) (m : Int) = (b + 1) % 256 := by unfold rd; rw [List.getD_eq_getElem?_getD, Int.toNat_natCast]; simp [← hp0]
    have hstep : ∀ k, coder_carry.l0 (k + 1) (p0 ++ [b] ++ q) (((m + 1 : Nat) : Int) - 1) = if (b + 1) % 256 = 0 then coder_carry.l0 k (p0 ++ ((b + 1) % 256 :: q)) (wrap64 ((m : Int) - 1)) else some (p0 ++ ((b + 1) % 256 :: q)) := by
      intro k
      rw [show (((m + 1 : Nat) : Int) - 1) = (m : Int) by omega]
      simp only [coder_carry.l0]
      rw [if_pos (by omega), if_pos (by omega), if_pos (by simp; omega), hrd]
      simp only [Int.toNat_natCast, hset, Option.bind_some, hrd2]
    by_cases h255 : b = 255
    · subst h255
      have hv0 : val p0 + 1 < 256 ^ m := by rw [p256s] at hv; omega
      obtain ⟨p', hl', hb', hv', hk'⟩ := ih p0 (0 :: q) hp0 (by simp at hlen ⊢; omega) hb0 hv0
      refine ⟨p' ++ [0], by simp [hl'], hb'.snoc (by omega) (by omega), by rw [val_snoc, val_snoc, hv']; omega, ?_⟩
      intro k hk
      obtain ⟨k, rfl⟩ : ∃ j, k = j + 1 := ⟨k - 1, by omega⟩
      rw [hstep, if_pos (by omega), show ((255 + 1 : Int) % 256) = 0 from rfl, show wrap64 ((m : Int) - 1) = (m : Int) - 1 by unfold wrap64; simp at hlen; omega, hk' k (by omega)]
      simp
    · refine ⟨p0 ++ [b + 1], by simp [hp0], hb0.snoc (by omega) (by omega), by rw [val_snoc, val_snoc]; omega, ?_⟩
      intro k hk
      obtain ⟨k, rfl⟩ : ∃ j, k = j + 1 := ⟨k - 1, by omega⟩
      rw [hstep, if_neg (by omega), show (b + 1) % 256 = b + 1 by omega]
      simp
/-- A range is made wide again. -/
theorem widen : ∀ (n : Nat) (g L R0 : Int) (out : List Int), 16777216 ≤ g * 256 ^ n → 0 < g → g ≤ 4294967295 → 0 ≤ L → L ≤ 4294967295 → Bytes out → out.length + n < 140737488355328 →
    ∃ (s : Nat) (L' : Int) (out' : List Int), s ≤ n ∧ (∀ k, n < k → coder_Put.l0 k g L R0 out = some (L', g * 256 ^ s, out', 0)) ∧ 16777216 ≤ g * 256 ^ s ∧ g * 256 ^ s ≤ 4294967295 ∧ 0 ≤ L' ∧ L' ≤ 4294967295 ∧ Bytes out' ∧ out'.length = out.length + s ∧ V L' out' = V L out * 256 ^ s := by
  intro n
  induction n with
  | zero =>
    intro g L R0 out h1 h2 h3 h4 h5 h6 h7
    refine ⟨0, L, out, by omega, ?_, by simpa using h1, by simpa using h3, h4, h5, h6, rfl, by simp⟩
    intro k hk
    obtain ⟨k, rfl⟩ : ∃ j, k = j + 1 := ⟨k - 1, by omega⟩
    simp only [coder_Put.l0]
    rw [if_neg (by simp at h1; omega)]; simp
  | succ n ih =>
    intro g L R0 out h1 h2 h3 h4 h5 h6 h7
    by_cases hg : g < 16777216
    · have e1 : (g * 256) % 4294967296 = g * 256 := by omega
      have e2 : IntKind.u64.wrap (L * 256) = L * 256 := by rw [IntKind.wrap_u64]; omega
      have e3 : Go.bits .and .u64 (IntKind.u64.wrap (L * 256)) 4294967295 = (L * 256) % 4294967296 := by rw [e2]; exact mask32 _ (by omega) (by omega)
      obtain ⟨s, L', out', hs, hk, a1, a2, a3, a4, a5, a6, a7⟩ := ih (g * 256) ((L * 256) % 4294967296) R0 (out ++ [(L / 16777216) % 256]) (by rw [p256s] at h1; rw [Int.mul_assoc, Int.mul_comm 256]; exact h1) (by omega) (by omega) (by omega) (by omega) (h6.snoc (by omega) (by omega)) (by simp; omega)
      have e4 : ∀ x : Int, x * 256 * 256 ^ s = x * 256 ^ (s + 1) := fun x => by rw [p256s, Int.mul_assoc, Int.mul_comm 256]
      refine ⟨s + 1, L', out', by omega, ?_, by rw [← e4]; exact a1, by rw [← e4]; exact a2, a3, a4, a5, by rw [a6]; simp; omega, ?_⟩
      · intro k hk'
        obtain ⟨k, rfl⟩ : ∃ j, k = j + 1 := ⟨k - 1, by omega⟩
        simp only [coder_Put.l0]
        rw [if_pos hg, if_pos (by omega), e1, e3, hk k (by omega), e4]
      · rw [a7, ← e4]
        congr 1
        unfold V; rw [val_snoc]; omega
    · refine ⟨0, L, out, by omega, ?_, by simp; omega, by simpa using h3, h4, h5, h6, rfl, by simp⟩
      intro k hk
      obtain ⟨k, rfl⟩ : ∃ j, k = j + 1 := ⟨k - 1, by omega⟩
      simp only [coder_Put.l0]
      rw [if_neg hg]; simp
/-- What a choice makes of an encoder. -/
structure Puts (L R : Int) (out : List Int) (lo hi tot : Int) (L' R' : Int) (out' : List Int) : Prop where
  good : Good L' R' out'
  step : ∃ s : Nat, s ≤ 2 ∧ R' = left R lo hi tot * 256 ^ s ∧ out'.length = out.length + s ∧ V L' out' = (V L out + below R lo tot) * 256 ^ s
theorem put_is {L R : Int} {out : List Int} {lo hi tot : Int} (h : Good L R out) (hf : Fair lo hi tot) (hn : out.length < 3996) :
    ∃ L' R' out', Ev (fun k => coder_Put.f k L R out lo hi tot) (L', R', out', 0) ∧ Puts L R out lo hi tot L' R' out' := by
  obtain ⟨q, hl, hbl, hb0⟩ := left_range hf h.r0
  have hp := part_is hf h.r0 h.r1
  have hr1 := h.r1
  have hl0 := h.l0
  have hl1 := h.l1
  have htop := h.top
  have ew : IntKind.u64.wrap (L + below R lo tot) = L + below R lo tot := by rw [IntKind.wrap_u64]; omega
  have hV : ∀ L2 out2, V L2 out2 = V L out + below R lo tot → out2.length = out.length → ∀ s : Nat, (V L2 out2 + left R lo hi tot) * 256 ^ s ≤ 256 ^ (out.length + s) * 4294967296 := by
    intro L2 out2 e el s
    rw [Int.pow_add, Int.mul_assoc, Int.mul_comm (256 ^ s), ← Int.mul_assoc]
    exact Int.mul_le_mul_of_nonneg_right (by omega) (Int.le_of_lt (p256 s))
  have fin : ∀ (L2 : Int) (out2 : List Int), 0 ≤ L2 → L2 ≤ 4294967295 → Bytes out2 → out2.length = out.length → V L2 out2 = V L out + below R lo tot →
      ∃ L' R' out', (∀ k, 3 < k → coder_Put.j0 k (left R lo hi tot) L2 R out2 = some (L', R', out', 0)) ∧ Puts L R out lo hi tot L' R' out' := by
    intro L2 out2 a b c d e
    obtain ⟨s, L', out', hs, hk, a1, a2, a3, a4, a5, a6, a7⟩ := widen 2 (left R lo hi tot) L2 R out2 (by omega) (by omega) (by omega) a b c (by omega)
    refine ⟨L', left R lo hi tot * 256 ^ s, out', ?_, ⟨a3, a4, a1, a2, a5, ?_⟩, s, hs, rfl, by omega, by rw [a7, e]⟩
    · intro k hk'
      obtain ⟨k, rfl⟩ : ∃ j, k = j + 1 := ⟨k - 1, by omega⟩
      simp only [coder_Put.j0]
      exact hk k (by omega)
    · rw [a7, ← Int.add_mul, a6, d]
      exact hV _ _ e d s
  have head : ∀ k, coder_Put.f k L R out lo hi tot = if L + below R lo tot > 4294967295 then (coder_carry.f k out).bind fun t => coder_Put.j0 k (left R lo hi tot) (Go.bits .and .u64 (L + below R lo tot) 4294967295) R t else coder_Put.j0 k (left R lo hi tot) (L + below R lo tot) R out := by
    intro k
    unfold coder_Put.f
    rw [own_is h (by omega)]
    simp only [Option.bind_some]
    rw [fair_yes hf]
    simp only [Option.bind_some, if_true]
    rw [if_neg (by omega), hp]
    simp only [Option.bind_some, ew]
  by_cases hc : L + below R lo tot > 4294967295
  · have hv : val out + 1 < 256 ^ out.length := by
      have : (val out + 1) * 4294967296 < 256 ^ out.length * 4294967296 := by unfold V at htop; omega
      exact Int.lt_of_mul_lt_mul_right this (by omega)
    obtain ⟨p', hl', hb', hv', hk'⟩ := carry_is out.length out [] rfl (by simp; omega) h.by_ hv
    simp only [List.append_nil] at hk'
    have em : Go.bits .and .u64 (L + below R lo tot) 4294967295 = L + below R lo tot - 4294967296 := by rw [mask32 _ (by omega) (by omega)]; omega
    obtain ⟨L', R', out', hj, hP⟩ := fin (L + below R lo tot - 4294967296) p' (by omega) (by omega) hb' hl' (by unfold V; rw [hv']; omega)
    refine ⟨L', R', out', ⟨out.length + 4, fun k hk => ?_⟩, hP⟩
    simp only [head, if_pos hc]
    unfold coder_carry.f
    rw [show wrap64 ((out.length : Int) - 1) = (out.length : Int) - 1 by unfold wrap64; omega, hk' k (by omega), em]
    exact hj k (by omega)
  · obtain ⟨L', R', out', hj, hP⟩ := fin (L + below R lo tot) out (by omega) (by omega) h.by_ rfl (by unfold V; omega)
    refine ⟨L', R', out', ⟨4, fun k hk => ?_⟩, hP⟩
    simp only [head, if_neg hc]
    exact hj k (by omega)
theorem put_unfair {L R : Int} {out : List Int} {lo hi tot : Int} (h : Good L R out) (hf : ¬ Fair lo hi tot) (hn : out.length ≤ 4000) (k : Nat) : coder_Put.f k L R out lo hi tot = some (L, R, out, 1) := by
  unfold coder_Put.f
  rw [own_is h hn]
  simp only [Option.bind_some]
  rw [fair_no hf]
  simp
end Go.Proofs.Ytgknajladloffaa.M
