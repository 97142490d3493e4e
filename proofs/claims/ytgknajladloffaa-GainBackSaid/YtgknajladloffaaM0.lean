/- Numbers in base 256: plain facts about lists of bytes. -/
import Derived.Test.YtgknajladloffaaProg
import Derived.WalkKit
import Derived.Laws.Bits64
import Derived.Laws.Bits64b
import Derived.Laws.BitsLemmas
import Derived.Test.YtgknajladloffaaUMore
namespace Go.Proofs.Ytgknajladloffaa.M
open Go.RowKit Go.Proofs.YtgknajladloffaaW.PrintWords
set_option linter.unusedVariables false
set_option linter.unusedSimpArgs false

/-- The number that bytes are, the highest one first. -/
def val : List Int → Int
  | [] => 0
  | b :: l => b * 256 ^ l.length + val l
def Bytes (l : List Int) : Prop := ∀ b ∈ l, 0 ≤ b ∧ b ≤ 255
theorem p256 (n : Nat) : (0 : Int) < 256 ^ n := Int.pow_pos (by omega)
theorem p256s (n : Nat) : (256 : Int) ^ (n + 1) = 256 ^ n * 256 := Int.pow_succ _ _
theorem val_append (a b : List Int) : val (a ++ b) = val a * 256 ^ b.length + val b := by
  induction a with
  | nil => simp [val]
  | cons x a ih =>
    simp only [List.cons_append, val, ih, List.length_append]
    rw [Int.pow_add, Int.add_mul, Int.mul_assoc, Int.add_assoc]
theorem val_snoc (a : List Int) (b : Int) : val (a ++ [b]) = val a * 256 + b := by
  rw [val_append]; simp [val]
theorem Bytes.nil : Bytes [] := fun b h => by simp at h
theorem Bytes.append {a b : List Int} (ha : Bytes a) (hb : Bytes b) : Bytes (a ++ b) := fun x h => by
  rcases List.mem_append.mp h with h | h
  · exact ha x h
  · exact hb x h
theorem Bytes.snoc {a : List Int} {b : Int} (ha : Bytes a) (h0 : 0 ≤ b) (h1 : b ≤ 255) : Bytes (a ++ [b]) :=
  ha.append (fun x h => by simp at h; subst h; exact ⟨h0, h1⟩)
theorem Bytes.left {a b : List Int} (h : Bytes (a ++ b)) : Bytes a := fun x hx => h x (List.mem_append_left _ hx)
theorem Bytes.right {a b : List Int} (h : Bytes (a ++ b)) : Bytes b := fun x hx => h x (List.mem_append_right _ hx)
theorem val_range {l : List Int} (h : Bytes l) : 0 ≤ val l ∧ val l < 256 ^ l.length := by
  induction l with
  | nil => simp [val]
  | cons x l ih =>
    have hx := h x (by simp)
    have hl := ih (fun b hb => h b (by simp [hb]))
    have hp := p256 l.length
    simp only [val, List.length_cons, p256s]
    have h1 : 0 ≤ x * 256 ^ l.length := Int.mul_nonneg hx.1 (by omega)
    have h2 : x * 256 ^ l.length ≤ 255 * 256 ^ l.length := Int.mul_le_mul_of_nonneg_right hx.2 (by omega)
    omega
/-- Two lists of bytes of one length that are one number are one. -/
theorem val_inj : ∀ {a b : List Int}, Bytes a → Bytes b → a.length = b.length → val a = val b → a = b
  | [], [], _, _, _, _ => rfl
  | x :: a, y :: b, ha, hb, hl, hv => by
    have hl' : a.length = b.length := by simpa using hl
    have ra := val_range (l := a) (fun z hz => ha z (by simp [hz]))
    have rb := val_range (l := b) (fun z hz => hb z (by simp [hz]))
    simp only [val, hl'] at hv
    rw [hl'] at ra
    have hp := p256 b.length
    have : x = y := by
      have h1 : (x - y) * 256 ^ b.length = val b - val a := by rw [Int.sub_mul]; omega
      rcases Int.lt_trichotomy x y with h | h | h
      · have : (x - y) * 256 ^ b.length ≤ (-1) * 256 ^ b.length := Int.mul_le_mul_of_nonneg_right (by omega) (by omega)
        omega
      · exact h
      · have : 1 * 256 ^ b.length ≤ (x - y) * 256 ^ b.length := Int.mul_le_mul_of_nonneg_right (by omega) (by omega)
        omega
    subst this
    rw [val_inj (fun z hz => ha z (by simp [hz])) (fun z hz => hb z (by simp [hz])) hl' (by omega)]
theorem exists_snoc {n : Nat} {l : List Int} (h : l.length = n + 1) : ∃ a b, l = a ++ [b] ∧ a.length = n := by
  refine ⟨l.dropLast, l.getLast (by intro e; simp [e] at h), (List.dropLast_concat_getLast _).symm, by simp [h]⟩
theorem mask32 (x : Int) (h0 : 0 ≤ x) (h1 : x < 18446744073709551616) : Go.bits .and .u64 x 4294967295 = x % 4294967296 := by
  obtain ⟨n, rfl⟩ := Int.eq_ofNat_of_zero_le h0
  have := bits_and_u64_nat n 4294967295 (by omega) (by omega)
  rw [show (4294967295 : Int) = ((4294967295 : Nat) : Int) from rfl, this]
  have h2 : n &&& 4294967295 = n % 4294967296 := Nat.and_two_pow_sub_one_eq_mod n 32
  rw [h2]; rfl
end Go.Proofs.Ytgknajladloffaa.M
