import Derived.Test.YtgknajladloffaaUMore




/- Short words for the closers of the walks: each is a proof that is found where it stands. -/
namespace Go.Proofs.YtgknajladloffaaW.PrintWords
theorem Am {p : Prop} (h : p) : Aside0 p := ⟨h⟩
theorem bK {a p : Prop} (h : a) (t : a → p := by intro h; (with_reducible repeat (first | refine blk_drewN ?_ _ | refine blk_drew ?_ | refine blk_alloc ?_ _)); exact h) : p := t h
theorem bB {a p : Prop} (h : a) (t : a → p := by intro h; repeat (first | (with_reducible first | exact h | apply below_alloc | apply pw_below_drewN | apply below_drew1 | refine below_set ?_ (Aside0.out (by assumption))) | exact h)) : p := t h
theorem kR {a p : Prop} (h : a) (t : a → p := by intro h; (with_reducible repeat (first | apply Kd.R_alloc | apply Kd.R_drewN | apply Kd.R_drew)); exact h) : p := t h
theorem kV {a p : Prop} (h : a) (t : a → p := by intro h; (with_reducible repeat (first | apply Kd.V_alloc | apply Kd.V_drewN | apply Kd.V_drew)); exact h) : p := t h
theorem kS {a p : Prop} (h : a) (t : a → p := by intro h; (with_reducible repeat (first | apply Kd.S_alloc | apply Kd.S_drewN | apply Kd.S_drew)); exact h) : p := t h
theorem kN {a p : Prop} (h : a) (t : a → p := by intro h; (with_reducible repeat (first | apply Kd.N_alloc | apply Kd.N_drewN | apply Kd.N_drew)); exact h) : p := t h
theorem kC {a p : Prop} (h : a) (t : a → p := by intro h; repeat (first | (with_reducible exact h) | (with_reducible refine Kd.C_alloc ?_ _) | (with_reducible refine Kd.C_drewN ?_ _) | (with_reducible refine Kd.C_drew ?_) | exact h)) : p := t h
theorem ps_ {α : Type} {a b : α} (h : a = b := by simp only [Act.put, List.setIfInBounds_toArray, List.set_cons_zero, List.set_cons_succ, i64_w, i32_w]; rfl) : a = b := h
theorem pa_ {α : Type} {a b : α} (h : a = b := by simp only [putAll, Act.put, List.setIfInBounds_toArray, List.set_cons_zero, List.set_cons_succ]) : a = b := h
theorem as_ {p : Prop} (t : p := by first | (with_reducible assumption) | assumption) : p := t
theorem rs_ {p : Prop} (t : p := by first | rfl | (simp; done) | (simp [*]; done)) : p := t
theorem ls_ {p : Prop} (t : p := by (try simp only [List.map_toArray, List.map_cons, List.map_nil]); first | done | rfl | (simp only [List.length_drop, List.length_take]; rfl)) : p := t
theorem RVor {α : Type} {d : Kd α} {e : Nat} {W : World} (base : Nat) {b' : Nat} {p m r : Nat → Prop} {v : Value} {xs : List α} (h : d.R e W base (fun k => m k ∧ r k) v xs) : Kd.V d e W b' (fun k => (p k ∨ m k) ∧ r k) v xs :=
  Kd.V_mono (base := b') (Kd.R_V h) (fun _ hk => ⟨.inr hk.1, hk.2⟩)
theorem RVor1 {α : Type} {d : Kd α} {e : Nat} {W : World} (base : Nat) {b' : Nat} {p m : Nat → Prop} {v : Value} {xs : List α} (h : d.R e W base m v xs) : Kd.V d e W b' (fun k => p k ∨ m k) v xs :=
  Kd.V_mono (base := b') (Kd.R_V h) (fun _ hk => .inr hk)
/-- What is read lies in none of the blocks that it is told apart from. -/
theorem V_awayB {α : Type} {d : Kd α} {e : Nat} {W : World} {base : Nat} {ok : Nat → Prop} {ad : Addr} {n c g : Nat} {xs : List α} {i : Int} (h : Kd.V d e W base ok (.slice (some ad) n c) xs) (h0 : 0 ≤ i) (h1 : i < (n : Int)) (hsz : 0 < d.sz) (hok : ∀ k, ok k → k ≠ g) : ad.block ≠ g := by
  intro e_
  have hF := Kd.V_F h
  have hC := hF { W with heap := W.heap.setIfInBounds g (.cells #[] 0 (0, 0)) } (fun k hk _ => by
    have := hok k hk
    simp [Ne.symm this])
  obtain ⟨ad', e', hc⟩ := hC.2.2 (by omega)
  injection e' with e'
  subst e'
  have hl : xs.length = n := hC.1
  obtain ⟨cs, hcl, _, hat⟩ := hc 0 xs[0] (List.getElem?_eq_getElem (by omega))
  have hcell := hat 0 cs[0] (List.getElem?_eq_getElem (by omega))
  unfold World.cell? at hcell
  rw [add_block, e_] at hcell
  simp only [Array.getElem?_setIfInBounds] at hcell
  split at hcell
  · rename_i hh
    split at hh
    · split at hh
      · injection hh with hh
        injection hh with h1_ h2_ h3_
        subst h1_
        simp at hcell
      · cases hh
    · rename_i hne; exact hne trivial
  · cases hcell
theorem aB {ad : Addr} {g : Nat} {p : Prop} (h : ad.block ≠ g) (t : ad.block ≠ g → p := by intro h; first | (with_reducible exact h) | (rw [add_block]; exact h) | (show (Addr.add _ _).block ≠ _; rw [add_block]; exact h) | (dsimp only; rw [add_block]; exact h) | exact h) : p := t h
end Go.Proofs.YtgknajladloffaaW.PrintWords
