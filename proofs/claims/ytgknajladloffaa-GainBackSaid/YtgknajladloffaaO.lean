/- Arguments: what can be read as data is a value that the walks can tell. -/
import Derived.Test.YtgknajladloffaaQx0
import Derived.Deep.Slices
import Derived.Deep.Fields
import Derived.ChangeSame
import Derived.ProofKit
namespace Go.Proofs.Ytgknajladloffaa.M
open Go.ChangeShapes Go.WideShapes Go.Deep Go.RowKit Go.Proofs.YtgknajladloffaaW.PrintWords
set_option linter.unusedVariables false
set_option linter.unusedSimpArgs false

/-- What reads as data of a type is a value of a kind. -/
structure Opn (P : Program) (t : TypeId) {α : Type} (d : Kd α) (ok : α → Prop) : Prop where
  sz : P.cellsOf t = d.sz
  op : ∀ {H : Type} {enc : TypeId × Value → H} {w : World} {fuel : Nat} {cs : List Value} {x : DataW H × List MemPlace}, DataW.trod enc P w 0 (fun _ => true) true fuel t cs = some x → ∃ y, d.K w y cs ∧ ok y
variable {P : Program} {t e : TypeId}
theorem Opn.int {k : IntKind} (ht : P.underlying t = some (.int k)) (hc : P.cellsOf t = 1) : Opn P t (Kd.int k) (fun n => (Lit.int k n).wf = true) where
  sz := hc
  op := fun h => by
    obtain ⟨n, rfl, _, hw⟩ := DataW.trod_int ht h
    exact ⟨n, rfl, hw⟩
theorem Opn.bool (ht : P.underlying t = some .bool) (hc : P.cellsOf t = 1) : Opn P t Kd.bool (fun _ => True) where
  sz := hc
  op := fun h => by
    obtain ⟨b, rfl, _⟩ := DataW.trod_bool ht h
    exact ⟨b, rfl, trivial⟩
def lenOk {α : Type} (ok : α → Prop) (l : List α) : Prop := l.length ≤ 9223372036854775807 ∧ ∀ x ∈ l, ok x
theorem C_none {α : Type} (d : Kd α) (w : World) : d.C w none 0 [] := ⟨rfl, by omega, fun h => absurd h (by omega)⟩
theorem Opn.slice {α : Type} [Inhabited α] {d : Kd α} {ok : α → Prop} (ht : P.underlying t = some (.slice e)) (hc : P.cellsOf t = 1) (h : Opn P e d ok) : Opn P t (Kd.slice e d) (lenOk ok) where
  sz := hc
  op := fun {H enc w fuel cs x} hx => by
    rcases open_slice ht hx with ⟨rfl, _⟩ | ⟨a, len, cap, m, n, D, Pl, rfl, _, hl, hm, hmm, _, hi⟩
    · exact ⟨[], ⟨none, 0, rfl, Nat.le_refl _, C_none d w⟩, by unfold lenOk; exact ⟨by simp, fun x hx => by simp at hx⟩⟩
    · have hlm : len ≤ m := by rw [hmm]; split <;> omega
      obtain ⟨Y, hY⟩ := choose_lt (α := α) (p := fun i y => ok y ∧ ∃ c, c.length = d.sz ∧ d.K w y c ∧ ∀ j u, c[j]? = some u → w.cell? (a.add (i * d.sz + j)) = some u) (fun i hi' => by
        obtain ⟨cs', hcs, htr⟩ := hi i (Nat.lt_of_lt_of_le hi' hlm)
        obtain ⟨y, hK, hok⟩ := h.op htr
        obtain ⟨_, hcl, hat⟩ := World.cells?_some hcs
        refine ⟨y, hok, cs', by rw [hcl, h.sz], hK, fun j u hu => ?_⟩
        have hj : j < cs'.length := (List.getElem?_eq_some_iff.1 hu).1
        have := hat j (by omega)
        rw [h.sz] at this
        rw [← Go.Deep.add_add, this, hu])
      have hlen : ((List.range len).map Y).length = len := by simp
      have hmax : len ≤ 9223372036854775807 := Nat.le_trans hl hm
      refine ⟨(List.range len).map Y, ⟨some a, cap, by rw [hlen], by rw [hlen]; exact hl, ?_⟩, ?_⟩
      · rw [hlen]
        refine ⟨hlen, hmax, fun _ => ⟨a, rfl, fun j p hj => ?_⟩⟩
        have hjl : j < len := by have := (List.getElem?_eq_some_iff.1 hj).1; rwa [hlen] at this
        have : p = Y j := by rw [List.getElem?_map, List.getElem?_range hjl] at hj; exact (Option.some.inj hj).symm
        subst this
        exact (hY j hjl).2
      · refine ⟨by rw [hlen]; exact hmax, fun x hx => ?_⟩
        obtain ⟨i, hi1, rfl⟩ := List.mem_map.1 hx
        exact (hY i (List.mem_range.1 hi1)).1
theorem Opn.pair {α β : Type} {a : Kd α} {b : Kd β} {oka : α → Prop} {okb : β → Prop} {f0 f1 : Field} (hs : P.underlying t = some (.struct #[f0, f1])) (hone : oneCellFields P #[f0, f1] = true) (hC : P.cellsOf t = 2)
    (ha : Opn P f0.type a oka) (hb : Opn P f1.type b okb) : Opn P t (Kd.pair a b) (fun x => oka x.1 ∧ okb x.2) where
  sz := by
    have h0 := ha.sz; have h1 := hb.sz
    obtain ⟨_, k0⟩ := hone_of hone 0 f0 rfl
    obtain ⟨_, k1⟩ := hone_of hone 1 f1 rfl
    rw [k0] at h0; rw [k1] at h1
    show _ = a.sz + b.sz
    omega
  op := fun {H enc w fuel cs x} hx => by
    obtain ⟨ys, n, _, _, hlen, hyl, hf⟩ := DataW.trod_struct hs hx
    obtain ⟨o0, k0⟩ := hone_of hone 0 f0 rfl
    obtain ⟨o1, k1⟩ := hone_of hone 1 f1 rfl
    rw [hC] at hlen
    match cs, hlen with
    | [c0, c1], _ =>
      have g0 := hf 0 f0 rfl
      have g1 := hf 1 f1 rfl
      simp [o0, k0] at g0
      simp [o1, k1] at g1
      match ys, hyl with
      | [y0, y1], _ =>
        obtain ⟨z0, K0, ok0⟩ := ha.op g0
        obtain ⟨z1, K1, ok1⟩ := hb.op g1
        exact ⟨(z0, z1), ⟨[c0], [c1], rfl, K0, K1⟩, ok0, ok1⟩
theorem Opn.iso {α β : Type} {d : Kd α} {ok : α → Prop} (f : β → α) (g : α → β) (hfg : ∀ x, f (g x) = x) (h : Opn P t d ok) : Opn P t (Kd.iso d f) (fun y => ok (f y)) where
  sz := h.sz
  op := fun hx => by
    obtain ⟨y, hK, hok⟩ := h.op hx
    exact ⟨g y, by show d.K _ (f (g y)) _; rw [hfg]; exact hK, by show ok (f (g y)); rw [hfg]; exact hok⟩
/-- An argument that is a slice. -/
theorem Opn.arg {α : Type} {d : Kd α} {ok : List α → Prop} {H : Type} {enc : TypeId × Value → H} {w : World} {a : Option Addr} {len cap : Nat} {x : DataW H} {p : List MemPlace} (h : Opn P t (Kd.slice e d) ok)
    (hx : DataW.Trod enc P w 0 (fun _ => true) true t (.slice a len cap) x p) : ∃ l, len = l.length ∧ len ≤ cap ∧ d.C w a l.length l ∧ ok l := by
  obtain ⟨fuel, hf⟩ := hx
  obtain ⟨l, ⟨A, c, hcs, hl, hC⟩, hok⟩ := h.op hf
  simp [Value.cells] at hcs
  obtain ⟨rfl, rfl, rfl⟩ := hcs
  exact ⟨l, rfl, hl, hC, hok⟩
end Go.Proofs.Ytgknajladloffaa.M
