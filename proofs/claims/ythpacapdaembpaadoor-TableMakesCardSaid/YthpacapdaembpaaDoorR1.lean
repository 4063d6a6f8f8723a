import Derived.Test.YthpacapdaembpaaDoorE9
open Go Go.RowKit Go.Proofs.YthpacapdaembpaaDoor.K Go.Proofs.YthpacapdaembpaaDoor.T
set_option linter.unusedVariables false
set_option linter.unusedSimpArgs false
namespace Go.Proofs.YthpacapdaembpaaDoor.A
variable {F F' : Nat → Option (List Value)} {M M' : Nat → Option Chunk} {N N' : Nat} {K : Kont} {E : PanK}
theorem wf_i64 {x : Int} (h : (Lit.int .i64 x).wf = true) : i64 x := by
  have h' : -9223372036854775808 ≤ x ∧ x ≤ 9223372036854775807 := by simpa [Lit.wf, IntKind.min, IntKind.max, IntKind.signed, IntKind.bits] using h
  exact h'
theorem rowsF_all {α : Type} {R : List Value → α → Prop} {sz : Nat} {rows : List (List Value)} {xs : List α} (h : rowsF R sz rows xs) : ∀ x ∈ xs, ∃ r, R r x := fun x hx => by
  obtain ⟨i, hi, rfl⟩ := List.mem_iff_getElem.1 hx
  obtain ⟨r, _, h2, _⟩ := h.get (List.getElem?_eq_getElem hi)
  exact ⟨r, h2⟩
theorem keyI {cs : List Value} {l : List Int} (h : rS 1 (rI .i64) F cs l) : ∃ v, cs = [v] ∧ sF F 1 v l.length (ic l) ∧ (∀ x ∈ l, i64 x) ∧ l.length ≤ 140737488351232 := by
  obtain ⟨v, rows, rfl, h2⟩ := h
  obtain ⟨h3, h4, h5⟩ := rS_ints ⟨v, rows, rfl, h2⟩
  exact ⟨v, rfl, h3, fun x hx => wf_i64 (h4 x hx), h5⟩
/-- Facts that come in. -/
theorem facts_of {v : Value} {y : List (List Int × Int)} (h : rS 2 (rP (rS 1 (rI .i64)) (rI .i64)) F [v] y) : fctsD F v y ∧ y.length ≤ 140737488351232 ∧ ∀ f ∈ y, (∀ x ∈ f.1, i64 x) ∧ i64 f.2 := by
  obtain ⟨v', rows, e, hv, hr, hl⟩ := h
  injection e with e _
  subst e
  have hr' : rowsF (fun r f => fctD F r f ∧ (∀ x ∈ f.1, i64 x) ∧ i64 f.2) 2 rows y := hr.mono fun r f ⟨c1, c2, e, ha, hb⟩ => by
    obtain ⟨u, rfl, h1, h2, h3⟩ := keyI ha
    obtain ⟨rfl, h4⟩ := hb
    exact ⟨⟨u, by rw [e]; rfl, h1, h3⟩, h2, wf_i64 h4⟩
  exact ⟨⟨rows, hv, hr'.mono fun _ _ h => h.1⟩, hl, fun f hf => by obtain ⟨r, h⟩ := rowsF_all hr' f hf; exact h.2⟩
theorem TableMakes_true (v : Value) {y : List (List Int × Int)} (W : World) (hv : rS 2 (rP (rS 1 (rI .i64)) (rI .i64)) (F0 W) [v] y) :
    Calls Tryd.prog 4 #[v] W fun e w' => e = .returned (.bool true) ∧ Below W.heap.size W w' :=
  have h := facts_of hv
  (calls0 (K := fun v => v = .bool true) (tableMakes_c h.1 h.2.1 (fun f hf => (h.2.2 f hf).1) fun _ => rfl)).mono fun e w' ⟨⟨v, he, hv⟩, hb⟩ => ⟨by rw [he, hv], hb⟩
end Go.Proofs.YthpacapdaembpaaDoor.A
