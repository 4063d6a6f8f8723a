import Derived.Test.YthpacapdaembpaaDoorD1
open Go Go.RowKit Go.Proofs.YthpacapdaembpaaDoor.K Go.Proofs.YthpacapdaembpaaDoor.T
set_option linter.unusedVariables false
set_option linter.unusedSimpArgs false
namespace Go.Proofs.YthpacapdaembpaaDoor.A
variable {F F' : Nat → Option (List Value)} {M M' : Nat → Option Chunk} {N N' : Nat} {K : Kont} {E : PanK}
open Go.MapKept
/-- The map has each key's place. -/
def mapOK (es : Array MapEntry) (t : List Rw) : Prop := es.toList.length = t.length ∧ ∀ (i : Nat) (x : MapEntry), es.toList[i]? = some x → ∃ r, t[i]? = some r ∧ x.key = .string (txtB r.1) ∧ x.val = .int .i64 (i : Nat)
theorem mapOK.keys {es : Array MapEntry} {t : List Rw} (h : mapOK es t) : ∀ x ∈ es.toList, IsKey .string x.key := fun x hx => by
  obtain ⟨i, hi, rfl⟩ := List.mem_iff_getElem.1 hx
  obtain ⟨r, _, h2, _⟩ := h.2 i _ (List.getElem?_eq_getElem hi)
  rw [h2]; trivial
theorem mapOK.push {es : Array MapEntry} {t : List Rw} (h : mapOK es t) (r : Rw) (ck : Nat) : mapOK (es.push ⟨.string (txtB r.1), .int .i64 (t.length : Nat), ck⟩) (t ++ [r]) := by
  refine ⟨by simp [← h.1], fun i x hx => ?_⟩
  rw [Array.toList_push] at hx
  rcases Nat.lt_or_ge i es.toList.length with hi | hi
  · rw [List.getElem?_append_left hi] at hx
    obtain ⟨q, h1, h2⟩ := h.2 i x hx
    exact ⟨q, by rw [List.getElem?_append_left (by rw [← h.1]; exact hi)]; exact h1, h2⟩
  · rw [List.getElem?_append_right hi] at hx
    have h0 : i - es.toList.length = 0 := by
      have := (List.getElem?_eq_some_iff.1 hx).1
      simp at this; simpa using this
    rw [h0] at hx
    simp only [List.getElem?_cons_zero, Option.some.injEq] at hx
    have hit : i = t.length := by rw [← h.1]; omega
    subst hx
    exact ⟨r, by rw [hit]; simp, rfl, by rw [hit]⟩
theorem mapOK.set {es : Array MapEntry} {t : List Rw} (h : mapOK es t) {i : Nat} {k : List Int} {c c' : CE} (ht : t[i]? = some (k, c)) : mapOK es (t.set i (k, c')) := by
  refine ⟨by simp [← h.1], fun j x hx => ?_⟩
  obtain ⟨q, h1, h2, h3⟩ := h.2 j x hx
  by_cases hj : i = j
  · subst hj
    rw [ht] at h1; cases h1
    exact ⟨(k, c'), by rw [List.getElem?_set_self (List.getElem?_eq_some_iff.1 ht).1], h2, h3⟩
  · exact ⟨q, by rw [List.getElem?_set_ne hj]; exact h1, h2, h3⟩
/-- A sheet at block g, whose rows are t. -/
structure isSheet (F : Nat → Option (List Value)) (M : Nat → Option Chunk) (B g bm : Nat) (v : Value) (rows : List (List Value)) (t : List Rw) : Prop where
  gg : M g = some (.cells 108 [v, .map (some bm)] 2)
  gB : B ≤ g
  bB : B ≤ bm
  mp : ∃ es clock, M bm = some (.obj (.map es clock)) ∧ mapOK es t
  oo : own M B 43 5 v t.length rows.flatten
  rr : rowsF (rowD F) 5 rows t
  nd : nodup t
theorem isSheet.vg {B g bm : Nat} {v : Value} {rows : List (List Value)} {t : List Rw} (h : isSheet F M B g bm v rows t) : v.ownBlock ≠ some g ∧ v.ownBlock ≠ some bm := by
  obtain ⟨es, clock, hm, _⟩ := h.mp
  rcases h.oo.2 with ⟨rfl, _⟩ | ⟨b, c, rest, rfl, _, _, _, h5⟩
  · simp [Value.ownBlock]
  · simp only [Value.ownBlock, if_true, ne_eq, Option.some.injEq]
    refine ⟨fun e => ?_, fun e => ?_⟩
    · have e' : b = g := by simpa using e
      subst e'; rw [h.gg] at h5; injection h5 with h5; injection h5 with h5; cases h5
    · have e' : b = bm := by simpa using e
      subst e'; rw [hm] at h5; cases h5
theorem isSheet.keep {B g bm : Nat} {v : Value} {rows : List (List Value)} {t : List Rw} (h : isSheet F M B g bm v rows t) (hF : subF F F') (hM : ∀ q, M q ≠ none → M' q = M q) : isSheet F' M' B g bm v rows t := by
  obtain ⟨es, clock, hm, ho⟩ := h.mp
  exact ⟨(hM g (by rw [h.gg]; simp)).trans h.gg, h.gB, h.bB, ⟨es, clock, (hM bm (by rw [hm]; simp)).trans hm, ho⟩, h.oo.keep (fun q hq => hM q (h.oo.ge q hq).2) (Nat.le_refl _), h.rr.mono fun r x hr => hr.mono hF, h.nd⟩
theorem upd_keep (hm : clean M N) {b : Nat} (hb : N ≤ b) (x : Option Chunk) : ∀ q, M q ≠ none → upd M b x q = M q := fun q hq => upd_ne _ _ (fun e => hq (hm q (by omega)))
theorem flat_set {sz : Nat} : ∀ (rows : List (List Value)) (i : Nat) (r : List Value), (∀ r ∈ rows, r.length = sz) → r.length = sz → i < rows.length → splice rows.flatten (i * sz) r = (rows.set i r).flatten
  | [], i, r, _, _, h => by simp at h
  | x :: rows, 0, r, hl, hr, _ => by
    have hx := hl x (by simp)
    simp only [Nat.zero_mul, List.flatten_cons, List.set_cons_zero]
    have := splice_at [] x r rows.flatten (by rw [hx, hr])
    simpa using this
  | x :: rows, i + 1, r, hl, hr, h => by
    have hx := hl x (by simp)
    have ih := flat_set rows i r (fun y hy => hl y (by simp [hy])) hr (by simpa using h)
    simp only [List.flatten_cons, List.set_cons_succ]
    rw [← ih]
    unfold splice
    rw [Nat.succ_mul, show i * sz + sz = x.length + i * sz by omega, List.take_length_add_append, show x.length + i * sz + r.length = x.length + (i * sz + r.length) by omega, List.drop_length_add_append]
    simp
end Go.Proofs.YthpacapdaembpaaDoor.A
