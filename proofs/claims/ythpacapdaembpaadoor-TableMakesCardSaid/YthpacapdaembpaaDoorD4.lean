import Derived.Test.YthpacapdaembpaaDoorD3
import Derived.Shelf.SlSortCmp.InsertionK
open Go Go.RowKit Go.Proofs.YthpacapdaembpaaDoor.K Go.Proofs.YthpacapdaembpaaDoor.T
set_option linter.unusedVariables false
set_option linter.unusedSimpArgs false
namespace Go.Proofs.YthpacapdaembpaaDoor.A
variable {F F' : Nat → Option (List Value)} {M M' : Nat → Option Chunk} {N N' : Nat} {K : Kont} {E : PanK}
open Go.Sort hiding Below
theorem flat_at {sz : Nat} {rows : List (List Value)} (hl : ∀ r ∈ rows, r.length = sz) {i j : Nat} {r : List Value} (hi : rows[i]? = some r) (hj : j < sz) : rows.flatten[i * sz + j]? = r[j]? := by
  have h := flatten_take rows i r hl hi
  rw [← h, List.getElem?_take, if_pos hj, List.getElem?_drop]
/-- From a world that has moved on: blocks behind it, and draws. -/
theorem below_grow {W w' : World} (h : Below W.heap.size W w') (hd : W.drawn ≤ w'.drawn) : ∃ q os', w' = grow (W.drewN q) os' := by
  refine ⟨w'.drawn - W.drawn, w'.heap.extract W.heap.size w'.heap.size, ?_⟩
  have hh : w'.heap = W.heap ++ w'.heap.extract W.heap.size w'.heap.size := by
    apply Array.ext_getElem?
    intro k
    have hs := h.size
    rw [Array.getElem?_append]
    split
    · rename_i hk; exact h.block k hk
    · rename_i hk
      rw [Array.getElem?_extract]
      split
      · rw [show W.heap.size + (k - W.heap.size) = k by omega]
      · exact Array.getElem?_eq_none (by omega)
  obtain ⟨hp, tp, dr, os, out⟩ := w'
  simp only at hh hd
  have h1 := h.os; have h2 := h.tape; have h3 := h.output
  simp only at h1 h2 h3
  unfold grow World.drewN
  subst h1 h2 h3
  rw [← hh]
  congr 1
  simp only; omega
theorem sF_world {W : World} (hF : ∀ bk cs, F bk = some cs → ∃ arr e z, W.heap[bk]? = some (.cells arr e z) ∧ cs <+: arr.toList) {sz m : Nat} {v : Value} {cells : List Value} (h : sF F sz v m cells) : sF (F0 W) sz v m cells := by
  refine ⟨h.1, h.2.imp id fun ⟨b, o, c, cs, h1, h2, h3, h4⟩ => ?_⟩
  obtain ⟨arr, e, z, h5, h6⟩ := hF b cs h3
  refine ⟨b, o, c, arr.toList, h1, h2, by simp [F0, h5], ?_⟩
  obtain ⟨t, ht⟩ := h6
  rw [← ht]
  have hl := congrArg List.length h4
  rw [List.length_take, List.length_drop, h.1] at hl
  rcases Nat.eq_zero_or_pos (m * sz) with h0 | h0
  · rw [← h4, h0]; simp
  · rw [List.drop_append_of_le_length (by omega), List.take_append_of_le_length (by rw [List.length_drop]; omega)]; exact h4
theorem less_call {cs ds : List Value} {r q : Rw} (hr : rowD F cs r) (hq : rowD F ds q) (k : ∀ N', K (.int .i64 (kcmp r.1 q.1)) ⟨F, M, N'⟩) :
    call Tryd.prog 50 #[.agg cs.toArray, .agg ds.toArray] K E ⟨F, M, N⟩ := by
  refine call_text mixed Tryd.func50 (by kernel_rfl) (t50 _ E _ _) (fun hw => ?_)
  have hm := hw.m
  obtain ⟨v, rfl, hv, hvl⟩ := hr
  obtain ⟨u, rfl, hu, _⟩ := hq
  refine nw_r (cs := v :: r.2.cs) (fun b1 hb1 => ?_)
  refine nw_r (cs := u :: q.2.cs) (fun b2 hb2 => ?_)
  refine pv_r rfl (ldM (v := v) ?_)
  refine pv_r rfl (ldM (v := u) ?_)
  refine Cmp_c hv hu (by omega) fun hc => ?_
  exact ⟨⟨F, M, b2 + 1⟩, wk_end hc, fun hw' => k _⟩
/-- A row with its cells. -/
abbrev RowE (F : Nat → Option (List Value)) := { x : List Value × Rw // rowD F x.1 x.2 }
theorem rows_E : ∀ (rows : List (List Value)) (t : List Rw), rowsF (rowD F) 5 rows t → ∃ d : List (RowE F), d.map (·.1.1) = rows ∧ d.map (·.1.2) = t
  | [], [], _ => ⟨[], rfl, rfl⟩
  | [], _ :: _, h => by have := h.all.1; simp at this
  | _ :: _, [], h => by have := h.all.1; simp at this
  | r :: rows, x :: t, h => by
    obtain ⟨d, h1, h2⟩ := rows_E rows t ⟨fun r hr => h.len r (by simp [hr]), fun r hr => h.one r (by simp [hr]), by have := h.all.1; simp at this; exact this, fun i r x hr hx => h.all.2 (i + 1) r x (by simpa using hr) (by simpa using hx)⟩
    exact ⟨⟨(r, x), h.all.2 0 r x rfl rfl⟩ :: d, by simp [h1], by simp [h2]⟩
theorem E_rows (d : List (RowE F)) : rowsF (rowD F) 5 (d.map (·.1.1)) (d.map (·.1.2)) := by
  refine ⟨fun r hr => ?_, fun r hr => ?_, by simp, fun i r x hr hx => ?_⟩
  · obtain ⟨x, _, rfl⟩ := List.mem_map.1 hr; exact x.2.one.1
  · obtain ⟨x, _, rfl⟩ := List.mem_map.1 hr; exact x.2.one.2
  · rw [List.getElem?_map] at hr hx
    cases hd : d[i]? with
    | none => rw [hd] at hr; simp at hr
    | some y => rw [hd] at hr hx; simp at hr hx; subst hr; subst hx; exact y.2
theorem swo_cmp : SWO (ltOf fun (x y : RowE F) => kcmp x.1.2.1 y.1.2.1) := by
  refine ⟨fun x => by simp [ltOf, kcmp_self], fun x y z h1 h2 => ?_, fun x y z h1 h2 => ?_⟩
  · simp only [ltOf, decide_eq_true_eq] at h1 h2 ⊢
    exact kcmp_trans h1 h2
  · simp only [ltOf, decide_eq_false_iff_not] at h1 h2 ⊢
    intro h3
    have e1 := kcmp_neg x.1.2.1 y.1.2.1
    have e2 := kcmp_neg y.1.2.1 z.1.2.1
    rcases Int.lt_or_eq_of_le (show 0 ≤ kcmp x.1.2.1 y.1.2.1 by omega) with h4 | h4
    · have h5 : kcmp y.1.2.1 x.1.2.1 < 0 := by omega
      have := kcmp_trans h5 h3
      omega
    · have := kcmp_eq h4.symm
      rw [this] at h3
      omega
end Go.Proofs.YthpacapdaembpaaDoor.A
