import Derived.Test.YthpacapdaembpaaDoorD6
import Derived.Test.YthpacapdaembpaaDoorDL
import Derived.Shelf.SlSortCmp.WholeK
import Derived.Shelf.SlSortCmp.NoneTotal
open Go Go.RowKit Go.Proofs.YthpacapdaembpaaDoor.K Go.Proofs.YthpacapdaembpaaDoor.T
set_option linter.unusedVariables false
set_option linter.unusedSimpArgs false
namespace Go.Proofs.YthpacapdaembpaaDoor.A
variable {F F' : Nat → Option (List Value)} {M M' : Nat → Option Chunk} {N N' : Nat} {K : Kont} {E : PanK}
open Go.Sort hiding Below
open Go.Shelf
theorem agg_row (w : World) : (isAgg 43).run Tryd.prog w = .ok true w := by kernel_rfl
theorem size_row (w : World) : (Go.sizeOf 43).run Tryd.prog w = .ok 5 w := by kernel_rfl
/-- The compare, in each world that the sort passes through. -/
theorem cmp_lays [Inhabited (RowE F)] {w : World} {blk size : Nat} (hF : ∀ bk cs, F bk = some cs → bk ≠ blk ∧ bk < w.heap.size ∧ ∃ arr e z, w.heap[bk]? = some (.cells arr e z) ∧ cs <+: arr.toList) :
    CmpLays Tryd.prog 50 #[] (fun x : RowE F => x.1.1) 5 (fun x y => kcmp x.1.2.1 y.1.2.1) blk 0 size w := by
  intro m os dk _ x y
  have hW : ∀ bk cs, F bk = some cs → ∃ arr e z, (sortWorldK (fun x : RowE F => x.1.1) 5 w blk 0 m dk os).heap[bk]? = some (.cells arr e z) ∧ cs <+: arr.toList := fun bk cs h => by
    obtain ⟨h1, h2, arr, e, z, h3, h4⟩ := hF bk cs h
    exact ⟨arr, e, z, (sw_other h1 h2).trans h3, h4⟩
  have up : ∀ z : RowE F, rowD (F0 (sortWorldK (fun x : RowE F => x.1.1) 5 w blk 0 m dk os)) z.1.1 z.1.2 := fun z => by
    obtain ⟨v, h1, h2, h3⟩ := z.2
    exact ⟨v, h1, sF_world hW h2, h3⟩
  have h := calls1 (P := Tryd.prog) (w := sortWorldK (fun x : RowE F => x.1.1) 5 w blk 0 m dk os) (K := fun v => v = .int .i64 (kcmp x.1.2.1 y.1.2.1))
    (less_call (K := fun v _ => v = .int .i64 (kcmp x.1.2.1 y.1.2.1)) (E := fun _ _ => False) (up x) (up y) (fun N' => rfl))
  refine Calls.mono h fun e w' ⟨⟨v, he, hv⟩, hb, hd⟩ => ?_
  exact ⟨by rw [he, hv], below_grow hb hd⟩
theorem perm_map {α β : Type} {a b : List α} (f : α → β) (h : a.Perm b) : (a.map f).Perm (b.map f) := h.map f
/-- slices.SortFunc, of rows. -/
theorem sort_c {b cap tot : Nat} {rows : List (List Value)} {t : List Rw} {rest : List Value} (hM : M b = some (.cells 43 (rows.flatten ++ rest) tot)) (hr : rowsF (rowD F) 5 rows t) (hn : nodup t) (h0 : 0 < t.length) (hl : t.length < 4611686018427387904)
    (k : ∀ N' rows' t', N ≤ N' → rowsF (rowD F) 5 rows' t' → t.Perm t' → srt t' → K (.tuple #[]) ⟨F, upd M b (some (.cells 43 (rows'.flatten ++ rest) tot)), N'⟩) :
    callv Tryd.prog (.func (.func 77) #[] #[]) #[.slice (some ⟨b, 0, none⟩) t.length cap, .func (.func 50) #[] #[]] K E ⟨F, M, N⟩ := by
  refine .inl ⟨by kernel_rfl, fun w0 w r => ?_⟩
  obtain ⟨d, hd1, hd2⟩ := rows_E rows t hr
  have hdl : d.length = t.length := by rw [← hd2]; simp
  have hne : d ≠ [] := fun e => by rw [e] at hdl; simp at hdl; omega
  obtain ⟨x0, d0, hd0⟩ := List.exists_cons_of_ne_nil hne
  haveI : Inhabited (RowE F) := ⟨x0⟩
  obtain ⟨h1, h2, h3, arr, h4, h5, h6⟩ := r.cl b _ _ _ hM
  have hbw : b < w.heap.size := (Array.getElem?_eq_some_iff.1 h4).1
  have hfl := hr.flen
  have hH : HoldsK (fun x : RowE F => x.1.1) 5 w b 0 d.toArray := by
    intro j hj
    have hj' : j < d.length * 5 := by simpa using hj
    have e1 := flatK_rows d j hj'
    rw [hd1] at e1
    have e2 : rows.flatten[j]? = some (id (flatK (fun x : RowE F => x.1.1) 5 d.toArray)[j]!) := by
      rw [← e1, id, getElem!_def, Array.getElem?_eq_getElem (by simpa using hj')]
    refine ⟨?_, by simp [World.frozen?, h4]⟩
    rw [Nat.zero_add]
    refine r.cell (cs := rows.flatten ++ rest) (.inr ⟨_, _, hM⟩) ?_
    rw [List.getElem?_append_left (by omega)]; exact e2
  have hF : ∀ bk cs, F bk = some cs → bk ≠ b ∧ bk < w.heap.size ∧ ∃ arr e z, w.heap[bk]? = some (.cells arr e z) ∧ cs <+: arr.toList := fun bk cs h => by
    obtain ⟨a1, arr', e, z, a2, a3⟩ := r.fr bk cs h
    exact ⟨fun e => (by subst e; simp only at h3; rw [h] at h3; cases h3), (Array.getElem?_eq_some_iff.1 a2).1, arr', e, z, a2, a3⟩
  have eg : ∀ args w, (callFunc 50 args).run Tryd.prog w = .ok (.enter 50 args) w := enters_of Tryd.func50 (by kernel_rfl) rfl
  have hcon := AnyQ.slices_SortFunc Tryd.sortRow 5 agg_row size_row (fun x : RowE F => x.1.1) (fun x => x.2.one.1) (fun x v hv => x.2.one.2 v hv) (fun x y => kcmp x.1.2.1 y.1.2.1) swo_cmp 50 #[] b 0 cap d.toArray w eg (cmp_lays hF) hH hbw (by simpa [hdl] using hl)
  change Calls Tryd.prog 77 _ _ _ at hcon
  have hsz : d.toArray.size = t.length := by simpa using hdl
  rw [hsz] at hcon
  refine Calls.mono hcon fun e w' ⟨he, d', n, os, hp, hs, hw⟩ => ?_
  subst he
  have hsz' : d'.size = t.length := by rw [hp.1, hsz]
  have hp2 : d'.toList.Perm d := by
    have h7 := hp.2.2
    rw [← hsz, Array.extract_size] at h7
    rw [show d'.extract 0 d.toArray.size = d' from by rw [hsz, ← hsz', Array.extract_size]] at h7
    simpa using h7
  have hr' := E_rows d'.toList
  have hperm : t.Perm (d'.toList.map (·.1.2)) := by rw [← hd2]; exact hp2.symm.map _
  have hsrt : srt (d'.toList.map (·.1.2)) := by
    have hnd := hn.perm hperm
    unfold srt
    rw [List.pairwise_iff_getElem]
    intro i j hi hj hij
    have hnd' := List.pairwise_iff_getElem.1 hnd i j hi hj hij
    simp only [List.length_map, Array.length_toList] at hi hj
    have h8 := hs i j (Nat.zero_le _) hij (by omega)
    simp only [ltOf, decide_eq_false_iff_not] at h8
    rw [getElem!_pos d' j (by omega), getElem!_pos d' i (by omega)] at h8
    simp only [List.getElem_map, Array.getElem_toList] at hnd' ⊢
    have h9 := kcmp_neg d'[i].1.2.1 d'[j].1.2.1
    have h10 : kcmp d'[i].1.2.1 d'[j].1.2.1 ≠ 0 := fun e => hnd' (kcmp_eq e)
    omega
  refine ⟨⟨F, upd M b (some (.cells 43 ((d'.toList.map (·.1.1)).flatten ++ rest) tot)), w'.heap.size⟩, ?_, k _ _ _ (Nat.le_trans r.nx (hw ▸ sw_size)) hr' hperm hsrt⟩
  have hat := sw_at (enc := fun x : RowE F => x.1.1) (kk := 5) (n := n) (off := 0) (d := d') (os := os) h4
  have hsw : w.heap.size ≤ w'.heap.size := hw ▸ sw_size
  refine r.turn (w' := w') (b := b) h2 h3 (by rw [hw]; rfl) (by rw [hw]; rfl) (by rw [hw]; rfl) hsw (by omega) (fun q hq hql => by rw [hw]; exact sw_other hq hql) (some _) w'.heap.size (Nat.le_trans r.nx hsw) (Nat.le_refl _) (by omega) ?_ (by rw [hw]; exact Nat.le_add_right _ _)
  refine ⟨_, by rw [hw]; exact hat, by simpa [putCells] using h5, ?_⟩
  have hfl2 := flatK_toList d'.toList
  rw [Array.toArray_toList] at hfl2
  exact put_prefix (a := rows.flatten) hfl2 (by rw [hfl, hr'.flen]; simp [hsz']) h6
theorem sort_none {a : Option Addr} {c : Nat} (k : ∀ N', N ≤ N' → K (.tuple #[]) ⟨F, M, N'⟩) : callv Tryd.prog (.func (.func 77) #[] #[]) #[.slice a 0 c, .func (.func 50) #[] #[]] K E ⟨F, M, N⟩ := by
  refine .inl ⟨by kernel_rfl, fun w0 w r => ?_⟩
  have hcon := AnyF.slices_SortFunc_none Tryd.sortRow a c (.func (.func 50) #[] #[]) w
  change Calls Tryd.prog 77 _ _ _ at hcon
  refine Calls.mono hcon fun e w' ⟨he, hw⟩ => ?_
  subst he; subst hw
  exact ⟨⟨F, M, N⟩, r, k N (Nat.le_refl _)⟩
end Go.Proofs.YthpacapdaembpaaDoor.A
