import Derived.Test.YthpacapdaembpaaDoorD5
open Go Go.RowKit Go.Proofs.YthpacapdaembpaaDoor.K Go.Proofs.YthpacapdaembpaaDoor.T
set_option linter.unusedVariables false
set_option linter.unusedSimpArgs false
namespace Go.Proofs.YthpacapdaembpaaDoor.A
variable {F F' : Nat → Option (List Value)} {M M' : Nat → Option Chunk} {N N' : Nat} {K : Kont} {E : PanK}
/-- What lies at an element's place. -/
theorem row_at {α : Type} {R : List Value → α → Prop} {sz : Nat} {v : Value} {l : List α} {rows : List (List Value)} (hv : sF F sz v l.length rows.flatten) (hr : rowsF R sz rows l) (hz : 0 < sz) {i : Nat} (hi : i < l.length) :
    ∃ b o c cs r, v = .slice (some ⟨b, o, none⟩) l.length c ∧ F b = some cs ∧ rows[i]? = some r ∧ R r l[i] ∧ r.length = sz ∧ (∀ x ∈ r, x.oneCell' = true) ∧ o + i * sz + sz ≤ cs.length ∧ (cs.drop (o + i * sz)).take sz = r ∧ ∀ j, j < sz → cs[o + i * sz + j]? = r[j]? := by
  obtain ⟨b, o, c, hab, cs, hF, hle, hcs⟩ := hv.at hz hi
  obtain ⟨r, h1, h2, h3, h4, h5⟩ := hr.get (List.getElem?_eq_getElem hi)
  have hfl := hr.flen
  have hj : ∀ j, j < sz → cs[o + i * sz + j]? = r[j]? := fun j hj => by
    rw [Nat.add_assoc, hcs (i * sz + j) (by rw [hfl] at h4; omega), ← h3, List.getElem?_take, if_pos hj, List.getElem?_drop]
  refine ⟨b, o, c, cs, r, hab, hF, h1, h2, h5, hr.one r (List.mem_of_getElem? h1), by rw [hfl] at h4; omega, ?_, hj⟩
  apply List.ext_getElem?
  intro j
  rw [List.getElem?_take]
  split
  · rename_i h; rw [List.getElem?_drop]; exact hj j h
  · rw [List.getElem?_eq_none (by omega)]
/-- An element is read, whole. -/
theorem row_r {α : Type} {R : List Value → α → Prop} {sz : Nat} {v : Value} {l : List α} {rows : List (List Value)} {K : Value → Kont} (hv : sF F sz v l.length rows.flatten) (hr : rowsF R sz rows l) (hz : 0 < sz) {i : Nat} (hi : i < l.length)
    (k : ∀ p r, rows[i]? = some r → R r l[i] → r.length = sz → (∀ x ∈ r, x.oneCell' = true) → K p (.agg r.toArray) ⟨F, M, N⟩) : pv (iaV none sz v (.int .i64 (i : Nat))) (fun p => ld true sz p (K p)) ⟨F, M, N⟩ := by
  obtain ⟨b, o, c, cs, r, rfl, hF, hrr, hR, hl, h1, hle, ht, _⟩ := row_at hv hr hz hi
  exact iaN_r hi (ld_r (ldV_a (row_F hF) hle ht) (k _ r hrr hR hl h1))
/-- A cell of an element is read. -/
theorem fld_r {α : Type} {R : List Value → α → Prop} {sz : Nat} {v : Value} {l : List α} {rows : List (List Value)} {K : Value → Value → Kont} (hv : sF F sz v l.length rows.flatten) (hr : rowsF R sz rows l) (hz : 0 < sz) {i : Nat} (hi : i < l.length) {off : Nat} (ho : off < sz)
    (k : ∀ p q r x, R r l[i] → r.length = sz → r[off]? = some x → K p q x ⟨F, M, N⟩) : pv (iaV none sz v (.int .i64 (i : Nat))) (fun p => pv (faV off p) fun q => ld false 1 q (K p q)) ⟨F, M, N⟩ := by
  obtain ⟨b, o, c, cs, r, rfl, hF, _, hR, hl, h1, hle, ht, hj⟩ := row_at hv hr hz hi
  have hx : r[off]? = some (r[off]'(by omega)) := List.getElem?_eq_getElem _
  exact iaN_r hi (pv_r rfl (ld_r (ldV_c (row_F hF) ((hj off ho).trans hx)) (k _ _ r _ hR hl hx)))
/-- A table. -/
def tblD (F : Nat → Option (List Value)) (v : Value) (t : List Rw) : Prop := ∃ rows, sF F 5 v t.length rows.flatten ∧ rowsF (rowD F) 5 rows t
theorem tblD.mono {v : Value} {t : List Rw} (h : tblD F v t) (hF : subF F F') : tblD F' v t := let ⟨rows, h1, h2⟩ := h; ⟨rows, h1.mono hF, h2.mono fun _ _ hr => hr.mono hF⟩
theorem tblD.form {v : Value} {t : List Rw} (h : tblD F v t) : ∃ a c, v = .slice a t.length c := let ⟨rows, h1, _⟩ := h; let ⟨a, c, h2, _⟩ := h1.form; ⟨a, c, h2⟩
theorem tblD.nil {c : Nat} : tblD F (.slice none 0 c) [] := ⟨[], sF.nil _ _ _, rowsF.nil _ _⟩
abbrev Fc := List Int × Int
def fctD (F : Nat → Option (List Value)) (cs : List Value) (f : Fc) : Prop := ∃ v, cs = [v, .int .i64 f.2] ∧ sF F 1 v f.1.length (ic f.1) ∧ f.1.length ≤ 140737488351232
theorem fctD.mono {cs : List Value} {f : Fc} (h : fctD F cs f) (hF : subF F F') : fctD F' cs f := let ⟨v, h1, h2, h3⟩ := h; ⟨v, h1, h2.mono hF, h3⟩
theorem fctD.one {cs : List Value} {r : Fc} (h : fctD F cs r) : cs.length = 2 ∧ ∀ c ∈ cs, c.oneCell' = true := by
  obtain ⟨v, rfl, hv, _⟩ := h
  obtain ⟨a, c, rfl, _⟩ := hv.form
  exact ⟨rfl, List.all_eq_true.1 rfl⟩
def fctsD (F : Nat → Option (List Value)) (v : Value) (l : List Fc) : Prop := ∃ rows, sF F 2 v l.length rows.flatten ∧ rowsF (fctD F) 2 rows l
theorem fctsD.mono {v : Value} {t : List Fc} (h : fctsD F v t) (hF : subF F F') : fctsD F' v t := let ⟨rows, h1, h2⟩ := h; ⟨rows, h1.mono hF, h2.mono fun _ _ hr => hr.mono hF⟩
/-- A key that a text can have. -/
def okK (k : List Int) : Prop := k.length ≤ 10000000000 ∧ ∀ x ∈ k, i64 x
def ofC (v : Int) : CE := ⟨1, v, v, v⟩
/-- What a call's own rows come to when nobody turns them any more. -/
theorem tbl_frz {v : Value} {t : List Rw} {rows : List (List Value)} (hc : (Hp.mk F M' N').wf) (ho : own M' N 43 5 v t.length rows.flatten) (hr : rowsF (rowD F) 5 rows t) : tblD (frzAll F M' N) v t :=
  ⟨rows, ho.rd.frz hc (fun b hb => .inl (ho.ge b hb).1), hr.mono fun _ _ h => h.mono (subF_frzAll hc)⟩
theorem frz_wf (hm : clean M N) (hk : ∀ q, q < N → M' q = M q) (hc : (Hp.mk F M' N').wf) : (Hp.mk F M' N').wk ⟨frzAll F M' N, M, N'⟩ := wk_all hm hk hc
/-- Some cells of an element are read. -/
theorem fldA_r {α : Type} {R : List Value → α → Prop} {sz : Nat} {v : Value} {l : List α} {rows : List (List Value)} {K : Value → Value → Kont} (hv : sF F sz v l.length rows.flatten) (hr : rowsF R sz rows l) (hz : 0 < sz) {i : Nat} (hi : i < l.length) {off n : Nat} (ho : off + n ≤ sz)
    (k : ∀ p q r, R r l[i] → r.length = sz → K p q (.agg ((r.drop off).take n).toArray) ⟨F, M, N⟩) : pv (iaV none sz v (.int .i64 (i : Nat))) (fun p => pv (faV off p) fun q => ld true n q (K p q)) ⟨F, M, N⟩ := by
  obtain ⟨b, o, c, cs, r, rfl, hF, _, hR, hl, h1, hle, ht, hj⟩ := row_at hv hr hz hi
  refine iaN_r hi (pv_r rfl (ld_r (ldV_a (row_F hF) (by omega) ?_) (k _ _ r hR hl)))
  apply List.ext_getElem?
  intro j
  rw [List.getElem?_take, List.getElem?_take, List.getElem?_drop, List.getElem?_drop]
  split
  · rw [show o + i * sz + off + j = o + i * sz + (off + j) by omega, hj _ (by omega)]
  · rfl
theorem key_r {v : Value} {t : List Rw} {rows : List (List Value)} {K : Value → Value → Kont} (hv : sF F 5 v t.length rows.flatten) (hr : rowsF (rowD F) 5 rows t) {i : Nat} (hi : i < t.length)
    (k : ∀ p q kv, sF F 1 kv t[i].1.length (ic t[i].1) → t[i].1.length ≤ 140737488351232 → K p q kv ⟨F, M, N⟩) : pv (iaV none 5 v (.int .i64 (i : Nat))) (fun p => pv (faV 0 p) fun q => ld false 1 q (K p q)) ⟨F, M, N⟩ :=
  fld_r hv hr (by decide) hi (by decide) fun p q r x hR _ hx => by
    obtain ⟨kv, rfl, h1, h2⟩ := hR
    simp at hx; subst hx
    exact k p q _ h1 h2
theorem cell_r {v : Value} {t : List Rw} {rows : List (List Value)} {K : Value → Value → Kont} (hv : sF F 5 v t.length rows.flatten) (hr : rowsF (rowD F) 5 rows t) {i : Nat} (hi : i < t.length)
    (k : ∀ p q, K p q (.agg t[i].2.cs.toArray) ⟨F, M, N⟩) : pv (iaV none 5 v (.int .i64 (i : Nat))) (fun p => pv (faV 1 p) fun q => ld true 4 q (K p q)) ⟨F, M, N⟩ :=
  fldA_r hv hr (by decide) hi (by decide) fun p q r hR _ => by
    obtain ⟨kv, rfl, h1, h2⟩ := hR
    exact k p q
end Go.Proofs.YthpacapdaembpaaDoor.A
