import Derived.Test.YthpacapdaembpaaDoorA6
open Go
set_option linter.unusedVariables false
set_option linter.unusedSimpArgs false
namespace Go.Proofs.YthpacapdaembpaaDoor.A

/-! ### Keys in order -/
/-- A key against another one. -/
def kcmp : List Int → List Int → Int
  | [], [] => 0
  | [], _ :: _ => -1
  | _ :: _, [] => 1
  | a :: l, b :: m => if a < b then -1 else if a > b then 1 else kcmp l m
theorem kcmp_self : ∀ a, kcmp a a = 0
  | [] => rfl
  | a :: l => by simp [kcmp, kcmp_self l]
theorem kcmp_eq : ∀ {a b : List Int}, kcmp a b = 0 → a = b
  | [], [], _ => rfl
  | [], b :: m, h => by simp [kcmp] at h
  | a :: l, [], h => by simp [kcmp] at h
  | a :: l, b :: m, h => by
    simp only [kcmp] at h
    split at h
    · omega
    · split at h
      · omega
      · have := kcmp_eq h
        rw [this, show a = b by omega]
theorem kcmp_zero {a b : List Int} : kcmp a b = 0 ↔ a = b := ⟨kcmp_eq, fun h => by rw [h, kcmp_self]⟩
theorem kcmp_neg : ∀ (a b : List Int), kcmp b a = - kcmp a b
  | [], [] => rfl
  | [], b :: m => rfl
  | a :: l, [] => rfl
  | a :: l, b :: m => by
    simp only [kcmp]
    rcases Int.lt_trichotomy a b with h | h | h
    · rw [if_neg (by omega), if_pos (by omega), if_pos h]; rfl
    · subst h; simp [kcmp_neg l m]
    · rw [if_pos (by omega), if_neg (by omega), if_pos (by omega)]
theorem kcmp_trans : ∀ {a b c : List Int}, kcmp a b < 0 → kcmp b c < 0 → kcmp a c < 0
  | [], [], c, h, _ => by simp [kcmp] at h
  | [], b :: m, [], _, h => by simp [kcmp] at h
  | [], b :: m, c :: o, _, _ => by simp [kcmp]
  | a :: l, [], c, h, _ => by simp [kcmp] at h
  | a :: l, b :: m, [], _, h => by simp [kcmp] at h
  | a :: l, b :: m, c :: o, h1, h2 => by
    simp only [kcmp] at h1 h2 ⊢
    by_cases ha : a < b
    · by_cases hb : b < c
      · rw [if_pos (by omega)]; decide
      · rw [if_neg hb] at h2
        by_cases hc : b > c
        · rw [if_pos hc] at h2; omega
        · rw [if_pos (by omega)]; decide
    · rw [if_neg ha] at h1
      by_cases ha2 : a > b
      · rw [if_pos ha2] at h1; omega
      · rw [if_neg ha2] at h1
        have : a = b := by omega
        subst this
        by_cases hb : a < c
        · rw [if_pos hb]; decide
        · rw [if_neg hb] at h2 ⊢
          by_cases hc : a > c
          · rw [if_pos hc] at h2; omega
          · rw [if_neg hc] at h2 ⊢
            exact kcmp_trans h1 h2
theorem kcmp_vals (a b : List Int) : kcmp a b = -1 ∨ kcmp a b = 0 ∨ kcmp a b = 1 := by
  induction a generalizing b with
  | nil => cases b <;> simp [kcmp]
  | cons a l ih =>
    cases b with
    | nil => simp [kcmp]
    | cons b m =>
      simp only [kcmp]
      split
      · exact .inl rfl
      · split
        · exact .inr (.inr rfl)
        · exact ih m

/-! ### Tables -/
abbrev Rw := List Int × CE
/-- The cell at a key. -/
def look : List Rw → List Int → Option CE
  | [], _ => none
  | (k', c) :: t, k => if k' = k then some c else look t k
theorem look_none : ∀ {t : List Rw} {k : List Int}, look t k = none ↔ ∀ x ∈ t, x.1 ≠ k
  | [], k => by simp [look]
  | (k', c) :: t, k => by
    simp only [look]
    split
    · rename_i h; simp [h]
    · rename_i h; rw [look_none]; simp [h]
/-- No two are of one key. -/
def nodup (t : List Rw) : Prop := t.Pairwise fun a b => a.1 ≠ b.1
theorem look_some : ∀ {t : List Rw} {k : List Int} {c : CE}, nodup t → (look t k = some c ↔ (k, c) ∈ t)
  | [], k, c, _ => by simp [look]
  | (k', c') :: t, k, c, h => by
    have h' := List.pairwise_cons.1 h
    simp only [look]
    split
    · rename_i e
      subst e
      constructor
      · intro e; cases e; simp
      · intro e
        rcases List.mem_cons.1 e with e | e
        · cases e; rfl
        · exact absurd rfl (h'.1 (k', c) e)
    · rename_i e
      rw [look_some h'.2]
      simp [Ne.symm e]
/-- By rising keys. -/
def srt (t : List Rw) : Prop := t.Pairwise fun a b => kcmp a.1 b.1 < 0
theorem srt.nodup {t : List Rw} (h : srt t) : nodup t := h.imp fun {a b} h e => by rw [e, kcmp_self] at h; omega
theorem nodup.perm {a b : List Rw} (h : nodup a) (p : a.Perm b) : nodup b := p.pairwise h (fun {x y} h => Ne.symm h)
theorem look_perm {a b : List Rw} (h : nodup a) (p : a.Perm b) (k : List Int) : look a k = look b k := by
  cases hb : look b k with
  | none =>
    rw [look_none] at hb ⊢
    exact fun x hx => hb x (p.mem_iff.1 hx)
  | some c =>
    rw [look_some h]
    exact p.mem_iff.2 ((look_some (h.perm p)).1 hb)
/-- Tables that have the same at each key are one. -/
theorem srt_ext : ∀ {a b : List Rw}, srt a → srt b → (∀ k, look a k = look b k) → a = b
  | [], [], _, _, _ => rfl
  | [], (k, c) :: b, _, _, h => by have := h k; simp [look] at this
  | (k, c) :: a, [], _, _, h => by have := h k; simp [look] at this
  | (k, c) :: a, (k', c') :: b, ha, hb, h => by
    have ha' := List.pairwise_cons.1 ha
    have hb' := List.pairwise_cons.1 hb
    have hk : k = k' := by
      have h1 : (k, c) ∈ (k', c') :: b := (look_some hb.nodup).1 (by rw [← h k]; simp [look])
      have h2 : (k', c') ∈ (k, c) :: a := (look_some ha.nodup).1 (by rw [h k']; simp [look])
      rcases List.mem_cons.1 h1 with e | e
      · cases e; rfl
      · rcases List.mem_cons.1 h2 with e' | e'
        · cases e'; rfl
        · have := ha'.1 _ e'
          have := hb'.1 _ e
          have h3 := kcmp_neg k k'
          simp only at *
          omega
    subst hk
    have hc : c = c' := by have := h k; simpa [look] using this
    subst hc
    have : a = b := srt_ext ha'.2 hb'.2 fun q => by
      by_cases hq : k = q
      · subst hq
        rw [look_none.2 (fun x hx e => by have := ha'.1 x hx; rw [e, kcmp_self] at this; omega), look_none.2 (fun x hx e => by have := hb'.1 x hx; rw [e, kcmp_self] at this; omega)]
      · have := h q
        simpa [look, hq] using this
    rw [this]

/-- What a cell at a key comes to with one more. -/
def mrg (o : Option CE) (c : CE) : CE := match o with
  | none => c
  | some c' => c'.merge c
/-- A row more, behind the others or to that of its key. -/
def layP : List Rw → List Int → CE → List Rw
  | [], k, c => [(k, c)]
  | (k', c') :: t, k, c => if k' = k then (k', c'.merge c) :: t else (k', c') :: layP t k c
theorem layP_hit : ∀ {t : List Rw} {i : Nat} {k : List Int} {c c' : CE}, nodup t → t[i]? = some (k, c') → layP t k c = t.set i (k, c'.merge c)
  | [], i, k, c, c', _, h => by simp at h
  | (k1, c1) :: t, 0, k, c, c', _, h => by simp at h; obtain ⟨rfl, rfl⟩ := h; simp [layP]
  | (k1, c1) :: t, i + 1, k, c, c', hn, h => by
    have hn' := List.pairwise_cons.1 hn
    have h' : t[i]? = some (k, c') := by simpa using h
    have : k1 ≠ k := hn'.1 _ (List.mem_of_getElem? h')
    simp [layP, this, layP_hit hn'.2 h']
theorem layP_miss : ∀ {t : List Rw} {k : List Int} {c : CE}, (∀ x ∈ t, x.1 ≠ k) → layP t k c = t ++ [(k, c)]
  | [], k, c, _ => rfl
  | (k1, c1) :: t, k, c, h => by
    have := h (k1, c1) (by simp)
    simp only at this
    simp [layP, this, layP_miss (fun x hx => h x (List.mem_cons_of_mem _ hx))]
theorem layP_keys : ∀ (t : List Rw) (k : List Int) (c : CE) (x : Rw), x ∈ layP t k c → x.1 = k ∨ ∃ y ∈ t, y.1 = x.1
  | [], k, c, x, h => by simp [layP] at h; exact .inl (by rw [h])
  | (k1, c1) :: t, k, c, x, h => by
    simp only [layP] at h
    split at h
    · rename_i e
      rcases List.mem_cons.1 h with h | h
      · exact .inl (by rw [h]; exact e)
      · exact .inr ⟨x, by simp [h], rfl⟩
    · rcases List.mem_cons.1 h with h | h
      · exact .inr ⟨(k1, c1), by simp, by rw [h]⟩
      · rcases layP_keys t k c x h with h | ⟨y, hy, e⟩
        · exact .inl h
        · exact .inr ⟨y, by simp [hy], e⟩
theorem layP_nodup : ∀ {t : List Rw} {k : List Int} {c : CE}, nodup t → nodup (layP t k c)
  | [], k, c, _ => by simp [layP, nodup]
  | (k1, c1) :: t, k, c, h => by
    have h' := List.pairwise_cons.1 h
    simp only [layP]
    split
    · exact List.pairwise_cons.2 ⟨h'.1, h'.2⟩
    · rename_i hk
      refine List.pairwise_cons.2 ⟨fun x hx => ?_, layP_nodup h'.2⟩
      rcases layP_keys t k c x hx with e | ⟨y, hy, e⟩
      · rw [e]; exact hk
      · rw [← e]; exact h'.1 y hy
theorem layP_look : ∀ (t : List Rw) (k : List Int) (c : CE) (q : List Int), look (layP t k c) q = if k = q then some (mrg (look t k) c) else look t q
  | [], k, c, q => by simp [layP, look, mrg]
  | (k1, c1) :: t, k, c, q => by
    simp only [layP]
    by_cases h : k1 = k
    · subst h
      rw [if_pos rfl]
      simp only [look, if_true]
      by_cases h2 : k1 = q
      · simp [h2, mrg]
      · simp [h2]
    · rw [if_neg h]
      simp only [look, if_neg h]
      rw [layP_look t k c q]
      by_cases h2 : k1 = q
      · rw [if_pos h2, if_neg (fun e => h (by rw [h2, e])), if_pos h2]
      · rw [if_neg h2, if_neg h2]
/-- A row more, at its place. -/
def layR : List Rw → List Int → CE → List Rw
  | [], k, c => [(k, c)]
  | (k', c') :: t, k, c => if kcmp k' k < 0 then (k', c') :: layR t k c else if kcmp k' k = 0 then (k, c'.merge c) :: t else (k, c) :: (k', c') :: t
theorem layR_keys : ∀ (t : List Rw) (k : List Int) (c : CE) (x : Rw), x ∈ layR t k c → x.1 = k ∨ x ∈ t
  | [], k, c, x, h => by simp [layR] at h; exact .inl (by rw [h])
  | (k1, c1) :: t, k, c, x, h => by
    simp only [layR] at h
    split at h
    · rcases List.mem_cons.1 h with h | h
      · exact .inr (by rw [h]; simp)
      · rcases layR_keys t k c x h with h | h
        · exact .inl h
        · exact .inr (by simp [h])
    · split at h
      · rcases List.mem_cons.1 h with h | h
        · exact .inl (by rw [h])
        · exact .inr (by simp [h])
      · rcases List.mem_cons.1 h with h | h
        · exact .inl (by rw [h])
        · exact .inr h
theorem layR_srt : ∀ {t : List Rw} {k : List Int} {c : CE}, srt t → srt (layR t k c)
  | [], k, c, _ => by simp [layR, srt]
  | (k1, c1) :: t, k, c, h => by
    have h' := List.pairwise_cons.1 h
    simp only [layR]
    split
    · rename_i hk
      refine List.pairwise_cons.2 ⟨fun x hx => ?_, layR_srt h'.2⟩
      rcases layR_keys t k c x hx with e | e
      · rw [e]; exact hk
      · exact h'.1 x e
    · split
      · rename_i hk
        have := kcmp_eq hk
        subst this
        exact List.pairwise_cons.2 ⟨h'.1, h'.2⟩
      · rename_i h1 h2
        have h3 : kcmp k k1 < 0 := by rw [kcmp_neg k1 k]; omega
        refine List.pairwise_cons.2 ⟨fun x hx => ?_, h⟩
        rcases List.mem_cons.1 hx with e | e
        · rw [e]; exact h3
        · exact kcmp_trans h3 (h'.1 x e)
theorem layR_look : ∀ {t : List Rw} (k : List Int) (c : CE) (q : List Int), srt t → look (layR t k c) q = if k = q then some (mrg (look t k) c) else look t q
  | [], k, c, q, _ => by simp [layR, look, mrg]
  | (k1, c1) :: t, k, c, q, h => by
    have h' := List.pairwise_cons.1 h
    simp only [layR]
    split
    · rename_i hk
      have hne : k1 ≠ k := fun e => by rw [e, kcmp_self] at hk; omega
      simp only [look, if_neg hne]
      rw [layR_look k c q h'.2]
      by_cases h2 : k1 = q
      · rw [if_pos h2, if_neg (fun e => hne (by rw [h2, e])), if_pos h2]
      · rw [if_neg h2, if_neg h2]
    · split
      · rename_i hk
        have := kcmp_eq hk
        subst this
        simp only [look, if_true]
        by_cases h2 : k1 = q
        · simp [h2, mrg]
        · simp [h2]
      · rename_i h1 h2
        have hne : k1 ≠ k := fun e => h2 (by rw [e, kcmp_self])
        have hno : look t k = none := look_none.2 fun x hx e => by
          have h3 := h'.1 x hx
          rw [e] at h3
          exact h1 h3
        simp only [look, if_neg hne, hno, mrg]
/-- The table of rows. -/
def tab (l : List Rw) : List Rw := l.foldl (fun t r => layR t r.1 r.2) []
/-- The sheet of rows, as the program lays them. -/
def sheet (l : List Rw) : List Rw := l.foldl (fun t r => layP t r.1 r.2) []
theorem tab_snoc (l : List Rw) (r : Rw) : tab (l ++ [r]) = layR (tab l) r.1 r.2 := by simp [tab]
theorem sheet_snoc (l : List Rw) (r : Rw) : sheet (l ++ [r]) = layP (sheet l) r.1 r.2 := by simp [sheet]
theorem fold_srt (l : List Rw) : ∀ t, srt t → srt (l.foldl (fun t r => layR t r.1 r.2) t) := by
  induction l with
  | nil => exact fun t h => h
  | cons r l ih => exact fun t h => ih _ (layR_srt h)
theorem fold_nodup (l : List Rw) : ∀ t, nodup t → nodup (l.foldl (fun t r => layP t r.1 r.2) t) := by
  induction l with
  | nil => exact fun t h => h
  | cons r l ih => exact fun t h => ih _ (layP_nodup h)
theorem tab_srt (l : List Rw) : srt (tab l) := fold_srt l [] .nil
theorem sheet_nodup (l : List Rw) : nodup (sheet l) := fold_nodup l [] .nil
theorem fold_look (l : List Rw) : ∀ (s t : List Rw), srt t → (∀ q, look s q = look t q) → ∀ q, look (l.foldl (fun t r => layP t r.1 r.2) s) q = look (l.foldl (fun t r => layR t r.1 r.2) t) q := by
  induction l with
  | nil => exact fun s t _ h => h
  | cons r l ih =>
    intro s t ht h
    refine ih _ _ (layR_srt ht) fun q => ?_
    rw [layP_look, layR_look _ _ _ ht, h, h]
theorem sheet_look (l : List Rw) (q : List Int) : look (sheet l) q = look (tab l) q := fold_look l [] [] .nil (fun _ => rfl) q
/-- The sheet in order is the table. -/
theorem sheet_sorted {l d : List Rw} (p : (sheet l).Perm d) (h : srt d) : d = tab l :=
  srt_ext h (tab_srt l) fun q => by rw [← look_perm (sheet_nodup l) p, sheet_look]
theorem layP_len (t : List Rw) (k : List Int) (c : CE) : (layP t k c).length ≤ t.length + 1 := by
  induction t with
  | nil => simp [layP]
  | cons x t ih =>
    obtain ⟨k1, c1⟩ := x
    simp only [layP]
    split
    · simp
    · simp; omega
theorem layR_len (t : List Rw) (k : List Int) (c : CE) : (layR t k c).length ≤ t.length + 1 := by
  induction t with
  | nil => simp [layR]
  | cons x t ih =>
    obtain ⟨k1, c1⟩ := x
    simp only [layR]
    split
    · simp; omega
    · split <;> simp
end Go.Proofs.YthpacapdaembpaaDoor.A
