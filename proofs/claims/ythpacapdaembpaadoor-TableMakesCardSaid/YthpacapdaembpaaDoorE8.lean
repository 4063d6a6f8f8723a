import Derived.Test.YthpacapdaembpaaDoorE7
import Derived.Test.YthpacapdaembpaaDoorU5
open Go Go.RowKit Go.Proofs.YthpacapdaembpaaDoor.K Go.Proofs.YthpacapdaembpaaDoor.T
set_option linter.unusedVariables false
set_option linter.unusedSimpArgs false
namespace Go.Proofs.YthpacapdaembpaaDoor.A
variable {F F' : Nat → Option (List Value)} {M M' : Nat → Option Chunk} {N N' : Nat} {K : Kont} {E : PanK}
/-- A call, from less that is known. -/
theorem callv_go {P : Program} {f : FuncId} {first captured args : Array Value} {h : Hp} (H : h.wf → ∃ h', h.wk h' ∧ callv P (.func (.func f) first captured) args K E h') : callv P (.func (.func f) first captured) args K E h := by
  by_cases hw : h.wf
  · obtain ⟨h', hk, hc⟩ := H hw
    rcases hc with ⟨h1, h2⟩ | h2
    · exact .inl ⟨h1, fun w0 w r => h2 w0 w (r.wk hk)⟩
    · exact .inr fun w0 w r => h2 w0 w (r.wk hk)
  · exact .inr fun w0 w r => absurd r.wf hw
theorem frz_at {b : Nat} {e : TypeId} {cs : List Value} {tot : Nat} (hb : N ≤ b) (hM : M b = some (.cells e cs tot)) : frzAll F M N b = some cs := by simp [frzAll, hb, hM]
theorem sF_lit {b m c sz : Nat} {cells : List Value} (hF : F b = some cells) (hl : cells.length = m * sz) (hc : m ≤ c) : sF F sz (.slice (some ⟨b, 0, none⟩) m c) m cells :=
  ⟨hl, .inr ⟨b, 0, c, cells, rfl, hc, hF, by rw [List.drop_zero, ← hl, List.take_length]⟩⟩
/-- a field of an element's cell -/
theorem cf_r {v : Value} {t : List Rw} {rows : List (List Value)} {K : Value → Value → Value → Kont} (off : Nat) {x : Value} (hv : sF F 5 v t.length rows.flatten) (hr : rowsF (rowD F) 5 rows t) {i : Nat} (hi : i < t.length) (hx : t[i].2.cs[off]? = some x)
    (k : ∀ p q q', K p q q' x ⟨F, M, N⟩) : pv (iaV none 5 v (.int .i64 (i : Nat))) (fun p => pv (faV 1 p) fun q => pv (faV off q) fun q' => ld false 1 q' (K p q q')) ⟨F, M, N⟩ := by
  obtain ⟨b, o, c, cs, r, rfl, hF, _, ⟨kv, rfl, _⟩, hl, h1, hle, ht, hj⟩ := row_at hv hr (by decide) hi
  have ho : off < 4 := (List.getElem?_eq_some_iff.1 hx).1
  exact iaN_r hi (pv_r rfl (pv_r rfl (ld_r (ldV_c (row_F hF) ((by rw [Nat.add_assoc, Nat.add_comm 1 off]; exact (hj (off + 1) (by omega)).trans hx))) (k _ _ _))))
theorem addw_r {e : EqK} {a b : Int} {h : Hp} (k : K (.int .i64 (IntKind.i64.wrap (a + b))) h) : pv (binV e .add (.int .i64 a) (.int .i64 b)) K h := ⟨_, by rw [inV]; rfl, k⟩
/-- How much is looked at. -/
def wt (l : List (List Int)) : Nat := (l.map fun k => 1 + k.length).sum
theorem wt_snoc (l : List (List Int)) (k : List Int) : wt (l ++ [k]) = wt l + (1 + k.length) := by simp [wt]
theorem wt_le (l : List (List Int)) (h : ∀ k ∈ l, k.length ≤ 140737488351232) : wt l ≤ l.length * 140737488351233 := by
  induction l with
  | nil => simp [wt]
  | cons k l ih =>
    have h1 := ih (fun x hx => h x (by simp [hx]))
    have h2 := h k (by simp)
    simp only [wt, List.map_cons, List.sum_cons, List.length_cons] at h1 ⊢
    omega
theorem wt_mem {l : List (List Int)} {k : List Int} (h : k ∈ l) : k.length < wt l := by
  induction l with
  | nil => cases h
  | cons x l ih =>
    simp only [wt, List.map_cons, List.sum_cons] at ih ⊢
    rcases List.mem_cons.1 h with rfl | h
    · omega
    · have := ih h; omega
/-- heavy -/
theorem heavy_c {u v : Value} {t : List Rw} {l : List Fc} (hu : tblD F u t) (hv : fctsD F v l) (hut : t.length ≤ 140737488351232) (hvt : l.length ≤ 140737488351232)
    (k : ∀ r, (r = false → t.length ≤ 300 ∧ l.length ≤ 300 ∧ wt (t.map (·.1)) + wt (l.map (·.1)) ≤ 2000) → K (.bool r) ⟨F, M, N⟩) :
    callv Tryd.prog (.func (.func 17) #[] #[]) #[u, v] K E ⟨F, M, N⟩ := by
  refine callv_of_text mixed Tryd.func17 (by kernel_rfl) (t17 _ E _ _) (fun hw => ?_)
  obtain ⟨ru, hu1, hu2⟩ := hu
  obtain ⟨rv, hv1, hv2⟩ := hv
  have hlu : lenV u = some (.int .i64 (t.length : Nat)) := by obtain ⟨a, c, rfl, _⟩ := hu1.form; rfl
  have hlv : lenV v = some (.int .i64 (l.length : Nat)) := by obtain ⟨a, c, rfl, _⟩ := hv1.form; rfl
  have hku : ∀ r ∈ t, r.1.length ≤ 140737488351232 := fun r hr => by
    obtain ⟨i, hi, rfl⟩ := List.mem_iff_getElem.1 hr
    obtain ⟨_, _, _, _, _, _, _, _, ⟨kv, _, _, h⟩, _⟩ := row_at hu1 hu2 (by decide) hi
    exact h
  have hkv : ∀ r ∈ l, r.1.length ≤ 140737488351232 := fun r hr => by
    obtain ⟨i, hi, rfl⟩ := List.mem_iff_getElem.1 hr
    obtain ⟨_, _, _, _, _, _, _, _, ⟨kv, _, _, h⟩, _⟩ := row_at hv1 hv2 (by decide) hi
    exact h
  have ht1 : ∀ i, i ≤ t.length → wt ((t.take i).map (·.1)) ≤ i * 140737488351233 := fun i hi => by
    have := wt_le ((t.take i).map (·.1)) (fun k hk => by obtain ⟨r, hr, rfl⟩ := List.mem_map.1 hk; exact hku r (List.mem_of_mem_take hr))
    simpa [List.length_take, Nat.min_eq_left hi] using this
  have hl1 : ∀ i, i ≤ l.length → wt ((l.take i).map (·.1)) ≤ i * 140737488351233 := fun i hi => by
    have := wt_le ((l.take i).map (·.1)) (fun k hk => by obtain ⟨r, hr, rfl⟩ := List.mem_map.1 hk; exact hkv r (List.mem_of_mem_take hr))
    simpa [List.length_take, Nat.min_eq_left hi] using this
  refine l17_1_1_0_1_0_0 (σ := Nat × Int) (fun s => .int .i64 s.2) (fun s => .int .i64 (s.1 : Nat)) (fun s h => h = ⟨F, M, N⟩ ∧ s.1 ≤ t.length ∧ (t.length ≤ 300 → s.2 = wt ((t.take s.1).map (·.1)))) (fun s => t.length - s.1) (0, 0) rfl rfl
    (fun hw1 => ⟨_, wk_refl hw1, rfl, Nat.zero_le _, fun _ => rfl⟩) (fun k1 s j h1 hI hw1 next => ?_)
  obtain ⟨rfl, hi, he⟩ := hI
  simp only [hlu]
  try simp only [gdTT, gdFF, gdTF, gdFT, pvS, pickT, pickF, faP, lenS, nilP, exA, exB, exC, notB, cndT, cndF, Bool.not_true, Bool.not_false, Nat.zero_add, Nat.add_zero]
  refine lss_r (fun hlt => ?_) (fun hge => ?_)
  · have h1 : s.1 < t.length := by omega
    try simp only [gdTT, gdFF, gdTF, gdFT, pvS, pickT, pickF, faP, lenS, nilP, exA, exB, exC, notB, cndT, cndF, Bool.not_true, Bool.not_false, Nat.zero_add, Nat.add_zero]
    refine key_r hu1 hu2 h1 fun p q kv hkv' hkl => lenF_r hkv' ?_
    refine add_n (a := 1) (by omega) (addw_r (inc_r (by omega) ?_))
    refine next (s.1 + 1, IntKind.i64.wrap (s.2 + ((1 + t[s.1].1.length : Nat) : Int))) _ _ (by simp only; omega) (fun hw2 => ⟨_, wk_refl hw2, rfl, h1, fun h3 => ?_⟩)
    have h4 := ht1 s.1 hi
    have h5 : s.1 * 140737488351233 ≤ 300 * 140737488351233 := Nat.mul_le_mul_right _ (by omega)
    simp only
    rw [he h3, wrap_in (by omega) (by omega), List.take_add_one, List.getElem?_eq_getElem h1, Option.toList_some, List.map_append, List.map_singleton, wt_snoc]
    omega
  · try simp only [gdTT, gdFF, gdTF, gdFT, pvS, pickT, pickF, faP, lenS, nilP, exA, exB, exC, notB, cndT, cndF, Bool.not_true, Bool.not_false, Nat.zero_add, Nat.add_zero]
    rw [t17_1_1_1]
    rw [List.take_of_length_le (by omega)] at he
    refine l17_1_1_1_0_1_0_0 (σ := Nat × Int) (fun s => .int .i64 s.2) (fun s => .int .i64 (s.1 : Nat)) (fun s h => h = ⟨F, M, N⟩ ∧ s.1 ≤ l.length ∧ (t.length ≤ 300 → l.length ≤ 300 → s.2 = ((wt (t.map (·.1)) + wt ((l.take s.1).map (·.1)) : Nat) : Int))) (fun s => l.length - s.1) (0, s.2) rfl rfl
      (fun hw1 => ⟨_, wk_refl hw1, rfl, Nat.zero_le _, fun h _ => he h⟩) (fun k1 s j h1 hI hw1 next => ?_)
    obtain ⟨rfl, hi, he⟩ := hI
    have h4 := hl1 s.1 hi
    have h6 := ht1 t.length (Nat.le_refl _)
    rw [List.take_length] at h6
    simp only [hlv]
    try simp only [gdTT, gdFF, gdTF, gdFT, pvS, pickT, pickF, faP, lenS, nilP, exA, exB, exC, notB, cndT, cndF, Bool.not_true, Bool.not_false, Nat.zero_add, Nat.add_zero]
    refine lss_r (fun hlt => ?_) (fun hge => ?_)
    · have h1 : s.1 < l.length := by omega
      try simp only [gdTT, gdFF, gdTF, gdFT, pvS, pickT, pickF, faP, lenS, nilP, exA, exB, exC, notB, cndT, cndF, Bool.not_true, Bool.not_false, Nat.zero_add, Nat.add_zero]
      refine fld_r hv1 hv2 (by decide) h1 (off := 0) (by decide) fun p q r x hR _ hx => ?_
      obtain ⟨kv, rfl, hkv', hkl⟩ := hR
      simp at hx
      subst hx
      refine lenF_r hkv' ?_
      refine add_n (a := 1) (by omega) (addw_r (inc_r (by omega) ?_))
      refine next (s.1 + 1, IntKind.i64.wrap (s.2 + ((1 + l[s.1].1.length : Nat) : Int))) _ _ (by simp only; omega) (fun hw2 => ⟨_, wk_refl hw2, rfl, h1, fun h3 h3' => ?_⟩)
      have h5 : s.1 * 140737488351233 ≤ 300 * 140737488351233 := Nat.mul_le_mul_right _ (by omega)
      have h7 : t.length * 140737488351233 ≤ 300 * 140737488351233 := Nat.mul_le_mul_right _ (by omega)
      simp only
      rw [he h3 h3', wrap_in (by omega) (by omega), List.take_add_one, List.getElem?_eq_getElem h1, Option.toList_some, List.map_append, List.map_singleton, wt_snoc]
      omega
    · try simp only [gdTT, gdFF, gdTF, gdFT, pvS, pickT, pickF, faP, lenS, nilP, exA, exB, exC, notB, cndT, cndF, Bool.not_true, Bool.not_false, Nat.zero_add, Nat.add_zero]
      rw [t17_1_1_1_1]
      rw [List.take_of_length_le (by omega)] at he
      refine gtr_r (fun h1 => ?_) (fun h1 => ?_)
      · try simp only [gdTT, gdFF, gdTF, gdFT, pvS, pickT, pickF, faP, lenS, nilP, exA, exB, exC, notB, cndT, cndF, Bool.not_true, Bool.not_false, Nat.zero_add, Nat.add_zero]
        exact fun hc => ⟨_, wk_refl hc, fun _ => k _ (fun h => by cases h)⟩
      · try simp only [gdTT, gdFF, gdTF, gdFT, pvS, pickT, pickF, faP, lenS, nilP, exA, exB, exC, notB, cndT, cndF, Bool.not_true, Bool.not_false, Nat.zero_add, Nat.add_zero]
        simp only [hlu]
        try simp only [gdTT, gdFF, gdTF, gdFT, pvS, pickT, pickF, faP, lenS, nilP, exA, exB, exC, notB, cndT, cndF, Bool.not_true, Bool.not_false, Nat.zero_add, Nat.add_zero]
        refine gtr_r (fun h2 => ?_) (fun h2 => ?_)
        · try simp only [gdTT, gdFF, gdTF, gdFT, pvS, pickT, pickF, faP, lenS, nilP, exA, exB, exC, notB, cndT, cndF, Bool.not_true, Bool.not_false, Nat.zero_add, Nat.add_zero]
          exact fun hc => ⟨_, wk_refl hc, fun _ => k _ (fun h => by cases h)⟩
        · try simp only [gdTT, gdFF, gdTF, gdFT, pvS, pickT, pickF, faP, lenS, nilP, exA, exB, exC, notB, cndT, cndF, Bool.not_true, Bool.not_false, Nat.zero_add, Nat.add_zero]
          simp only [hlv]
          try simp only [gdTT, gdFF, gdTF, gdFT, pvS, pickT, pickF, faP, lenS, nilP, exA, exB, exC, notB, cndT, cndF, Bool.not_true, Bool.not_false, Nat.zero_add, Nat.add_zero]
          refine gtr_r (fun h3 => ?_) (fun h3 => ?_)
          · try simp only [gdTT, gdFF, gdTF, gdFT, pvS, pickT, pickF, faP, lenS, nilP, exA, exB, exC, notB, cndT, cndF, Bool.not_true, Bool.not_false, Nat.zero_add, Nat.add_zero]
            exact fun hc => ⟨_, wk_refl hc, fun _ => k _ (fun h => by cases h)⟩
          · try simp only [gdTT, gdFF, gdTF, gdFT, pvS, pickT, pickF, faP, lenS, nilP, exA, exB, exC, notB, cndT, cndF, Bool.not_true, Bool.not_false, Nat.zero_add, Nat.add_zero]
            refine fun hc => ⟨_, wk_refl hc, fun _ => k _ (fun _ => ⟨by omega, by omega, ?_⟩)⟩
            have := he (by omega) (by omega)
            omega
theorem tab_known : tab ([([1, 0], 3), ([0, 2], 4), ([1, 0], 5)].map fr1) = [([0, 2], ⟨1, 4, 4, 4⟩), ([1, 0], ⟨2, 8, 3, 5⟩)] := by decide +kernel
end Go.Proofs.YthpacapdaembpaaDoor.A
