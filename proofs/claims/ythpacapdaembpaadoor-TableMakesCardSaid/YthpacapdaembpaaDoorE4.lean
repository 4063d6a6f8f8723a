import Derived.Test.YthpacapdaembpaaDoorE3
import Derived.Test.YthpacapdaembpaaDoorD7
open Go Go.RowKit Go.Proofs.YthpacapdaembpaaDoor.K Go.Proofs.YthpacapdaembpaaDoor.T
set_option linter.unusedVariables false
set_option linter.unusedSimpArgs false
namespace Go.Proofs.YthpacapdaembpaaDoor.A
variable {F F' : Nat → Option (List Value)} {M M' : Nat → Option Chunk} {N N' : Nat} {K : Kont} {E : PanK}
theorem layR_tab_len (l : List Rw) : ∀ t : List Rw, (l.foldl (fun t r => layR t r.1 r.2) t).length ≤ t.length + l.length := by
  induction l with
  | nil => intro t; simp
  | cons r l ih => intro t; have := ih (layR t r.1 r.2); have h2 := layR_len t r.1 r.2; simp at this ⊢; omega
theorem tab_len (l : List Rw) : (tab l).length ≤ l.length := by have := layR_tab_len l []; simpa [tab] using this
theorem tab_take {α : Type} (f : α → Rw) (l : List α) {i : Nat} (h : i < l.length) : tab ((l.take (i + 1)).map f) = layR (tab ((l.take i).map f)) (f l[i]).1 (f l[i]).2 := by
  rw [List.take_add_one, List.getElem?_eq_getElem h, Option.toList_some, List.map_append, List.map_singleton, tab_snoc]
/-- Make, of the reference -/
theorem rmake_c {v : Value} {l : List Fc} (hv : fctsD F v l) (hl : l.length ≤ 1000000000) (hk : ∀ f ∈ l, f.1.length ≤ 10000000000)
    (k : ∀ v' F' N', (Hp.mk F' M N').wf → subF F F' → N ≤ N' → tblD F' v' (tab (l.map fr1)) → K v' ⟨F', M, N'⟩) :
    callv Tryd.prog (.func (.func 25) #[] #[]) #[v] K E ⟨F, M, N⟩ := by
  refine callv_of_text mixed Tryd.func25 (by kernel_rfl) (t25 _ E _) (fun hw => ?_)
  obtain ⟨rows, hv1, hv2⟩ := hv
  have hlv : lenV v = some (.int .i64 (l.length : Nat)) := by obtain ⟨a, c, rfl, _⟩ := hv1.form; rfl
  refine l25_1_1_0_1_0_0 (σ := Nat × Value) (fun s => s.2) (fun s => .int .i64 (s.1 : Nat)) (fun s h => ∃ F' N', h = ⟨F', M, N'⟩ ∧ subF F F' ∧ N ≤ N' ∧ s.1 ≤ l.length ∧ tblD F' s.2 (tab ((l.take s.1).map fr1))) (fun s => l.length - s.1) (0, .slice none 0 0) rfl rfl
    (fun hw1 => ⟨_, wk_refl hw1, _, _, rfl, subF.refl _, Nat.le_refl _, Nat.zero_le _, tblD.nil⟩) (fun k1 s j h1 hI hw1 next => ?_)
  obtain ⟨F1, N1, rfl, hF, hN, hi, ht⟩ := hI
  simp only [hlv]
  try simp only [gdTT, gdFF, gdTF, gdFT, pvS, pickT, pickF, faP, lenS, nilP, exA, exB, exC, notB, cndT, cndF, Bool.not_true, Bool.not_false, Nat.zero_add, Nat.add_zero]
  refine lss_r (fun hlt => ?_) (fun hge => ?_)
  · have h1 : s.1 < l.length := by omega
    try simp only [gdTT, gdFF, gdTF, gdFT, pvS, pickT, pickF, faP, lenS, nilP, exA, exB, exC, notB, cndT, cndF, Bool.not_true, Bool.not_false, Nat.zero_add, Nat.add_zero]
    obtain ⟨b, o, c, cs, r, rfl, hFb, hrr, ⟨kv, hr, hkv, hkl⟩, hrl, hr1, hle, htk, hj⟩ := row_at (hv1.mono hF) (hv2.mono fun _ _ h => h.mono hF) (by decide) h1
    subst hr
    have hx := hj 0 (by decide)
    refine iaN_r h1 ?_
    try simp only [gdTT, gdFF, gdTF, gdFT, pvS, pickT, pickF, faP, lenS, nilP, exA, exB, exC, notB, cndT, cndF, Bool.not_true, Bool.not_false, Nat.zero_add, Nat.add_zero]
    refine ld_r (ldV_c (row_F hFb) hx) ?_
    refine iaN_r h1 ?_
    try simp only [gdTT, gdFF, gdTF, gdFT, pvS, pickT, pickF, faP, lenS, nilP, exA, exB, exC, notB, cndT, cndF, Bool.not_true, Bool.not_false, Nat.zero_add, Nat.add_zero]
    refine ld_r (ldV_c (row_F hFb) (hj 1 (by decide))) ?_
    refine rof_c (fun N2 hN2 hw2 => ?_)
    refine ⟨ldV_c (row_F hFb) hx, ?_⟩
    obtain ⟨ka, kc, rfl, _⟩ := hkv.form
    refine pv_r (v := .agg (.slice ka l[s.1].1.length kc :: (ofC l[s.1].2).cs).toArray) (by kernel_rfl) ?_
    have hln := tab_len ((l.take s.1).map fr1)
    rw [List.length_map, List.length_take] at hln
    refine rlay_c ht hkv (hk _ (List.getElem_mem _)) (by omega) (fun v' F2 N3 hw3 hF2 hN3 ht' => ?_)
    refine inc_r (by omega) ?_
    refine next (s.1 + 1, v') _ _ (by simp only; omega) (fun hw4 => ⟨_, wk_refl hw4, F2, N3, rfl, hF.trans hF2, by omega, by simp only; omega, ?_⟩)
    simp only
    rw [tab_take fr1 l h1]
    exact ht'
  · try simp only [gdTT, gdFF, gdTF, gdFT, pvS, pickT, pickF, faP, lenS, nilP, exA, exB, exC, notB, cndT, cndF, Bool.not_true, Bool.not_false, Nat.zero_add, Nat.add_zero]
    rw [t25_1_1_1]
    rw [List.take_of_length_le (by omega)] at ht
    exact fun hc => ⟨_, wk_refl hc, fun hw' => k _ _ _ hw' hF hN ht⟩
/-- Merge, of the reference -/
theorem rMerge_c {u v : Value} {a b : List Rw} (hu : tblD F u a) (hv : tblD F v b) (hla : a.length + b.length ≤ 1000000000) (hk : ∀ r ∈ a ++ b, r.1.length ≤ 10000000000)
    (k : ∀ v' F' N', (Hp.mk F' M N').wf → subF F F' → N ≤ N' → tblD F' v' (tab (a ++ b)) → K v' ⟨F', M, N'⟩) :
    callv Tryd.prog (.func (.func 28) #[] #[]) #[u, v] K E ⟨F, M, N⟩ := by
  refine callv_of_text mixed Tryd.func28 (by kernel_rfl) (t28 _ E _ _) (fun hw => ?_)
  obtain ⟨ru, hu1, hu2⟩ := hu
  obtain ⟨rv, hv1, hv2⟩ := hv
  have hlu : lenV u = some (.int .i64 (a.length : Nat)) := by obtain ⟨a, c, rfl, _⟩ := hu1.form; rfl
  have hlv : lenV v = some (.int .i64 (b.length : Nat)) := by obtain ⟨a, c, rfl, _⟩ := hv1.form; rfl
  refine l28_1_1_0_1_0_0 (σ := Nat × Value) (fun s => s.2) (fun s => .int .i64 (s.1 : Nat)) (fun s h => ∃ F' N', h = ⟨F', M, N'⟩ ∧ subF F F' ∧ N ≤ N' ∧ s.1 ≤ a.length ∧ tblD F' s.2 (tab (a.take s.1))) (fun s => a.length - s.1) (0, .slice none 0 0) rfl rfl
    (fun hw1 => ⟨_, wk_refl hw1, _, _, rfl, subF.refl _, Nat.le_refl _, Nat.zero_le _, tblD.nil⟩) (fun k1 s j h1 hI hw1 next => ?_)
  obtain ⟨F1, N1, rfl, hF, hN, hi, ht⟩ := hI
  simp only [hlu]
  try simp only [gdTT, gdFF, gdTF, gdFT, pvS, pickT, pickF, faP, lenS, nilP, exA, exB, exC, notB, cndT, cndF, Bool.not_true, Bool.not_false, Nat.zero_add, Nat.add_zero]
  have hln := tab_len (a.take s.1)
  rw [List.length_take] at hln
  refine lss_r (fun hlt => ?_) (fun hge => ?_)
  · have h1 : s.1 < a.length := by omega
    try simp only [gdTT, gdFF, gdTF, gdFT, pvS, pickT, pickF, faP, lenS, nilP, exA, exB, exC, notB, cndT, cndF, Bool.not_true, Bool.not_false, Nat.zero_add, Nat.add_zero]
    refine row_r (hu1.mono hF) (hu2.mono fun _ _ h => h.mono hF) (by decide) h1 fun p r hrr hR _ _ => ?_
    obtain ⟨kv, rfl, hkv, hkl⟩ := hR
    refine rlay_c ht hkv (hk _ (List.mem_append_left _ (List.getElem_mem _))) (by omega) (fun v' F2 N3 hw3 hF2 hN3 ht' => ?_)
    refine inc_r (by omega) ?_
    refine next (s.1 + 1, v') _ _ (by simp only; omega) (fun hw4 => ⟨_, wk_refl hw4, F2, N3, rfl, hF.trans hF2, by omega, by simp only; omega, ?_⟩)
    simp only
    have := tab_take id a h1
    simp only [List.map_id, id] at this
    rw [this]; exact ht'
  · try simp only [gdTT, gdFF, gdTF, gdFT, pvS, pickT, pickF, faP, lenS, nilP, exA, exB, exC, notB, cndT, cndF, Bool.not_true, Bool.not_false, Nat.zero_add, Nat.add_zero]
    rw [t28_1_1_1]
    rw [List.take_of_length_le (by omega)] at ht
    refine l28_1_1_1_0_1_0_0 (σ := Nat × Value) (fun s => s.2) (fun s => .int .i64 (s.1 : Nat)) (fun s h => ∃ F' N', h = ⟨F', M, N'⟩ ∧ subF F F' ∧ N ≤ N' ∧ s.1 ≤ b.length ∧ tblD F' s.2 (tab (a ++ b.take s.1))) (fun s => b.length - s.1) (0, s.2) rfl rfl
      (fun hw1 => ⟨_, wk_refl hw1, _, _, rfl, hF, hN, Nat.zero_le _, by simpa using ht⟩) (fun k1 s j h1 hI hw1 next => ?_)
    obtain ⟨F1, N1, rfl, hF, hN, hi, ht⟩ := hI
    simp only [hlv]
    try simp only [gdTT, gdFF, gdTF, gdFT, pvS, pickT, pickF, faP, lenS, nilP, exA, exB, exC, notB, cndT, cndF, Bool.not_true, Bool.not_false, Nat.zero_add, Nat.add_zero]
    have hln := tab_len (a ++ b.take s.1)
    rw [List.length_append, List.length_take] at hln
    refine lss_r (fun hlt => ?_) (fun hge => ?_)
    · have h1 : s.1 < b.length := by omega
      try simp only [gdTT, gdFF, gdTF, gdFT, pvS, pickT, pickF, faP, lenS, nilP, exA, exB, exC, notB, cndT, cndF, Bool.not_true, Bool.not_false, Nat.zero_add, Nat.add_zero]
      refine row_r (hv1.mono hF) (hv2.mono fun _ _ h => h.mono hF) (by decide) h1 fun p r hrr hR _ _ => ?_
      obtain ⟨kv, rfl, hkv, hkl⟩ := hR
      refine rlay_c ht hkv (hk _ (List.mem_append_right _ (List.getElem_mem _))) (by omega) (fun v' F2 N3 hw3 hF2 hN3 ht' => ?_)
      refine inc_r (by omega) ?_
      refine next (s.1 + 1, v') _ _ (by simp only; omega) (fun hw4 => ⟨_, wk_refl hw4, F2, N3, rfl, hF.trans hF2, by omega, by simp only; omega, ?_⟩)
      simp only
      rw [List.take_add_one, List.getElem?_eq_getElem h1, Option.toList_some, ← List.append_assoc, tab_snoc]; exact ht'
    · try simp only [gdTT, gdFF, gdTF, gdFT, pvS, pickT, pickF, faP, lenS, nilP, exA, exB, exC, notB, cndT, cndF, Bool.not_true, Bool.not_false, Nat.zero_add, Nat.add_zero]
      rw [t28_1_1_1_1]
      rw [List.take_of_length_le (by omega)] at ht
      exact fun hc => ⟨_, wk_refl hc, fun hw' => k _ _ _ hw' hF hN ht⟩
end Go.Proofs.YthpacapdaembpaaDoor.A
