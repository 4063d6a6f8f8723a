import Derived.Test.YthpacapdaembpaaDoorE6
open Go Go.RowKit Go.Proofs.YthpacapdaembpaaDoor.K Go.Proofs.YthpacapdaembpaaDoor.T
set_option linter.unusedVariables false
set_option linter.unusedSimpArgs false
namespace Go.Proofs.YthpacapdaembpaaDoor.A
variable {F F' : Nat → Option (List Value)} {M M' : Nat → Option Chunk} {N N' : Nat} {K : Kont} {E : PanK}
theorem ok_pos {c : CE} (h : c.ok = true) : (c.n > 0) ↔ ¬ c.n = 0 := by
  constructor
  · intro h1; omega
  · intro h1
    unfold CE.ok at h
    split at h
    · have := of_decide_eq_true h
      rw [this] at h1; exact absurd rfl h1
    · omega
theorem okRow_f1 {p : Int} {r : Rw} (h : anyNeg r.1 = true) : okRow p r = false := by unfold okRow; rw [h]; simp
theorem okRow_f2 {p : Int} {r : Rw} (h : ¬ (r.1.length : Int) = p) : okRow p r = false := by unfold okRow; rw [decide_eq_false h]; simp
theorem okRow_f3 {p : Int} {r : Rw} (h : r.2.ok = false) : okRow p r = false := by unfold okRow; rw [h]; simp
theorem okRow_f4 {p : Int} {r : Rw} (h : r.2.n = 0) : okRow p r = false := by unfold okRow; rw [h]; simp
theorem okRow_t {p : Int} {r : Rw} (h1 : anyNeg r.1 = false) (h2 : (r.1.length : Int) = p) (h3 : r.2.ok = true) (h4 : ¬ r.2.n = 0) : okRow p r = true := by
  unfold okRow; rw [h1, h3, decide_eq_true h2, decide_eq_true ((ok_pos h3).2 h4)]; rfl
/-- the cell's number of numbers -/
theorem n_r {v : Value} {t : List Rw} {rows : List (List Value)} {K : Value → Value → Value → Kont} (hv : sF F 5 v t.length rows.flatten) (hr : rowsF (rowD F) 5 rows t) {i : Nat} (hi : i < t.length)
    (k : ∀ p q q', K p q q' (.int .i64 t[i].2.n) ⟨F, M, N⟩) : pv (iaV none 5 v (.int .i64 (i : Nat))) (fun p => pv (faV 1 p) fun q => pv (faV 0 q) fun q' => ld false 1 q' (K p q q')) ⟨F, M, N⟩ := by
  obtain ⟨b, o, c, cs, r, rfl, hF, _, ⟨kv, rfl, _⟩, hl, h1, hle, ht, hj⟩ := row_at hv hr (by decide) hi
  exact iaN_r hi (pv_r rfl (pv_r rfl (ld_r (ldV_c (row_F hF) (hj 1 (by decide))) (k _ _ _))))
/-- Sound, of the reference -/
theorem rtsound_c {v : Value} {t : List Rw} {p : Int} (hv : tblD F v t) (hl : t.length ≤ 140737488351232) (k : ∀ N', N ≤ N' → (Hp.mk F M N').wf → K (.bool (soundT p t)) ⟨F, M, N'⟩) :
    callv Tryd.prog (.func (.func 23) #[] #[]) #[v, .int .i64 p] K E ⟨F, M, N⟩ := by
  refine callv_of_text mixed Tryd.func23 (by kernel_rfl) (t23 _ E _ _) (fun hw => ?_)
  obtain ⟨rows, hv1, hv2⟩ := hv
  have hlv : lenV v = some (.int .i64 (t.length : Nat)) := by obtain ⟨a, c, rfl, _⟩ := hv1.form; rfl
  refine l23_1_0_1_0_0 (σ := Nat) (fun i => .int .i64 (i : Nat)) (fun i h => ∃ N', h = ⟨F, M, N'⟩ ∧ N ≤ N' ∧ i ≤ t.length ∧ soundT p t = soundL p (prevK t i) (t.drop i)) (fun i => t.length - i) 0 rfl
    (fun hw1 => ⟨_, wk_refl hw1, _, rfl, Nat.le_refl _, Nat.zero_le _, rfl⟩) (fun k1 i j h1 hI hw1 next => ?_)
  obtain ⟨N1, rfl, hN, hi, he⟩ := hI
  simp only [hlv]
  try simp only [gdTT, gdFF, gdTF, gdFT, pvS, pickT, pickF, faP, lenS, nilP, exA, exB, exC, notB, cndT, cndF, Bool.not_true, Bool.not_false, Nat.zero_add, Nat.add_zero]
  refine lss_r (fun hlt => ?_) (fun hge => ?_)
  · have h1 : i < t.length := by omega
    rw [soundL_at h1] at he
    try simp only [gdTT, gdFF, gdTF, gdFT, pvS, pickT, pickF, faP, lenS, nilP, exA, exB, exC, notB, cndT, cndF, Bool.not_true, Bool.not_false, Nat.zero_add, Nat.add_zero]
    refine l23_1_0_1_0_0_1_0_0_0_1_0_0 (σ := Nat) (fun i => .int .i64 (i : Nat)) (fun m h => h = ⟨F, M, N1⟩ ∧ m ≤ t[i].1.length ∧ anyNeg t[i].1 = anyNeg (t[i].1.drop m)) (fun m => t[i].1.length - m) 0 rfl
      (fun hw1 => ⟨_, wk_refl hw1, rfl, Nat.zero_le _, rfl⟩) (fun k2 m j2 h2 hI2 hw2 next2 => ?_)
    obtain ⟨rfl, hm, hem⟩ := hI2
    have fin : ∀ N', N1 ≤ N' → soundT p t = false → ∀ h', h' = (⟨F, M, N'⟩ : Hp) → h'.wf → ∃ h'', h'.wk h'' ∧ (h''.wf → K (.bool false) h'') := fun N' hN' e h' e' hc => by
      subst e'
      rw [e] at k
      exact ⟨_, wk_refl hc, fun hw' => k _ (by omega) hw'⟩
    refine key_r hv1 hv2 h1 fun p' q kv hkv hkl => ?_
    refine lenF_r hkv ?_
    refine lss_r (fun hlt2 => ?_) (fun hge2 => ?_)
    · have h2 : m < t[i].1.length := by omega
      rw [List.drop_eq_getElem_cons h2] at hem
      try simp only [gdTT, gdFF, gdTF, gdFT, pvS, pickT, pickF, faP, lenS, nilP, exA, exB, exC, notB, cndT, cndF, Bool.not_true, Bool.not_false, Nat.zero_add, Nat.add_zero]
      refine key_r hv1 hv2 h1 fun p' q kv hkv hkl => ?_
      refine ixn_r hkv h2 fun p'' => ?_
      refine lss_r (fun hn => ?_) (fun hn => ?_)
      · try simp only [gdTT, gdFF, gdTF, gdFT, pvS, pickT, pickF, faP, lenS, nilP, exA, exB, exC, notB, cndT, cndF, Bool.not_true, Bool.not_false, Nat.zero_add, Nat.add_zero]
        refine fin _ (Nat.le_refl _) ?_ _ rfl
        rw [he, okRow_f1 (by rw [hem]; unfold anyNeg; rw [List.any_cons, decide_eq_true hn]; rfl)]; rfl
      · try simp only [gdTT, gdFF, gdTF, gdFT, pvS, pickT, pickF, faP, lenS, nilP, exA, exB, exC, notB, cndT, cndF, Bool.not_true, Bool.not_false, Nat.zero_add, Nat.add_zero]
        refine inc_r (by omega) ?_
        exact next2 (m + 1) _ _ (by omega) (fun hw3 => ⟨_, wk_refl hw3, rfl, h2, by rw [hem]; unfold anyNeg; rw [List.any_cons, decide_eq_false hn]; rfl⟩)
    · try simp only [gdTT, gdFF, gdTF, gdFT, pvS, pickT, pickF, faP, lenS, nilP, exA, exB, exC, notB, cndT, cndF, Bool.not_true, Bool.not_false, Nat.zero_add, Nat.add_zero]
      rw [t23_1_0_1_0_0_1_0_0_1]
      have hng : anyNeg t[i].1 = false := by rw [hem, List.drop_eq_nil_of_le (by omega)]; rfl
      refine key_r hv1 hv2 h1 fun p' q kv hkv hkl => ?_
      refine lenF_r hkv ?_
      refine neq_r (fun hlp => ?_) (fun hlp => ?_)
      · try simp only [gdTT, gdFF, gdTF, gdFT, pvS, pickT, pickF, faP, lenS, nilP, exA, exB, exC, notB, cndT, cndF, Bool.not_true, Bool.not_false, Nat.zero_add, Nat.add_zero]
        exact fin _ (Nat.le_refl _) (by rw [he, okRow_f2 hlp]; rfl) _ rfl
      have hlp' : (t[i].1.length : Int) = p := by omega
      try simp only [gdTT, gdFF, gdTF, gdFT, pvS, pickT, pickF, faP, lenS, nilP, exA, exB, exC, notB, cndT, cndF, Bool.not_true, Bool.not_false, Nat.zero_add, Nat.add_zero]
      refine cell_r hv1 hv2 h1 fun p' q => ?_
      refine rsound_c (fun N2 hN2 hw2 => ?_)
      cases hok : t[i].2.ok
      · try simp only [gdTT, gdFF, gdTF, gdFT, pvS, pickT, pickF, faP, lenS, nilP, exA, exB, exC, notB, cndT, cndF, Bool.not_true, Bool.not_false, Nat.zero_add, Nat.add_zero]
        exact fin _ hN2 (by rw [he, okRow_f3 hok]; rfl) _ rfl
      try simp only [gdTT, gdFF, gdTF, gdFT, pvS, pickT, pickF, faP, lenS, nilP, exA, exB, exC, notB, cndT, cndF, Bool.not_true, Bool.not_false, Nat.zero_add, Nat.add_zero]
      refine n_r hv1 hv2 h1 fun p' q q' => ?_
      refine eql_r (fun hn0 => ?_) (fun hn0 => ?_)
      · try simp only [gdTT, gdFF, gdTF, gdFT, pvS, pickT, pickF, faP, lenS, nilP, exA, exB, exC, notB, cndT, cndF, Bool.not_true, Bool.not_false, Nat.zero_add, Nat.add_zero]
        exact fin _ hN2 (by rw [he, okRow_f4 hn0]; rfl) _ rfl
      rw [okRow_t hng hlp' hok hn0] at he
      try simp only [gdTT, gdFF, gdTF, gdFT, pvS, pickT, pickF, faP, lenS, nilP, exA, exB, exC, notB, cndT, cndF, Bool.not_true, Bool.not_false, Nat.zero_add, Nat.add_zero]
      refine gtr_r (fun hi0 => ?_) (fun hi0 => ?_)
      · have hi0' : 0 < i := by omega
        rw [dif_pos hi0'] at he
        try simp only [gdTT, gdFF, gdTF, gdFT, pvS, pickT, pickF, faP, lenS, nilP, exA, exB, exC, notB, cndT, cndF, Bool.not_true, Bool.not_false, Nat.zero_add, Nat.add_zero]
        refine sub_n (b := 1) (by omega) (by omega) ?_
        refine key_r hv1 hv2 (show i - 1 < t.length by omega) fun p1 q1 kv1 hkv1 hkl1 => ?_
        refine key_r hv1 hv2 h1 fun p' q kv hkv hkl => ?_
        refine rCmp_c hkv1 hkv hkl1 ?_
        refine geq_r (fun hc => ?_) (fun hc => ?_)
        · try simp only [gdTT, gdFF, gdTF, gdFT, pvS, pickT, pickF, faP, lenS, nilP, exA, exB, exC, notB, cndT, cndF, Bool.not_true, Bool.not_false, Nat.zero_add, Nat.add_zero]
          exact fin _ hN2 (by rw [he, decide_eq_false (by omega)]; rfl) _ rfl
        · try simp only [gdTT, gdFF, gdTF, gdFT, pvS, pickT, pickF, faP, lenS, nilP, exA, exB, exC, notB, cndT, cndF, Bool.not_true, Bool.not_false, Nat.zero_add, Nat.add_zero]
          rw [t23_1_0_1_0_0_1_1]
          refine inc_r (by omega) ?_
          exact next (i + 1) _ _ (by omega) (fun hw4 => ⟨_, wk_refl hw4, N2, rfl, by omega, h1, by rw [he, decide_eq_true (by omega)]; rfl⟩)
      · rw [dif_neg (by omega)] at he
        try simp only [gdTT, gdFF, gdTF, gdFT, pvS, pickT, pickF, faP, lenS, nilP, exA, exB, exC, notB, cndT, cndF, Bool.not_true, Bool.not_false, Nat.zero_add, Nat.add_zero]
        rw [t23_1_0_1_0_0_1_1]
        refine inc_r (by omega) ?_
        exact next (i + 1) _ _ (by omega) (fun hw4 => ⟨_, wk_refl hw4, N2, rfl, by omega, h1, by rw [he]; rfl⟩)
  · try simp only [gdTT, gdFF, gdTF, gdFT, pvS, pickT, pickF, faP, lenS, nilP, exA, exB, exC, notB, cndT, cndF, Bool.not_true, Bool.not_false, Nat.zero_add, Nat.add_zero]
    rw [t23_1_1]
    rw [List.drop_eq_nil_of_le (by omega)] at he
    have e2 : soundT p t = true := by rw [he]; rfl
    rw [e2] at k
    exact fun hc => ⟨_, wk_refl hc, fun hw' => k _ hN hw'⟩
end Go.Proofs.YthpacapdaembpaaDoor.A
