import Derived.Test.YthpacapdaembpaaDoorD6
import Derived.Test.YthpacapdaembpaaDoorU4
open Go Go.RowKit Go.Proofs.YthpacapdaembpaaDoor.K Go.Proofs.YthpacapdaembpaaDoor.T
set_option linter.unusedVariables false
set_option linter.unusedSimpArgs false
namespace Go.Proofs.YthpacapdaembpaaDoor.A
variable {F F' : Nat → Option (List Value)} {M M' : Nat → Option Chunk} {N N' : Nat} {K : Kont} {E : PanK}
/-- Cmp, of the reference -/
theorem rCmp_c {u v : Value} {a b : List Int} (hu : sF F 1 u a.length (ic a)) (hv : sF F 1 v b.length (ic b)) (hla : a.length ≤ 140737488351232) (k : K (.int .i64 (kcmp a b)) ⟨F, M, N⟩) :
    callv Tryd.prog (.func (.func 30) #[] #[]) #[u, v] K E ⟨F, M, N⟩ := by
  refine callv_of_text mixed Tryd.func30 (by kernel_rfl) (t30 _ E _ _) (fun hw => ?_)
  obtain ⟨ua, uc, rfl, _⟩ := hu.form
  obtain ⟨va, vc, rfl, _⟩ := hv.form
  refine l30_1_0_1_0_0 (σ := Nat) (fun i => .int .i64 (i : Nat)) (fun i h => h = ⟨F, M, N⟩ ∧ i ≤ min a.length b.length ∧ kcmp a b = kcmp (a.drop i) (b.drop i)) (fun i => min a.length b.length - i) 0 rfl
    (fun hw1 => ⟨_, wk_refl hw1, rfl, Nat.zero_le _, rfl⟩) (fun k1 i j h1 hI hw1 next => ?_)
  obtain ⟨rfl, hi, he⟩ := hI
  have fin : i = min a.length b.length → kcmp a b = cmpI a.length b.length := fun h => by rw [he, kcmp_end h]
  have tail : i = min a.length b.length → ∀ (X : Kont), (∀ v, v = kcmp a b → X (.int .i64 v) ⟨F, M, N⟩) → pv (binV .none .lss (.int .i64 (a.length : Nat)) (.int .i64 (b.length : Nat))) (fun t3 => cnd t3 (X (.int .i64 (-1))) (pv (binV .none .gtr (.int .i64 (a.length : Nat)) (.int .i64 (b.length : Nat))) fun t6 => cnd t6 (X (.int .i64 1)) (X (.int .i64 0)))) ⟨F, M, N⟩ := by
    intro hi X hX
    have := fin hi
    unfold cmpI at this
    refine lss_r (fun h => cnd_t (hX _ ?_)) (fun h => cnd_f (gtr_r (fun h' => cnd_t (hX _ ?_)) (fun h' => cnd_f (hX _ ?_))))
    · rw [this, if_pos h]
    · rw [this, if_neg h, if_pos h']
    · rw [this, if_neg h, if_neg h']
  try simp only [gdTT, gdFF, gdTF, gdFT, pvS, pickT, pickF, faP, lenS, nilP, exA, exB, exC, notB, cndT, cndF, Bool.not_true, Bool.not_false, Nat.zero_add, Nat.add_zero]
  refine lss_r (fun hlt => ?_) (fun hge => ?_)
  · try simp only [gdTT, gdFF, gdTF, gdFT, pvS, pickT, pickF, faP, lenS, nilP, exA, exB, exC, notB, cndT, cndF, Bool.not_true, Bool.not_false, Nat.zero_add, Nat.add_zero]
    refine lss_r (fun hlt2 => ?_) (fun hge2 => ?_)
    · try simp only [gdTT, gdFF, gdTF, gdFT, pvS, pickT, pickF, faP, lenS, nilP, exA, exB, exC, notB, cndT, cndF, Bool.not_true, Bool.not_false, Nat.zero_add, Nat.add_zero]
      have h1 : i < a.length := by omega
      have h2 : i < b.length := by omega
      rw [kcmp_at h1 h2] at he
      refine ixn_r hu h1 fun p1 => ixn_r hv h2 fun p2 => ?_
      refine lss_r (fun h => ?_) (fun h => ?_)
      · try simp only [gdTT, gdFF, gdTF, gdFT, pvS, pickT, pickF, faP, lenS, nilP, exA, exB, exC, notB, cndT, cndF, Bool.not_true, Bool.not_false, Nat.zero_add, Nat.add_zero]
        refine fun hc => ⟨_, wk_refl hc, fun _ => ?_⟩
        unfold cmpI at he
        rw [if_pos h, if_neg (by decide)] at he; rw [← he]; exact k
      · try simp only [gdTT, gdFF, gdTF, gdFT, pvS, pickT, pickF, faP, lenS, nilP, exA, exB, exC, notB, cndT, cndF, Bool.not_true, Bool.not_false, Nat.zero_add, Nat.add_zero]
        refine ixn_r hu h1 fun p1 => ixn_r hv h2 fun p2 => ?_
        refine gtr_r (fun h' => ?_) (fun h' => ?_)
        · try simp only [gdTT, gdFF, gdTF, gdFT, pvS, pickT, pickF, faP, lenS, nilP, exA, exB, exC, notB, cndT, cndF, Bool.not_true, Bool.not_false, Nat.zero_add, Nat.add_zero]
          refine fun hc => ⟨_, wk_refl hc, fun _ => ?_⟩
          unfold cmpI at he
          rw [if_neg h, if_pos h', if_neg (by decide)] at he; rw [← he]; exact k
        · try simp only [gdTT, gdFF, gdTF, gdFT, pvS, pickT, pickF, faP, lenS, nilP, exA, exB, exC, notB, cndT, cndF, Bool.not_true, Bool.not_false, Nat.zero_add, Nat.add_zero]
          refine inc_r (by omega) ?_
          have h0 : cmpI a[i] b[i] = 0 := by unfold cmpI; rw [if_neg h, if_neg h']
          rw [if_pos h0] at he
          exact next (i + 1) _ _ (by omega) (fun hw2 => ⟨_, wk_refl hw2, rfl, by omega, he⟩)
    · try simp only [gdTT, gdFF, gdTF, gdFT, pvS, pickT, pickF, faP, lenS, nilP, exA, exB, exC, notB, cndT, cndF, Bool.not_true, Bool.not_false, Nat.zero_add, Nat.add_zero]
      rw [t30_1_1]
      try simp only [gdTT, gdFF, gdTF, gdFT, pvS, pickT, pickF, faP, lenS, nilP, exA, exB, exC, notB, cndT, cndF, Bool.not_true, Bool.not_false, Nat.zero_add, Nat.add_zero]
      refine tail (by omega) (fun v h => h.wf → ∃ h', h.wk h' ∧ (h'.wf → K v h')) (fun v e hc => ⟨_, wk_refl hc, fun _ => by rw [e]; exact k⟩)
  · try simp only [gdTT, gdFF, gdTF, gdFT, pvS, pickT, pickF, faP, lenS, nilP, exA, exB, exC, notB, cndT, cndF, Bool.not_true, Bool.not_false, Nat.zero_add, Nat.add_zero]
    rw [t30_1_1]
    try simp only [gdTT, gdFF, gdTF, gdFT, pvS, pickT, pickF, faP, lenS, nilP, exA, exB, exC, notB, cndT, cndF, Bool.not_true, Bool.not_false, Nat.zero_add, Nat.add_zero]
    refine tail (by omega) (fun v h => h.wf → ∃ h', h.wk h' ∧ (h'.wf → K v h')) (fun v e hc => ⟨_, wk_refl hc, fun _ => by rw [e]; exact k⟩)
/-- ints, of the reference: a copy, that nobody turns. -/
theorem ints_c {v : Value} {l : List Int} (hm0 : clean M N) (hv : sR F M 1 v l.length (ic l)) (hl : l.length ≤ 10000000000000)
    (k : ∀ v' F' N', (Hp.mk F' M N').wf → subF F F' → N ≤ N' → sF F' 1 v' l.length (ic l) → K v' ⟨F', M, N'⟩) : callv Tryd.prog (.func (.func 82) #[] #[]) #[v] K E ⟨F, M, N⟩ := by
  refine callv_of_text mixed Tryd.func82 (by kernel_rfl) (t82 _ E _) (fun hw => ?_)
  refine own.app (B := N) own.nil hm0 (Nat.le_refl _) hv (ints_one _) (by omega) (by simp [maxLen]; omega) (fun v' M' N' h1 h2 h3 h4 hc => ?_)
  have hMM : ∀ q, q < N → M' q = M q := fun q hq => (h2 q (by simp [Value.ownBlock]) hq).1
  refine ⟨_, frz_wf hm0 hMM hc, fun hw' => k v' _ N' hw' (subF_frzAll hc) (by omega) ?_⟩
  have := h1.rd.frz hc (fun b hb => .inl (h1.ge b hb).1)
  simpa using this
theorem neqc_r {a b : CE} {h : Hp} (k : K (.bool (!decide (a = b))) h) : pv (eqCells .neq [0, 0, 0, 0] (.agg a.cs.toArray) (.agg b.cs.toArray)) K h := by
  refine ⟨_, ?_, k⟩
  obtain ⟨a1, a2, a3, a4⟩ := a
  obtain ⟨b1, b2, b3, b4⟩ := b
  simp only [eqCells, CE.cs]
  have hd : ∀ x y : Int, (x == y) = decide (x = y) := fun _ _ => rfl
  by_cases h1 : a1 = b1 <;> by_cases h2 : a2 = b2 <;> by_cases h3 : a3 = b3 <;> by_cases h4 : a4 = b4 <;> simp [flatVs, flatV, hd, h1, h2, h3, h4]
/-- Same, of the reference -/
theorem same_c {u v : Value} {a b : List Rw} (hu : tblD F u a) (hv : tblD F v b) (hla : a.length ≤ 140737488351232) (k : K (.bool (decide (a = b))) ⟨F, M, N⟩) :
    callv Tryd.prog (.func (.func 24) #[] #[]) #[u, v] K E ⟨F, M, N⟩ := by
  refine callv_of_text mixed Tryd.func24 (by kernel_rfl) (t24 _ E _ _) (fun hw => ?_)
  obtain ⟨ru, hu1, hu2⟩ := hu
  obtain ⟨rv, hv1, hv2⟩ := hv
  have hlen := hu1
  obtain ⟨ua, uc, rfl, huc⟩ := hu1.form
  obtain ⟨va, vc, rfl, _⟩ := hv1.form
  try simp only [gdTT, gdFF, gdTF, gdFT, pvS, pickT, pickF, faP, lenS, nilP, exA, exB, exC, notB, cndT, cndF, Bool.not_true, Bool.not_false, Nat.zero_add, Nat.add_zero]
  refine neq_r (fun hne => ?_) (fun hne => ?_)
  · try simp only [gdTT, gdFF, gdTF, gdFT, pvS, pickT, pickF, faP, lenS, nilP, exA, exB, exC, notB, cndT, cndF, Bool.not_true, Bool.not_false, Nat.zero_add, Nat.add_zero]
    have e : ¬ a = b := fun e => hne (by rw [e])
    rw [decide_eq_false e] at k
    exact fun hc => ⟨_, wk_refl hc, fun _ => k⟩
  have hab : a.length = b.length := by omega
  try simp only [gdTT, gdFF, gdTF, gdFT, pvS, pickT, pickF, faP, lenS, nilP, exA, exB, exC, notB, cndT, cndF, Bool.not_true, Bool.not_false, Nat.zero_add, Nat.add_zero]
  refine l24_1_1_0_1_0_0 (σ := Nat) (fun i => .int .i64 (i : Nat)) (fun i h => h = ⟨F, M, N⟩ ∧ i ≤ a.length ∧ a.take i = b.take i) (fun i => a.length - i) 0 rfl
    (fun hw1 => ⟨_, wk_refl hw1, rfl, Nat.zero_le _, rfl⟩) (fun k1 i j h1 hI hw1 next => ?_)
  obtain ⟨rfl, hi, he⟩ := hI
  have no : ∀ (h1 : i < a.length) (h2 : i < b.length), a[i] ≠ b[i] → decide (a = b) = false := fun h1 h2 hn => decide_eq_false fun e => by subst e; exact hn rfl
  try simp only [gdTT, gdFF, gdTF, gdFT, pvS, pickT, pickF, faP, lenS, nilP, exA, exB, exC, notB, cndT, cndF, Bool.not_true, Bool.not_false, Nat.zero_add, Nat.add_zero]
  refine lss_r (fun hlt => ?_) (fun hge => ?_)
  · try simp only [gdTT, gdFF, gdTF, gdFT, pvS, pickT, pickF, faP, lenS, nilP, exA, exB, exC, notB, cndT, cndF, Bool.not_true, Bool.not_false, Nat.zero_add, Nat.add_zero]
    have h1 : i < a.length := by omega
    have h2 : i < b.length := by omega
    refine key_r hu1 hu2 h1 fun p q kv hkv hkl => key_r hv1 hv2 h2 fun p' q' kv' hkv' hkl' => ?_
    refine rCmp_c hkv hkv' hkl ?_
    refine neq_r (fun hn => ?_) (fun hn => ?_)
    · try simp only [gdTT, gdFF, gdTF, gdFT, pvS, pickT, pickF, faP, lenS, nilP, exA, exB, exC, notB, cndT, cndF, Bool.not_true, Bool.not_false, Nat.zero_add, Nat.add_zero]
      rw [no h1 h2 (fun e => hn (by rw [e, kcmp_self]))] at k
      exact fun hc => ⟨_, wk_refl hc, fun _ => k⟩
    · try simp only [gdTT, gdFF, gdTF, gdFT, pvS, pickT, pickF, faP, lenS, nilP, exA, exB, exC, notB, cndT, cndF, Bool.not_true, Bool.not_false, Nat.zero_add, Nat.add_zero]
      refine cell_r hu1 hu2 h1 fun p q => cell_r hv1 hv2 h2 fun p' q' => ?_
      have hk := kcmp_eq (show kcmp a[i].1 b[i].1 = 0 by omega)
      refine neqc_r ?_
      by_cases hcc : a[i].2 = b[i].2
      · rw [decide_eq_true hcc]
        try simp only [gdTT, gdFF, gdTF, gdFT, pvS, pickT, pickF, faP, lenS, nilP, exA, exB, exC, notB, cndT, cndF, Bool.not_true, Bool.not_false, Nat.zero_add, Nat.add_zero]
        refine inc_r (by omega) ?_
        refine next (i + 1) _ _ (by omega) (fun hw2 => ⟨_, wk_refl hw2, rfl, by omega, ?_⟩)
        rw [List.take_add_one, List.take_add_one, he, List.getElem?_eq_getElem h1, List.getElem?_eq_getElem h2, show a[i] = b[i] from Prod.ext hk hcc]
      · rw [decide_eq_false hcc]
        try simp only [gdTT, gdFF, gdTF, gdFT, pvS, pickT, pickF, faP, lenS, nilP, exA, exB, exC, notB, cndT, cndF, Bool.not_true, Bool.not_false, Nat.zero_add, Nat.add_zero]
        rw [no h1 h2 (fun e => hcc (by rw [e]))] at k
        exact fun hc => ⟨_, wk_refl hc, fun _ => k⟩
  · try simp only [gdTT, gdFF, gdTF, gdFT, pvS, pickT, pickF, faP, lenS, nilP, exA, exB, exC, notB, cndT, cndF, Bool.not_true, Bool.not_false, Nat.zero_add, Nat.add_zero]
    rw [t24_1_1_1]
    rw [List.take_of_length_le (by omega), List.take_of_length_le (by omega)] at he
    rw [decide_eq_true he] at k
    exact fun hc => ⟨_, wk_refl hc, fun _ => k⟩
end Go.Proofs.YthpacapdaembpaaDoor.A
