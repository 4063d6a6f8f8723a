import Derived.Test.YthpacapdaembpaaDoorE4
open Go Go.RowKit Go.Proofs.YthpacapdaembpaaDoor.K Go.Proofs.YthpacapdaembpaaDoor.T
set_option linter.unusedVariables false
set_option linter.unusedSimpArgs false
namespace Go.Proofs.YthpacapdaembpaaDoor.A
variable {F F' : Nat → Option (List Value)} {M M' : Nat → Option Chunk} {N N' : Nat} {K : Kont} {E : PanK}
/-- May a cell be? -/
def CE.ok (c : CE) : Bool := if c.n ≤ 0 then decide (c = ⟨0, 0, 0, 0⟩) else decide (c.lo ≤ c.hi ∧ (c.n > 1 ∨ (c.s = c.lo ∧ c.lo = c.hi)))
/-- Sound of a cell, of the reference -/
theorem rsound_c {c : CE} (k : ∀ N', N ≤ N' → (Hp.mk F M N').wf → K (.bool c.ok) ⟨F, M, N'⟩) : callv Tryd.prog (.func (.func 29) #[] #[]) #[.agg c.cs.toArray] K E ⟨F, M, N⟩ := by
  refine callv_of_text mixed Tryd.func29 (by kernel_rfl) (t29 _ E _) (fun hw => ?_)
  have hm := hw.m
  refine nw_r (cs := c.cs) (fun b hb => ?_)
  have fin : ∀ v, v = c.ok → ∀ h', h' = (⟨F, upd M b (some (.cells 41 c.cs c.cs.length)), b + 1⟩ : Hp) → h'.wf → ∃ h'', h'.wk h'' ∧ (h''.wf → K (.bool v) h'') := fun v e h' e' hc => by
    subst e; subst e'
    exact ⟨⟨F, M, b + 1⟩, wk_end hc, fun hw' => k _ (by omega) hw'⟩
  unfold CE.ok at fin
  try simp only [gdTT, gdFF, gdTF, gdFT, pvS, pickT, pickF, faP, lenS, nilP, exA, exB, exC, notB, cndT, cndF, Bool.not_true, Bool.not_false, Nat.zero_add, Nat.add_zero]
  refine ldM (v := .int .i64 c.n) ?_
  refine leq_r (fun h => ?_) (fun h => ?_)
  · try simp only [gdTT, gdFF, gdTF, gdFT, pvS, pickT, pickF, faP, lenS, nilP, exA, exB, exC, notB, cndT, cndF, Bool.not_true, Bool.not_false, Nat.zero_add, Nat.add_zero]
    refine ldMa (vs := c.cs) ?_
    refine pv_r (v := .agg (CE.mk 0 0 0 0).cs.toArray) (by kernel_rfl) ?_
    refine eqc_r (fin _ (by rw [if_pos h]) _ rfl)
  · try simp only [gdTT, gdFF, gdTF, gdFT, pvS, pickT, pickF, faP, lenS, nilP, exA, exB, exC, notB, cndT, cndF, Bool.not_true, Bool.not_false, Nat.zero_add, Nat.add_zero]
    rw [if_neg h] at fin
    refine ldM (v := .int .i64 c.lo) ?_
    refine ldM (v := .int .i64 c.hi) ?_
    refine leq_r (fun h1 => ?_) (fun h1 => ?_)
    · try simp only [gdTT, gdFF, gdTF, gdFT, pvS, pickT, pickF, faP, lenS, nilP, exA, exB, exC, notB, cndT, cndF, Bool.not_true, Bool.not_false, Nat.zero_add, Nat.add_zero]
      refine ldM (v := .int .i64 c.n) ?_
      refine gtr_r (fun h2 => ?_) (fun h2 => ?_)
      · try simp only [gdTT, gdFF, gdTF, gdFT, pvS, pickT, pickF, faP, lenS, nilP, exA, exB, exC, notB, cndT, cndF, Bool.not_true, Bool.not_false, Nat.zero_add, Nat.add_zero]
        exact fin _ (decide_eq_true ⟨h1, .inl h2⟩).symm _ rfl
      · try simp only [gdTT, gdFF, gdTF, gdFT, pvS, pickT, pickF, faP, lenS, nilP, exA, exB, exC, notB, cndT, cndF, Bool.not_true, Bool.not_false, Nat.zero_add, Nat.add_zero]
        refine ldM (v := .int .i64 c.s) (ldM (v := .int .i64 c.lo) ?_)
        refine eql_r (fun h3 => ?_) (fun h3 => ?_)
        · try simp only [gdTT, gdFF, gdTF, gdFT, pvS, pickT, pickF, faP, lenS, nilP, exA, exB, exC, notB, cndT, cndF, Bool.not_true, Bool.not_false, Nat.zero_add, Nat.add_zero]
          refine ldM (v := .int .i64 c.lo) (ldM (v := .int .i64 c.hi) ?_)
          refine eql_r (fun h4 => ?_) (fun h4 => ?_)
          · try simp only [gdTT, gdFF, gdTF, gdFT, pvS, pickT, pickF, faP, lenS, nilP, exA, exB, exC, notB, cndT, cndF, Bool.not_true, Bool.not_false, Nat.zero_add, Nat.add_zero]
            exact fin _ (decide_eq_true ⟨h1, .inr ⟨h3, h4⟩⟩).symm _ rfl
          · try simp only [gdTT, gdFF, gdTF, gdFT, pvS, pickT, pickF, faP, lenS, nilP, exA, exB, exC, notB, cndT, cndF, Bool.not_true, Bool.not_false, Nat.zero_add, Nat.add_zero]
            exact fin _ (decide_eq_false fun q => by rcases q.2 with q | q; exact h2 q; exact h4 q.2).symm _ rfl
        · try simp only [gdTT, gdFF, gdTF, gdFT, pvS, pickT, pickF, faP, lenS, nilP, exA, exB, exC, notB, cndT, cndF, Bool.not_true, Bool.not_false, Nat.zero_add, Nat.add_zero]
          exact fin _ (decide_eq_false fun q => by rcases q.2 with q | q; exact h2 q; exact h3 q.1).symm _ rfl
    · try simp only [gdTT, gdFF, gdTF, gdFT, pvS, pickT, pickF, faP, lenS, nilP, exA, exB, exC, notB, cndT, cndF, Bool.not_true, Bool.not_false, Nat.zero_add, Nat.add_zero]
      exact fin _ (decide_eq_false fun q => h1 q.1).symm _ rfl
/-- cell.Sound -/
theorem sound_c {c : CE} (k : ∀ N', N ≤ N' → (Hp.mk F M N').wf → K (.bool c.ok) ⟨F, M, N'⟩) : callv Tryd.prog (.func (.func 78) #[] #[]) #[.agg c.cs.toArray] K E ⟨F, M, N⟩ := by
  refine callv_of_text mixed Tryd.func78 (by kernel_rfl) (t78 _ E _) (fun hw => ?_)
  have hm := hw.m
  refine nw_r (cs := c.cs) (fun b hb => ?_)
  have fin : ∀ v, v = c.ok → ∀ N', b + 1 ≤ N' → ∀ h', h' = (⟨F, upd M b (some (.cells 41 c.cs c.cs.length)), N'⟩ : Hp) → h'.wf → ∃ h'', h'.wk h'' ∧ (h''.wf → K (.bool v) h'') := fun v e N' hN h' e' hc => by
    subst e; subst e'
    exact ⟨⟨F, M, N'⟩, wk_end hc, fun hw' => k _ (by omega) hw'⟩
  unfold CE.ok at fin
  try simp only [gdTT, gdFF, gdTF, gdFT, pvS, pickT, pickF, faP, lenS, nilP, exA, exB, exC, notB, cndT, cndF, Bool.not_true, Bool.not_false, Nat.zero_add, Nat.add_zero]
  refine ldM (v := .int .i64 c.n) ?_
  refine leq_r (fun h => ?_) (fun h => ?_)
  · try simp only [gdTT, gdFF, gdTF, gdFT, pvS, pickT, pickF, faP, lenS, nilP, exA, exB, exC, notB, cndT, cndF, Bool.not_true, Bool.not_false, Nat.zero_add, Nat.add_zero]
    refine ldMa (vs := c.cs) ?_
    refine pv_r (v := .agg (CE.mk 0 0 0 0).cs.toArray) (by kernel_rfl) ?_
    refine eqc_r (fin _ (by rw [if_pos h]) _ (Nat.le_refl _) _ rfl)
  · try simp only [gdTT, gdFF, gdTF, gdFT, pvS, pickT, pickF, faP, lenS, nilP, exA, exB, exC, notB, cndT, cndF, Bool.not_true, Bool.not_false, Nat.zero_add, Nat.add_zero]
    rw [if_neg h] at fin
    refine ldM (v := .int .i64 c.n) ?_
    refine eql_r (fun h1 => ?_) (fun h1 => ?_)
    · try simp only [gdTT, gdFF, gdTF, gdFT, pvS, pickT, pickF, faP, lenS, nilP, exA, exB, exC, notB, cndT, cndF, Bool.not_true, Bool.not_false, Nat.zero_add, Nat.add_zero]
      refine ldMa (vs := c.cs) (ldM (v := .int .i64 c.s) ?_)
      refine of_c (fun N1 hN1 hw1 => ?_)
      refine ⟨ldV_a (row_M (upd_same _ _ _)) (by exact Nat.le_of_ble_eq_true rfl) rfl, ?_⟩
      refine eqc_r (fin _ ?_ _ hN1 _ rfl)
      obtain ⟨c1, c2, c3, c4⟩ := c
      simp only at h1 h ⊢
      subst h1
      congr 1
      simp
      omega
    · try simp only [gdTT, gdFF, gdTF, gdFT, pvS, pickT, pickF, faP, lenS, nilP, exA, exB, exC, notB, cndT, cndF, Bool.not_true, Bool.not_false, Nat.zero_add, Nat.add_zero]
      refine ldM (v := .int .i64 c.lo) (ldM (v := .int .i64 c.hi) ?_)
      refine leq_r (fun h2 => ?_) (fun h2 => ?_)
      · exact fin _ (decide_eq_true ⟨h2, .inl (by omega)⟩).symm _ (Nat.le_refl _) _ rfl
      · exact fin _ (decide_eq_false fun q => h2 q.1).symm _ (Nat.le_refl _) _ rfl
/-- v < 0 -/
theorem neg_c {a : Int} {h : Hp} (k : K (.bool (decide (a < 0))) h) : callv Tryd.prog (.func (.func 80) #[] #[]) #[.int .i64 a] K E h := by
  obtain ⟨F, M, N⟩ := h
  refine callv_of_text mixed Tryd.func80 (by kernel_rfl) (t80 _ E _) (fun hw => ?_)
  refine lss_r (fun h => ?_) (fun h => ?_)
  · rw [decide_eq_true h] at k; exact fun hc => ⟨_, wk_refl hc, fun _ => k⟩
  · rw [decide_eq_false h] at k; exact fun hc => ⟨_, wk_refl hc, fun _ => k⟩
/-- Is one below 0? -/
def anyNeg (l : List Int) : Bool := l.any fun x => decide (x < 0)
theorem idx_c {v : Value} {l : List Int} (hv : sF F 1 v l.length (ic l)) (hl : l.length ≤ 140737488351232) (k : ∀ r : Int, (decide (r ≥ 0) = anyNeg l) → K (.int .i64 r) ⟨F, M, N⟩) :
    callv Tryd.prog (.func (.func 98) #[] #[]) #[v, .func (.func 80) #[] #[]] K E ⟨F, M, N⟩ := by
  refine callv_of_text mixed Tryd.func98 (by kernel_rfl) (t98 _ E _ _) (fun hw => ?_)
  refine lenF_r hv ?_
  refine l98_1_0_1_0_0 (σ := Nat) (fun i => .int .i64 (i : Nat)) (fun i h => h = ⟨F, M, N⟩ ∧ i ≤ l.length ∧ anyNeg l = anyNeg (l.drop i)) (fun i => l.length - i) 0 rfl
    (fun hw1 => ⟨_, wk_refl hw1, rfl, Nat.zero_le _, rfl⟩) (fun k1 i j h1 hI hw1 next => ?_)
  obtain ⟨rfl, hi, he⟩ := hI
  refine lss_r (fun hlt => ?_) (fun hge => ?_)
  · have h1 : i < l.length := by omega
    try simp only [gdTT, gdFF, gdTF, gdFT, pvS, pickT, pickF, faP, lenS, nilP, exA, exB, exC, notB, cndT, cndF, Bool.not_true, Bool.not_false, Nat.zero_add, Nat.add_zero]
    refine ixn_r hv h1 fun p => neg_c ?_
    rw [List.drop_eq_getElem_cons h1] at he
    by_cases hn : l[i] < 0
    · rw [decide_eq_true hn]
      try simp only [gdTT, gdFF, gdTF, gdFT, pvS, pickT, pickF, faP, lenS, nilP, exA, exB, exC, notB, cndT, cndF, Bool.not_true, Bool.not_false, Nat.zero_add, Nat.add_zero]
      refine fun hc => ⟨_, wk_refl hc, fun _ => k _ ?_⟩
      rw [he, decide_eq_true (by omega)]
      unfold anyNeg; rw [List.any_cons, decide_eq_true hn]; rfl
    · rw [decide_eq_false hn]
      try simp only [gdTT, gdFF, gdTF, gdFT, pvS, pickT, pickF, faP, lenS, nilP, exA, exB, exC, notB, cndT, cndF, Bool.not_true, Bool.not_false, Nat.zero_add, Nat.add_zero]
      refine inc_r (by omega) ?_
      refine next (i + 1) _ _ (by omega) (fun hw2 => ⟨_, wk_refl hw2, rfl, by omega, ?_⟩)
      rw [he]; unfold anyNeg; rw [List.any_cons, decide_eq_false hn]; rfl
  · try simp only [gdTT, gdFF, gdTF, gdFT, pvS, pickT, pickF, faP, lenS, nilP, exA, exB, exC, notB, cndT, cndF, Bool.not_true, Bool.not_false, Nat.zero_add, Nat.add_zero]
    rw [t98_1_1]
    refine fun hc => ⟨_, wk_refl hc, fun _ => k _ ?_⟩
    rw [he, List.drop_eq_nil_of_le (by omega)]; rfl
theorem cont_c {v : Value} {l : List Int} (hv : sF F 1 v l.length (ic l)) (hl : l.length ≤ 140737488351232) (k : K (.bool (anyNeg l)) ⟨F, M, N⟩) :
    callv Tryd.prog (.func (.func 79) #[] #[]) #[v, .func (.func 80) #[] #[]] K E ⟨F, M, N⟩ := by
  refine callv_of_text mixed Tryd.func79 (by kernel_rfl) (t79 _ E _ _) (fun hw => ?_)
  refine idx_c hv hl (fun r hr => ?_)
  refine geq_r (fun h => ?_) (fun h => ?_)
  · rw [decide_eq_true h] at hr; rw [← hr] at k; exact fun hc => ⟨_, wk_refl hc, fun _ => k⟩
  · rw [decide_eq_false h] at hr; rw [← hr] at k; exact fun hc => ⟨_, wk_refl hc, fun _ => k⟩
/-- May a row be in a table of so many places? -/
def okRow (p : Int) (r : Rw) : Bool := decide ((r.1.length : Int) = p) && decide (r.2.n > 0) && r.2.ok && !anyNeg r.1
/-- table.right -/
theorem right_c {cs : List Value} {r : Rw} {p : Int} (hr : rowD F cs r) (k : ∀ N', N ≤ N' → (Hp.mk F M N').wf → K (.bool (okRow p r)) ⟨F, M, N'⟩) :
    callv Tryd.prog (.func (.func 49) #[] #[]) #[.agg cs.toArray, .int .i64 p] K E ⟨F, M, N⟩ := by
  refine callv_of_text mixed Tryd.func49 (by kernel_rfl) (t49 _ E _ _) (fun hw => ?_)
  have hm := hw.m
  obtain ⟨v, rfl, hv, hvl⟩ := hr
  refine nw_r (cs := v :: r.2.cs) (fun b hb => ?_)
  have fin : ∀ v', v' = okRow p r → ∀ N', b + 1 ≤ N' → ∀ h', h' = (⟨F, upd M b (some (.cells 43 (v :: r.2.cs) (v :: r.2.cs).length)), N'⟩ : Hp) → h'.wf → ∃ h'', h'.wk h'' ∧ (h''.wf → K (.bool v') h'') := fun v' e N' hN h' e' hc => by
    subst e; subst e'
    exact ⟨⟨F, M, N'⟩, wk_end hc, fun hw' => k _ (by omega) hw'⟩
  unfold okRow at fin
  try simp only [gdTT, gdFF, gdTF, gdFT, pvS, pickT, pickF, faP, lenS, nilP, exA, exB, exC, notB, cndT, cndF, Bool.not_true, Bool.not_false, Nat.zero_add, Nat.add_zero]
  refine ldM (v := v) (lenF_r hv ?_)
  refine eql_r (fun h => ?_) (fun h => ?_)
  · rw [decide_eq_true h] at fin
    try simp only [gdTT, gdFF, gdTF, gdFT, pvS, pickT, pickF, faP, lenS, nilP, exA, exB, exC, notB, cndT, cndF, Bool.not_true, Bool.not_false, Nat.zero_add, Nat.add_zero]
    refine ldM (v := .int .i64 r.2.n) ?_
    refine gtr_r (fun h1 => ?_) (fun h1 => ?_)
    · rw [decide_eq_true h1] at fin
      try simp only [gdTT, gdFF, gdTF, gdFT, pvS, pickT, pickF, faP, lenS, nilP, exA, exB, exC, notB, cndT, cndF, Bool.not_true, Bool.not_false, Nat.zero_add, Nat.add_zero]
      refine ldMa (vs := r.2.cs) ?_
      refine sound_c (fun N1 hN1 hw1 => ?_)
      cases hk : r.2.ok
      · rw [hk] at fin
        try simp only [gdTT, gdFF, gdTF, gdFT, pvS, pickT, pickF, faP, lenS, nilP, exA, exB, exC, notB, cndT, cndF, Bool.not_true, Bool.not_false, Nat.zero_add, Nat.add_zero]
        exact fin _ (by simp) _ hN1 _ rfl
      · rw [hk] at fin
        try simp only [gdTT, gdFF, gdTF, gdFT, pvS, pickT, pickF, faP, lenS, nilP, exA, exB, exC, notB, cndT, cndF, Bool.not_true, Bool.not_false, Nat.zero_add, Nat.add_zero]
        refine ldM (v := v) (cont_c hv hvl ?_)
        try simp only [gdTT, gdFF, gdTF, gdFT, pvS, pickT, pickF, faP, lenS, nilP, exA, exB, exC, notB, cndT, cndF, Bool.not_true, Bool.not_false, Nat.zero_add, Nat.add_zero]
        exact fin _ (by simp) _ hN1 _ rfl
    · rw [decide_eq_false h1] at fin
      try simp only [gdTT, gdFF, gdTF, gdFT, pvS, pickT, pickF, faP, lenS, nilP, exA, exB, exC, notB, cndT, cndF, Bool.not_true, Bool.not_false, Nat.zero_add, Nat.add_zero]
      exact fin _ (by simp) _ (Nat.le_refl _) _ rfl
  · rw [decide_eq_false h] at fin
    try simp only [gdTT, gdFF, gdTF, gdFT, pvS, pickT, pickF, faP, lenS, nilP, exA, exB, exC, notB, cndT, cndF, Bool.not_true, Bool.not_false, Nat.zero_add, Nat.add_zero]
    exact fin _ (by simp) _ (Nat.le_refl _) _ rfl
end Go.Proofs.YthpacapdaembpaaDoor.A
