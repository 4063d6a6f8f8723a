import Derived.Test.YthpacapdaembpaaDoorE5
open Go Go.RowKit Go.Proofs.YthpacapdaembpaaDoor.K Go.Proofs.YthpacapdaembpaaDoor.T
set_option linter.unusedVariables false
set_option linter.unusedSimpArgs false
namespace Go.Proofs.YthpacapdaembpaaDoor.A
variable {F F' : Nat → Option (List Value)} {M M' : Nat → Option Chunk} {N N' : Nat} {K : Kont} {E : PanK}
/-- Are rows a table, behind a key? -/
def soundL (p : Int) : Option (List Int) → List Rw → Bool
  | _, [] => true
  | o, r :: t => okRow p r && (match o with | none => true | some k => decide (kcmp k r.1 < 0)) && soundL p (some r.1) t
/-- Are rows a table? -/
def soundT (p : Int) (t : List Rw) : Bool := soundL p none t
def prevK (t : List Rw) (i : Nat) : Option (List Int) := if i = 0 then none else (t[i - 1]?).map (·.1)
theorem prevK_succ {t : List Rw} {i : Nat} (h : i < t.length) : prevK t (i + 1) = some t[i].1 := by simp [prevK, h]
theorem soundL_at {p : Int} {t : List Rw} {i : Nat} (h : i < t.length) : soundL p (prevK t i) (t.drop i) = (okRow p t[i] && (if h0 : 0 < i then decide (kcmp (t[i - 1]'(by omega)).1 t[i].1 < 0) else true) && soundL p (prevK t (i + 1)) (t.drop (i + 1))) := by
  rw [List.drop_eq_getElem_cons h, prevK_succ h]
  simp only [soundL]
  congr 2
  unfold prevK
  by_cases h0 : i = 0
  · simp [h0]
  · have : t[i - 1]? = some (t[i - 1]'(by omega)) := List.getElem?_eq_getElem _
    rw [if_neg h0, this, dif_pos (by omega)]
    rfl
/-- table.Sound -/
theorem tsound_c {v : Value} {t : List Rw} {p : Int} (hv : tblD F v t) (hl : t.length ≤ 140737488351232) (k : ∀ N', N ≤ N' → (Hp.mk F M N').wf → K (.bool (soundT p t)) ⟨F, M, N'⟩) :
    callv Tryd.prog (.func (.func 22) #[] #[]) #[v, .int .i64 p] K E ⟨F, M, N⟩ := by
  refine callv_of_text mixed Tryd.func22 (by kernel_rfl) (t22 _ E _ _) (fun hw => ?_)
  have hm : clean M N := hw.m
  obtain ⟨rows, hv1, hv2⟩ := hv
  refine lenF_r hv1 ?_
  refine l22_1_0_1_0_0 (σ := Nat) (fun i => .int .i64 (i : Nat)) (fun i h => ∃ N', h = ⟨F, M, N'⟩ ∧ N ≤ N' ∧ i ≤ t.length ∧ soundT p t = soundL p (prevK t i) (t.drop i)) (fun i => t.length - i) 0 rfl
    (fun hw1 => ⟨_, wk_refl hw1, _, rfl, Nat.le_refl _, Nat.zero_le _, rfl⟩) (fun k1 i j h1 hI hw1 next => ?_)
  obtain ⟨N1, rfl, hN, hi, he⟩ := hI
  refine lss_r (fun hlt => ?_) (fun hge => ?_)
  · have h1 : i < t.length := by omega
    rw [soundL_at h1] at he
    try simp only [gdTT, gdFF, gdTF, gdFT, pvS, pickT, pickF, faP, lenS, nilP, exA, exB, exC, notB, cndT, cndF, Bool.not_true, Bool.not_false, Nat.zero_add, Nat.add_zero]
    refine row_r hv1 hv2 (by decide) h1 fun p' r _ hR _ _ => ?_
    have hRR := hR
    obtain ⟨kv, rfl, hkv, hkl⟩ := hR
    refine nw_r (fun b hb => ?_)
    refine stM (cs' := kv :: t[i].2.cs) ?_ (upd_same _ _ _) rfl rfl (by obtain ⟨a, c, rfl, _⟩ := hkv.form; exact List.all_eq_true.1 rfl)
    refine ldMa (vs := kv :: t[i].2.cs) ?_
    refine right_c hRR (fun N2 hN2 hw2 => ?_)
    have fin : ∀ v', v' = soundT p t → ∀ N', N2 ≤ N' → ∀ h', h' = (⟨F, upd (upd M b (some (.cells 43 [(.slice none 0 0), (.int .i64 0), (.int .i64 0), (.int .i64 0), (.int .i64 0)] [(Value.slice none 0 0), (.int .i64 0), (.int .i64 0), (.int .i64 0), (.int .i64 0)].length))) b (some (.cells 43 (kv :: t[i].2.cs) [(Value.slice none 0 0), (.int .i64 0), (.int .i64 0), (.int .i64 0), (.int .i64 0)].length)), N'⟩ : Hp) → h'.wf → ∃ h'', h'.wk h'' ∧ (h''.wf → K (.bool v') h'') := fun v' e N' hN h' e' hc => by
      subst e; subst e'
      exact ⟨⟨F, M, N'⟩, wk_drop hc (subM_drop (subM_drop (subM_refl _) (hm _ (by omega))) (hm _ (by omega))), fun hw' => k _ (by omega) hw'⟩
    cases hok : okRow p t[i]
    · rw [hok] at he
      try simp only [gdTT, gdFF, gdTF, gdFT, pvS, pickT, pickF, faP, lenS, nilP, exA, exB, exC, notB, cndT, cndF, Bool.not_true, Bool.not_false, Nat.zero_add, Nat.add_zero]
      exact fin _ (by rw [he]; rfl) _ (Nat.le_refl _) _ rfl
    · rw [hok] at he
      try simp only [gdTT, gdFF, gdTF, gdFT, pvS, pickT, pickF, faP, lenS, nilP, exA, exB, exC, notB, cndT, cndF, Bool.not_true, Bool.not_false, Nat.zero_add, Nat.add_zero]
      have nxt : (if h0 : 0 < i then decide (kcmp (t[i - 1]'(by omega)).1 t[i].1 < 0) else true) = true → ∀ N', N2 ≤ N' → ∀ (X : Value) (jj : Nat → Value), X = .int .i64 ((i + 1 : Nat) : Int) → ∀ h', h' = (⟨F, upd (upd M b (some (.cells 43 [(.slice none 0 0), (.int .i64 0), (.int .i64 0), (.int .i64 0), (.int .i64 0)] [(Value.slice none 0 0), (.int .i64 0), (.int .i64 0), (.int .i64 0), (.int .i64 0)].length))) b (some (.cells 43 (kv :: t[i].2.cs) [(Value.slice none 0 0), (.int .i64 0), (.int .i64 0), (.int .i64 0), (.int .i64 0)].length)), N'⟩ : Hp) → h'.wf → ∃ h'', h'.wk h'' ∧ (∃ N', h'' = ⟨F, M, N'⟩ ∧ N ≤ N' ∧ i + 1 ≤ t.length ∧ soundT p t = soundL p (prevK t (i + 1)) (t.drop (i + 1))) := fun e N' hN X jj hX h' e' hc => by
        subst e'
        exact ⟨⟨F, M, N'⟩, wk_drop hc (subM_drop (subM_drop (subM_refl _) (hm _ (by omega))) (hm _ (by omega))), N', rfl, by omega, h1, by rw [he, e]; rfl⟩
      refine gtr_r (fun hi0 => ?_) (fun hi0 => ?_)
      · have hi0' : 0 < i := by omega
        rw [dif_pos hi0'] at he nxt
        try simp only [gdTT, gdFF, gdTF, gdFT, pvS, pickT, pickF, faP, lenS, nilP, exA, exB, exC, notB, cndT, cndF, Bool.not_true, Bool.not_false, Nat.zero_add, Nat.add_zero]
        refine sub_n (b := 1) (by omega) (by omega) ?_
        refine row_r hv1 hv2 (by decide) (show i - 1 < t.length by omega) fun p'' r' _ hR' _ _ => ?_
        refine ldMa (vs := kv :: t[i].2.cs) ?_
        refine less_c hR' hRR (fun N3 hN3 hw3 => ?_)
        refine geq_r (fun hc => ?_) (fun hc => ?_)
        · try simp only [gdTT, gdFF, gdTF, gdFT, pvS, pickT, pickF, faP, lenS, nilP, exA, exB, exC, notB, cndT, cndF, Bool.not_true, Bool.not_false, Nat.zero_add, Nat.add_zero]
          exact fin _ (by rw [he, decide_eq_false (by omega)]; rfl) _ hN3 _ rfl
        · try simp only [gdTT, gdFF, gdTF, gdFT, pvS, pickT, pickF, faP, lenS, nilP, exA, exB, exC, notB, cndT, cndF, Bool.not_true, Bool.not_false, Nat.zero_add, Nat.add_zero]
          refine inc_r (by omega) ?_
          exact next (i + 1) _ _ (by omega) (fun hw4 => nxt (decide_eq_true (by omega)) _ hN3 _ (fun _ => undef) rfl _ rfl hw4)
      · rw [dif_neg (by omega)] at he nxt
        try simp only [gdTT, gdFF, gdTF, gdFT, pvS, pickT, pickF, faP, lenS, nilP, exA, exB, exC, notB, cndT, cndF, Bool.not_true, Bool.not_false, Nat.zero_add, Nat.add_zero]
        refine inc_r (by omega) ?_
        exact next (i + 1) _ _ (by omega) (fun hw4 => nxt rfl _ (Nat.le_refl _) _ (fun _ => undef) rfl _ rfl hw4)
  · try simp only [gdTT, gdFF, gdTF, gdFT, pvS, pickT, pickF, faP, lenS, nilP, exA, exB, exC, notB, cndT, cndF, Bool.not_true, Bool.not_false, Nat.zero_add, Nat.add_zero]
    rw [t22_1_1]
    rw [List.drop_eq_nil_of_le (by omega)] at he
    have e2 : soundT p t = true := by rw [he]; rfl
    rw [e2] at k
    exact fun hc => ⟨_, wk_refl hc, fun hw' => k _ hN hw'⟩
end Go.Proofs.YthpacapdaembpaaDoor.A
