import Derived.Test.YthpacapdaembpaaDoorE2
open Go Go.RowKit Go.Proofs.YthpacapdaembpaaDoor.K Go.Proofs.YthpacapdaembpaaDoor.T
set_option linter.unusedVariables false
set_option linter.unusedSimpArgs false
namespace Go.Proofs.YthpacapdaembpaaDoor.A
variable {F F' : Nat → Option (List Value)} {M M' : Nat → Option Chunk} {N N' : Nat} {K : Kont} {E : PanK}
/-- Lay, of the reference -/
theorem rlay_c {v kv : Value} {t : List Rw} {key : List Int} {c : CE} (hv : tblD F v t) (hkv : sF F 1 kv key.length (ic key)) (hkl : key.length ≤ 10000000000) (ht : t.length ≤ 100000000000)
    (k : ∀ v' F' N', (Hp.mk F' M N').wf → subF F F' → N ≤ N' → tblD F' v' (layR t key c) → K v' ⟨F', M, N'⟩) :
    callv Tryd.prog (.func (.func 51) #[] #[]) #[v, .agg (kv :: c.cs).toArray] K E ⟨F, M, N⟩ := by
  refine callv_of_text mixed Tryd.func51 (by kernel_rfl) (t51 _ E _ _) (fun hw => ?_)
  have hm : clean M N := hw.m
  obtain ⟨rows, hv1, hv2⟩ := hv
  obtain ⟨va, vc, hvf, hvc⟩ := hv1.form
  have hrc := row_cells (c := c) hkv
  have hlv : lenV v = some (.int .i64 (t.length : Nat)) := by rw [hvf]; rfl
  refine nw_r (cs := kv :: c.cs) (fun b0 hb0 => ?_)
  refine l51_1_1_1_0_0_0 (σ := Nat × Value) (fun s => s.2) (fun s => .int .i64 (s.1 : Nat))
    (fun s h => ∃ M' N', h = ⟨F, M', N'⟩ ∧ b0 < N' ∧ (∀ q, q < N → M' q = M q) ∧ M' b0 = some (.cells 43 (kv :: c.cs) 5) ∧ clean M' N' ∧ s.1 ≤ t.length ∧ own M' N 43 5 s.2 s.1 (rows.take s.1).flatten ∧ s.2.ownBlock ≠ some b0 ∧ ∀ x ∈ t.take s.1, kcmp x.1 key < 0) (fun s => t.length - s.1)
    (0, .slice none 0 0) rfl rfl (fun hw1 => ⟨_, wk_refl hw1, _, _, rfl, Nat.lt_succ_self _, fun q hq => upd_ne _ _ (by omega), by rw [upd_same]; rfl, hm.new hb0 _, Nat.zero_le _, own.nil, by simp [Value.ownBlock], by simp⟩) (fun k1 s j h1 hI hw1 next => ?_)
  obtain ⟨M1, N1, rfl, hbN, hM1, hb1, hm1, hs, ho, hob, hlt⟩ := hI
  have hrl := hv2.all.1
  by_cases hgo : ∃ h : s.1 < t.length, kcmp (t[s.1].1) key < 0
  · obtain ⟨h1, hl⟩ := hgo
    simp only [hlv]
    try simp only [gdTT, gdFF, gdTF, gdFT, pvS, pickT, pickF, faP, lenS, nilP, exA, exB, exC, notB, cndT, cndF, Bool.not_true, Bool.not_false, Nat.zero_add, Nat.add_zero]
    refine lss_t (by omega) ?_
    try simp only [gdTT, gdFF, gdTF, gdFT, pvS, pickT, pickF, faP, lenS, nilP, exA, exB, exC, notB, cndT, cndF, Bool.not_true, Bool.not_false, Nat.zero_add, Nat.add_zero]
    refine key_r hv1 hv2 h1 fun p q kv1 hkv1 hkl1 => ?_
    refine ldM (v := kv) ?_ hb1
    refine rCmp_c hkv1 hkv hkl1 ?_
    refine lss_t hl ?_
    try simp only [gdTT, gdFF, gdTF, gdFT, pvS, pickT, pickF, faP, lenS, nilP, exA, exB, exC, notB, cndT, cndF, Bool.not_true, Bool.not_false, Nat.zero_add, Nat.add_zero]
    refine row_r hv1 hv2 (by decide) h1 (fun p r hrr hR hr5 hr1 => ?_)
    obtain ⟨kv2, rfl, hkv2, hkl2⟩ := hR
    obtain ⟨ka, kc, rfl, _⟩ := hkv2.form
    refine nws_r (cs := .slice ka t[s.1].1.length kc :: t[s.1].2.cs) (by kernel_rfl) (fun b5 hb5 => ?_)
    have hb5v : s.2.ownBlock ≠ some b5 := fun e => by have := ho.lt hm1 b5 e; omega
    have ho2 : own (upd M1 b5 (some (.cells 43 (.slice ka t[s.1].1.length kc :: t[s.1].2.cs) (Value.slice ka t[s.1].1.length kc :: t[s.1].2.cs).length))) N 43 5 s.2 s.1 (rows.take s.1).flatten := ho.keep (fun q hq => upd_ne _ _ (fun e => hb5v (e ▸ hq))) (Nat.le_refl _)
    refine ho2.app (m := 1) (news := .slice ka t[s.1].1.length kc :: t[s.1].2.cs) (hm1.new hb5 _) (by omega) ⟨rfl, .inr ⟨b5, 0, 1, _, rfl, Nat.le_refl _, .inr ⟨_, _, upd_same _ _ _⟩, rfl⟩⟩ hr1 (by omega) (by simp [maxLen]; omega) (fun u2 M2 N2 h4 h5 h6 h7 => ?_)
    refine inc_r (by omega) ?_
    refine next (s.1 + 1, u2) _ _ (by simp only; omega) (fun hw2 => ⟨_, wk_refl hw2, M2, N2, rfl, by omega, fun q hq => ?_, ((h5 b0 hob (by omega)).1).trans ((upd_ne _ _ (by omega)).trans hb1), h7, by simp only; omega, ?_, (h5 b0 hob (by omega)).2, ?_⟩)
    · have q1 : s.2.ownBlock ≠ some q := fun e => by have := (ho.ge q e).1; omega
      exact ((h5 q q1 (by omega)).1).trans ((upd_ne _ _ (by omega)).trans (hM1 q hq))
    · simp only
      rw [List.take_add_one, hrr, Option.toList_some, List.flatten_append]
      simpa using h4
    · simp only
      intro x hx
      rw [List.take_add_one, List.getElem?_eq_getElem h1] at hx
      rcases List.mem_append.1 hx with hx | hx
      · exact hlt x hx
      · simp at hx; rw [hx]; exact hl
  · have hstop : ∀ h : s.1 < t.length, ¬ kcmp (t[s.1].1) key < 0 := fun h hk => hgo ⟨h, hk⟩
    have htk : (t.take s.1).length = s.1 := by rw [List.length_take]; omega
    have hlay := layR_take t key c s.1 hlt
    simp only [hlv]
    try simp only [gdTT, gdFF, gdTF, gdFT, pvS, pickT, pickF, faP, lenS, nilP, exA, exB, exC, notB, cndT, cndF, Bool.not_true, Bool.not_false, Nat.zero_add, Nat.add_zero]
    refine lss_r (fun hlt1 => ?_) (fun hge1 => ?_)
    have h1 : s.1 < t.length := by omega
    try simp only [gdTT, gdFF, gdTF, gdFT, pvS, pickT, pickF, faP, lenS, nilP, exA, exB, exC, notB, cndT, cndF, Bool.not_true, Bool.not_false, Nat.zero_add, Nat.add_zero]
    refine key_r hv1 hv2 h1 fun p q kv1 hkv1 hkl1 => ?_
    refine ldM (v := kv) ?_ hb1
    refine rCmp_c hkv1 hkv hkl1 ?_
    refine lss_f (hstop h1) ?_
    all_goals
      try simp only [gdTT, gdFF, gdTF, gdFT, pvS, pickT, pickF, faP, lenS, nilP, exA, exB, exC, notB, cndT, cndF, Bool.not_true, Bool.not_false, Nat.zero_add, Nat.add_zero]
      rw [t51_1_1_1_1]
      try simp only [gdTT, gdFF, gdTF, gdFT, pvS, pickT, pickF, faP, lenS, nilP, exA, exB, exC, notB, cndT, cndF, Bool.not_true, Bool.not_false, Nat.zero_add, Nat.add_zero]
      refine ldM (v := kv) ?_ hb1
      refine ldMa (vs := c.cs) ?_ hb1
      refine ⟨?_, ?_⟩
    all_goals
      first
      | (refine ints_c hm1 hkv.sR (by omega) (fun kv' F2 N2 hw2 hF2 hN2 hkv' => ?_)
         refine ⟨ldV_a (row_M hb1) (by exact Nat.le_of_ble_eq_true rfl) rfl, ?_⟩
         obtain ⟨ka, kc, rfl, _⟩ := hkv'.form
         refine pv_r (v := .agg (.slice ka key.length kc :: c.cs).toArray) (by kernel_rfl) ?_
         refine nw_r (fun b2 hb2 => ?_)
         have hb1' : ∀ x, upd M1 b2 x b0 = some (.cells 43 (kv :: c.cs) 5) := fun x => (upd_ne _ _ (by omega)).trans hb1
         refine ⟨ldV_a (row_M (hb1' _)) (by exact Nat.le_of_ble_eq_true rfl) rfl, ?_⟩
         obtain ⟨N3, hN3⟩ : ∃ n, n = b2 + 1 := ⟨_, rfl⟩
         have hbn : b2 < N3 ∧ N2 ≤ b2 ∧ N1 ≤ b2 := by omega
         rw [← hN3])
      | (refine nw_r (fun b2 hb2 => ?_)
         have hb1' : ∀ x, upd M1 b2 x b0 = some (.cells 43 (kv :: c.cs) 5) := fun x => (upd_ne _ _ (by omega)).trans hb1
         refine ⟨ldV_a (row_M (hb1' _)) (by exact Nat.le_of_ble_eq_true rfl) rfl, ldV_c (row_M (hb1' _)) rfl, ?_⟩
         refine ints_c (hm1.new hb2 _) hkv.sR (by omega) (fun kv' F2 N2 hw2 hF2 hN2 hkv' => ?_)
         refine ⟨ldV_a (row_M (hb1' _)) (by exact Nat.le_of_ble_eq_true rfl) rfl, ?_⟩
         obtain ⟨ka, kc, rfl, _⟩ := hkv'.form
         refine pv_r (v := .agg (.slice ka key.length kc :: c.cs).toArray) (by kernel_rfl) ?_
         obtain ⟨N3, hN3⟩ : ∃ n, n = N2 := ⟨_, rfl⟩
         have hbn : b2 < N3 ∧ N1 ≤ b2 ∧ N1 ≤ b2 := by omega
         rw [← hN3])
    all_goals

      have hrc' := row_cells (c := c) hkv'
      refine stM (cs' := .slice ka key.length kc :: c.cs) ?_ (upd_same _ _ _)
      rw [upd_upd]
      have hx : ∀ x, upd M1 b2 x b2 = x := fun x => upd_same _ _ _
      have hv1' := hv1.mono hF2
      have hv2' : rowsF (rowD F2) 5 rows t := hv2.mono fun _ _ h => h.mono hF2
      have fin : ∀ (nc : CE) (i' : Nat) (M2 : Nat → Option Chunk) (N4 : Nat), layR (t.drop s.1) key c = (key, nc) :: t.drop i' → i' ≤ t.length → M2 = upd M1 b2 (some (.cells 43 (.slice ka key.length kc :: nc.cs) 5)) → N3 ≤ N4 →
          ∀ (u : Value) (M' : Nat → Option Chunk) (N' : Nat), own M' N 43 5 u ((t.take s.1).length + 1 + (t.drop i').length) ((rows.take s.1 ++ [.slice ka key.length kc :: nc.cs]) ++ rows.drop i').flatten → (∀ q, q < N → M' q = M2 q) → N4 ≤ N' → clean M' N' → (Hp.mk F2 M' N').wf → ∃ h', (Hp.mk F2 M' N').wk h' ∧ (h'.wf → K u h') := by
        intro nc i' M2 N4 e1 e2 e3 e4 u M' N' e5 e6 e7 e8 hc
        have hMM : ∀ q, q < N → M' q = M q := fun q hq => by rw [e6 q hq, e3, upd_ne _ _ (by omega)]; exact hM1 q hq
        have hr1 : rowD F2 (.slice ka key.length kc :: nc.cs) (key, nc) := ⟨_, rfl, hkv', by simp only; omega⟩
        have hrows : rowsF (rowD F2) 5 ((rows.take s.1 ++ [.slice ka key.length kc :: nc.cs]) ++ rows.drop i') ((t.take s.1 ++ [(key, nc)]) ++ t.drop i') := rows_app ((rows_take hv2' s.1).snoc hr1.one.1 hr1.one.2 hr1) (rows_drop hv2' i')
        have e9 : layR t key c = (t.take s.1 ++ [(key, nc)]) ++ t.drop i' := by rw [hlay, e1]; simp
        refine ⟨_, frz_wf hm hMM hc, fun hw' => k u _ N' hw' (hF2.trans (subF_frzAll hc)) (by omega) ?_⟩
        rw [e9]
        refine tbl_frz hc (rows := (rows.take s.1 ++ [.slice ka key.length kc :: nc.cs]) ++ rows.drop i') ?_ hrows
        have : ((t.take s.1 ++ [(key, nc)]) ++ t.drop i').length = (t.take s.1).length + 1 + (t.drop i').length := by simp; omega
        rw [this]; exact e5
      have hown : ∀ x, own (upd M1 b2 x) N 43 5 s.2 (t.take s.1).length (rows.take s.1).flatten := fun x => by
        rw [htk]; exact ho.keep (fun q hq => upd_ne _ _ (fun e => by have := ho.lt hm1 q hq; omega)) (Nat.le_refl _)
      have hub : s.2.ownBlock ≠ some b2 := fun e => by have := ho.lt hm1 b2 e; omega
      simp only [hlv]
      try simp only [gdTT, gdFF, gdTF, gdFT, pvS, pickT, pickF, faP, lenS, nilP, exA, exB, exC, notB, cndT, cndF, Bool.not_true, Bool.not_false, Nat.zero_add, Nat.add_zero]
      by_cases h2 : s.1 < t.length
      · refine lss_t (by omega) ?_
        try simp only [gdTT, gdFF, gdTF, gdFT, pvS, pickT, pickF, faP, lenS, nilP, exA, exB, exC, notB, cndT, cndF, Bool.not_true, Bool.not_false, Nat.zero_add, Nat.add_zero]
        refine key_r hv1' hv2' h2 fun p q kv1 hkv1 hkl1 => ?_
        refine ldM (v := kv) ?_ (hb1' _)
        refine rCmp_c hkv1 (hkv.mono hF2) hkl1 ?_
        by_cases heq : kcmp t[s.1].1 key = 0
        · refine eql_t heq ?_
          try simp only [gdTT, gdFF, gdTF, gdFT, pvS, pickT, pickF, faP, lenS, nilP, exA, exB, exC, notB, cndT, cndF, Bool.not_true, Bool.not_false, Nat.zero_add, Nat.add_zero]
          refine cell_r hv1' hv2' h2 fun p q => ?_
          refine ldMa (vs := c.cs) ?_ (hb1' _)
          refine rmerge_c (fun N4 hN4 hw4 => ?_)
          refine stM (cs' := .slice ka key.length kc :: (t[s.1].2.rmerge c).cs) ?_ (upd_same _ _ _)
          rw [upd_upd]
          refine inc_r (by omega) ?_
          rw [t51_1_1_1_1_1_1]
          refine rlay_fin (kv := .slice ka key.length kc) (c := t[s.1].2.rmerge c) (i' := s.1 + 1) (t := t) (rows := rows) (pre := t.take s.1) (prs := rows.take s.1) (hx _) hkv' (hm1.set' (by omega) (by omega)) (by omega) (hown _) hub (rows_take hv2' s.1) hv1' hv2' h2 (by rw [htk]; omega)
            (fin (t[s.1].2.rmerge c) (s.1 + 1) _ N4 ?_ h2 rfl hN4)
          rw [List.drop_eq_getElem_cons h2]
          simp only [layR]
          rw [if_neg (by omega), if_pos heq, merge_eq]
        · refine eql_f heq ?_
          try simp only [gdTT, gdFF, gdTF, gdFT, pvS, pickT, pickF, faP, lenS, nilP, exA, exB, exC, notB, cndT, cndF, Bool.not_true, Bool.not_false, Nat.zero_add, Nat.add_zero]
          rw [t51_1_1_1_1_1_1]
          refine rlay_fin (kv := .slice ka key.length kc) (c := c) (i' := s.1) (t := t) (rows := rows) (pre := t.take s.1) (prs := rows.take s.1) (hx _) hkv' (hm1.set' (by omega) (by omega)) (by omega) (hown _) hub (rows_take hv2' s.1) hv1' hv2' hs (by rw [htk]; omega)
            (fin c s.1 _ N3 ?_ hs rfl (Nat.le_refl _))
          rw [List.drop_eq_getElem_cons h2]
          simp only [layR]
          rw [if_neg (hstop h2), if_neg heq]
      · refine lss_f (by omega) ?_
        try simp only [gdTT, gdFF, gdTF, gdFT, pvS, pickT, pickF, faP, lenS, nilP, exA, exB, exC, notB, cndT, cndF, Bool.not_true, Bool.not_false, Nat.zero_add, Nat.add_zero]
        rw [t51_1_1_1_1_1_1]
        refine rlay_fin (kv := .slice ka key.length kc) (c := c) (i' := s.1) (t := t) (rows := rows) (pre := t.take s.1) (prs := rows.take s.1) (hx _) hkv' (hm1.set' (by omega) (by omega)) (by omega) (hown _) hub (rows_take hv2' s.1) hv1' hv2' hs (by rw [htk]; omega)
          (fin c s.1 _ N3 ?_ hs rfl (Nat.le_refl _))
        rw [show t.drop s.1 = [] from List.drop_eq_nil_of_le (by omega)]
        rfl
end Go.Proofs.YthpacapdaembpaaDoor.A
