import Derived.Test.YthpacapdaembpaaDoorZ3
open Go Go.RowKit Go.Proofs.YthpacapdaembpaaDoor.K Go.Proofs.YthpacapdaembpaaDoor.T
set_option linter.unusedVariables false
set_option linter.unusedSimpArgs false
namespace Go.Proofs.YthpacapdaembpaaDoor.A
variable {F F' : Nat → Option (List Value)} {M M' : Nat → Option Chunk} {N N' : Nat} {K : Kont} {E : PanK}
/-- slices.Grow of no rows. -/
theorem grow_c {n : Nat} (hm : clean M N) (hn : n ≤ 1000000000000) (k : ∀ v' M' N', own M' N 43 5 v' 0 [] → (∀ q, q < N → M' q = M q) → N ≤ N' → clean M' N' → (Hp.mk F M' N').wf → K v' ⟨F, M', N'⟩) :
    callv Tryd.prog (.func (.func 83) #[] #[]) #[.slice none 0 0, .int .i64 (n : Nat)] K E ⟨F, M, N⟩ := by
  refine callv_of_text mixed Tryd.func83 (by kernel_rfl) (t83 _ E _ _) (fun hw => ?_)
  refine lss_f (by omega) ?_
  try simp only [gdTT, gdFF, gdTF, gdFT, pvS, pickT, pickF, faP, lenS, capS, nilP, exA, exB, exC, notB, cndT, cndF, Bool.not_true, Bool.not_false, Nat.zero_add, Nat.add_zero]
  rw [t83_1_1]
  try simp only [gdTT, gdFF, gdTF, gdFT, pvS, pickT, pickF, faP, lenS, capS, nilP, exA, exB, exC, notB, cndT, cndF, Bool.not_true, Bool.not_false, Nat.zero_add, Nat.add_zero]
  refine sub_n (a := 0) (b := 0) (by omega) (by omega) ?_
  refine sub_n (a := n) (b := 0) (by omega) (by omega) ?_
  rw [Nat.sub_zero]
  refine gtr_r (fun h0 => ?_) (fun h0 => ?_)
  · try simp only [gdTT, gdFF, gdTF, gdFT, pvS, pickT, pickF, faP, lenS, capS, nilP, exA, exB, exC, notB, cndT, cndF, Bool.not_true, Bool.not_false, Nat.zero_add, Nat.add_zero]
    refine sl_r 0 0 0 (Nat.le_refl _) (Nat.le_refl _) (Nat.le_refl _) ?_
    refine ⟨none, 0, 0, [], n, .i64, rfl, rfl, ⟨by simp, .inl ⟨_, _, rfl, rfl⟩⟩, Nat.le_refl _, by omega, by omega, by simp [maxLen]; omega, fun b c hb0 hc hcm => ?_⟩
    have hb : N ≤ b := hb0
    try simp only [gdTT, gdFF, gdTF, gdFT, pvS, pickT, pickF, faP, lenS, capS, nilP, exA, exB, exC, notB, cndT, cndF, Bool.not_true, Bool.not_false, Nat.zero_add, Nat.add_zero]
    refine sl_pre 0 (Nat.zero_le _) ?_
    try simp only [gdTT, gdFF, gdTF, gdFT, pvS, pickT, pickF, faP, lenS, capS, nilP, exA, exB, exC, notB, cndT, cndF, Bool.not_true, Bool.not_false, Nat.zero_add, Nat.add_zero]
    rw [t83_1_1_1]
    refine fun hc' => ⟨_, wk_refl hc', fun hw' => k _ _ _ ⟨by simp, .inr ⟨b, c, _, rfl, Nat.zero_le _, hcm, hb, upd_same _ _ _⟩⟩ (fun q hq => upd_ne _ _ (by omega)) (Nat.le_succ_of_le hb) (hm.new hb _) hw'⟩
  · try simp only [gdTT, gdFF, gdTF, gdFT, pvS, pickT, pickF, faP, lenS, capS, nilP, exA, exB, exC, notB, cndT, cndF, Bool.not_true, Bool.not_false, Nat.zero_add, Nat.add_zero]
    rw [t83_1_1_1]
    exact fun hc' => ⟨_, wk_refl hc', fun hw' => k _ _ _ own.nil (fun _ _ => rfl) (Nat.le_refl _) hm hw'⟩
/-- Tables in a row. -/
def tblsD (F : Nat → Option (List Value)) (v : Value) (ts : List (List Rw)) : Prop := ∃ rows, sF F 1 v ts.length rows.flatten ∧ rowsF (fun r t => ∃ u, r = [u] ∧ tblD F u t ∧ t.length ≤ 140737488351232) 1 rows ts
theorem tblsD.mono {v : Value} {ts : List (List Rw)} (h : tblsD F v ts) (hF : subF F F') : tblsD F' v ts := let ⟨rows, h1, h2⟩ := h; ⟨rows, h1.mono hF, h2.mono fun _ _ ⟨u, e, h, l⟩ => ⟨u, e, h.mono hF, l⟩⟩
/-- ts[i] -/
theorem tbl_r {v : Value} {ts : List (List Rw)} {K : Value → Kont} (hv : tblsD F v ts) {i : Nat} (hi : i < ts.length) (k : ∀ p u, tblD F u ts[i] → ts[i].length ≤ 140737488351232 → K p u ⟨F, M, N⟩) : pv (iaV none 1 v (.int .i64 (i : Nat))) (fun p => ld false 1 p (K p)) ⟨F, M, N⟩ := by
  obtain ⟨rows, h1, h2⟩ := hv
  obtain ⟨b, o, c, cs, r, rfl, hF, _, ⟨u, rfl, hu, hul⟩, hl, _, hle, ht, hj⟩ := row_at h1 h2 (by decide) hi
  exact iaN_r hi (ld_r (ldV_c (row_F hF) (hj 0 (by decide))) (k _ _ hu hul))
theorem flat_take {α : Type} (l : List (List α)) {i : Nat} (h : i < l.length) : (l.take (i + 1)).flatten = (l.take i).flatten ++ l[i] := by
  rw [List.take_add_one, List.getElem?_eq_getElem h, Option.toList_some, List.flatten_append]; simp
/-- slices.Concat of tables. -/
theorem concat_c {v : Value} {ts : List (List Rw)} (hv : tblsD F v ts) (hl : ts.flatten.length ≤ 1000000000) (htl : ts.length ≤ 1000000000) (k : ∀ v' F' N', (Hp.mk F' M N').wf → subF F F' → N ≤ N' → tblD F' v' ts.flatten → K v' ⟨F', M, N'⟩) :
    callv Tryd.prog (.func (.func 55) #[] #[]) #[v] K E ⟨F, M, N⟩ := by
  refine callv_of_text mixed Tryd.func55 (by kernel_rfl) (t55 _ E _) (fun hw => ?_)
  have hm : clean M N := hw.m
  have hlv : lenV v = some (.int .i64 (ts.length : Nat)) := by obtain ⟨rows, h1, _⟩ := hv; obtain ⟨a, c, rfl, _⟩ := h1.form; rfl
  have hfl : ∀ i, i ≤ ts.length → (ts.take i).flatten.length ≤ ts.flatten.length := fun i hi => by
    have h := congrArg List.flatten (List.take_append_drop i ts)
    rw [List.flatten_append] at h
    have := congrArg List.length h
    rw [List.length_append] at this
    omega
  simp only [hlv]
  try simp only [gdTT, gdFF, gdTF, gdFT, pvS, pickT, pickF, faP, lenS, capS, nilP, exA, exB, exC, notB, cndT, cndF, Bool.not_true, Bool.not_false, Nat.zero_add, Nat.add_zero]
  refine l55_1_1_0_1_0_0 (σ := Nat) (fun i => .int .i64 ((ts.take i).flatten.length : Nat)) (fun i => .int .i64 (i : Nat)) (fun i h => h = ⟨F, M, N⟩ ∧ i ≤ ts.length) (fun i => ts.length - i) 0 rfl rfl
    (fun hw1 => ⟨_, wk_refl hw1, rfl, Nat.zero_le _⟩) (fun k1 i j h1 hI hw1 next => ?_)
  obtain ⟨rfl, hi⟩ := hI
  refine lss_r (fun hlt => ?_) (fun hge => ?_)
  · have h1 : i < ts.length := by omega
    try simp only [gdTT, gdFF, gdTF, gdFT, pvS, pickT, pickF, faP, lenS, capS, nilP, exA, exB, exC, notB, cndT, cndF, Bool.not_true, Bool.not_false, Nat.zero_add, Nat.add_zero]
    refine tbl_r hv h1 fun p u hu hul => ?_
    obtain ⟨a, c, rfl⟩ := hu.form
    have h2 := hfl (i + 1) h1
    have e := flat_take ts h1
    rw [e, List.length_append] at h2
    try simp only [gdTT, gdFF, gdTF, gdFT, pvS, pickT, pickF, faP, lenS, capS, nilP, exA, exB, exC, notB, cndT, cndF, Bool.not_true, Bool.not_false, Nat.zero_add, Nat.add_zero]
    refine add_n (by omega) (lss_f (by omega) ?_)
    try simp only [gdTT, gdFF, gdTF, gdFT, pvS, pickT, pickF, faP, lenS, capS, nilP, exA, exB, exC, notB, cndT, cndF, Bool.not_true, Bool.not_false, Nat.zero_add, Nat.add_zero]
    rw [t55_1_1_0_1_0_0_1_1_1]
    refine inc_r (by omega) ?_
    rw [← List.length_append, ← e]
    exact next (i + 1) _ _ (by omega) (fun hw2 => ⟨_, wk_refl hw2, rfl, h1⟩)
  · try simp only [gdTT, gdFF, gdTF, gdFT, pvS, pickT, pickF, faP, lenS, capS, nilP, exA, exB, exC, notB, cndT, cndF, Bool.not_true, Bool.not_false, Nat.zero_add, Nat.add_zero]
    rw [t55_1_1_1]
    rw [List.take_of_length_le (by omega)]
    refine grow_c hm (by omega) (fun u M1 N1 ho hM1 hN1 hm1 hw1 => ?_)
    simp only [hlv]
    try simp only [gdTT, gdFF, gdTF, gdFT, pvS, pickT, pickF, faP, lenS, capS, nilP, exA, exB, exC, notB, cndT, cndF, Bool.not_true, Bool.not_false, Nat.zero_add, Nat.add_zero]
    refine l55_1_1_1_1_0_1_0_0 (σ := Nat × Value) (fun s => s.2) (fun s => .int .i64 (s.1 : Nat))
      (fun s h => ∃ M' N' rows, h = ⟨F, M', N'⟩ ∧ N ≤ N' ∧ (∀ q, q < N → M' q = M q) ∧ clean M' N' ∧ s.1 ≤ ts.length ∧ own M' N 43 5 s.2 (ts.take s.1).flatten.length rows.flatten ∧ rowsF (rowD F) 5 rows (ts.take s.1).flatten) (fun s => ts.length - s.1) (0, u) rfl rfl
      (fun hw2 => ⟨_, wk_refl hw2, M1, N1, [], rfl, hN1, hM1, hm1, Nat.zero_le _, ho, rowsF.nil _ _⟩) (fun k1 s j h1 hI hw2 next => ?_)
    obtain ⟨M2, N2, rows, rfl, hN2, hM2, hm2, hi, ho2, hr2⟩ := hI
    refine lss_r (fun hlt => ?_) (fun hge => ?_)
    · have h1 : s.1 < ts.length := by omega
      try simp only [gdTT, gdFF, gdTF, gdFT, pvS, pickT, pickF, faP, lenS, capS, nilP, exA, exB, exC, notB, cndT, cndF, Bool.not_true, Bool.not_false, Nat.zero_add, Nat.add_zero]
      refine tbl_r hv h1 fun p w hwt hwl => ?_
      obtain ⟨rows3, hw3, hr3⟩ := hwt
      have h2 := hfl (s.1 + 1) h1
      have e := flat_take ts h1
      rw [e, List.length_append] at h2
      refine ho2.app hm2 hN2 hw3.sR hr3.f1 (by omega) (by unfold maxLen; omega) (fun w' M3 N3 h4 h5 h6 h7 => ?_)
      refine inc_r (by omega) ?_
      refine next (s.1 + 1, w') _ _ (by simp only; omega) (fun hw4 => ⟨_, wk_refl hw4, M3, N3, rows ++ rows3, rfl, by omega, fun q hq => ?_, h7, h1, ?_, ?_⟩)
      · have q1 : s.2.ownBlock ≠ some q := fun e => by have := (ho2.ge q e).1; omega
        exact ((h5 q q1 (by omega)).1).trans (hM2 q hq)
      · simp only
        rw [e, List.length_append, List.flatten_append]; exact h4
      · simp only
        rw [e]; exact rows_app hr2 hr3
    · try simp only [gdTT, gdFF, gdTF, gdFT, pvS, pickT, pickF, faP, lenS, capS, nilP, exA, exB, exC, notB, cndT, cndF, Bool.not_true, Bool.not_false, Nat.zero_add, Nat.add_zero]
      rw [t55_1_1_1_1_1]
      rw [List.take_of_length_le (by omega)] at ho2 hr2
      exact fun hc => ⟨_, frz_wf hm hM2 hc, fun hw' => k _ _ _ hw' (subF_frzAll hc) hN2 (tbl_frz hc ho2 hr2)⟩
theorem same_key_c {v : Value} {h : Hp} (k : h.wf → K v h) : callv Tryd.prog (.func (.func 56) #[] #[]) #[v] K E h := by
  obtain ⟨F, M, N⟩ := h
  exact callv_of_text mixed Tryd.func56 (by kernel_rfl) (t56 _ E _) (fun hw hc => ⟨_, wk_refl hc, k⟩)
/-- table.of; f tells what a key becomes. -/
theorem tof_c {v fv : Value} {l : List Rw} {f : List Int → List Int} (hv : tblD F v l) (hl : l.length ≤ 1000000000) (hk : ∀ r ∈ l, okK (f r.1))
    (hf : ∀ {K : Kont} (F1 : Nat → Option (List Value)) (M1 : Nat → Option Chunk) (N1 : Nat) (r : Rw) (kv : Value), r ∈ l → subF F F1 → (∀ q, q < N → M1 q = M q) → N ≤ N1 → clean M1 N1 → sF F1 1 kv r.1.length (ic r.1) → r.1.length ≤ 140737488351232 →
      (∀ v' F' N', (Hp.mk F' M1 N').wf → subF F1 F' → N1 ≤ N' → sF F' 1 v' (f r.1).length (ic (f r.1)) → K v' ⟨F', M1, N'⟩) → callv Tryd.prog fv #[kv] K E ⟨F1, M1, N1⟩)
    (k : ∀ v' F' N', (Hp.mk F' M N').wf → subF F F' → N ≤ N' → tblD F' v' (tab (l.map fun r => (f r.1, r.2))) → K v' ⟨F', M, N'⟩) :
    callv Tryd.prog (.func (.func 54) #[] #[]) #[v, fv] K E ⟨F, M, N⟩ := by
  refine callv_of_text mixed Tryd.func54 (by kernel_rfl) (t54 _ E _ _) (fun hw => ?_)
  have hm : clean M N := hw.m
  refine blank_c (fun g bm N1 hbm hg hN1 hw1 => ?_)
  obtain ⟨trs, hvs, hrs⟩ := hv
  refine lenF_r hvs ?_
  refine l54_1_1_0_1_0_0 (σ := Nat) (fun i => .int .i64 (i : Nat))
    (fun i h => ∃ F' M' N' v' rows, h = ⟨F', M', N'⟩ ∧ subF F F' ∧ N ≤ N' ∧ (∀ q, q < N → M' q = M q) ∧ clean M' N' ∧ i ≤ l.length ∧ isSheet F' M' N g bm v' rows (sheet ((l.take i).map fun r => (f r.1, r.2)))) (fun i => l.length - i) 0 rfl
    (fun hwx => ⟨_, wk_refl hwx, F, _, N1, .slice none 0 0, [], rfl, subF.refl _, by omega, fun q hq => (upd_ne _ _ (by omega)).trans (upd_ne _ _ (by omega)), hw1.m, Nat.zero_le _,
      ⟨upd_same _ _ _, by omega, hbm, ⟨#[], 0, (upd_ne _ _ (by omega)).trans (upd_same _ _ _), by simp [mapOK, sheet]⟩, own.nil, rowsF.nil _ _, .nil⟩⟩) (fun k1 i j h1 hI hwx next => ?_)
  obtain ⟨F1, M1, N2, v1, rows, rfl, hF1, hN2, hM1, hm1, hi, hS⟩ := hI
  have hsl : ∀ i, (sheet ((l.take i).map fun r => (f r.1, r.2))).length ≤ 1000000000 := fun i => by
    have : ∀ (m : List Rw) (s : List Rw), (m.foldl (fun t r => layP t r.1 r.2) s).length ≤ s.length + m.length := by
      intro m
      induction m with
      | nil => intro s; simp
      | cons r m ih => intro s; have := ih (layP s r.1 r.2); have h2 := layP_len s r.1 r.2; simp at this ⊢; omega
    have h3 := this ((l.take i).map fun r => (f r.1, r.2)) []
    unfold sheet
    rw [List.length_map, List.length_take] at h3
    simp at h3 ⊢; omega
  refine lss_r (fun hlt => ?_) (fun hge => ?_)
  · have hlt' : i < l.length := by omega
    refine cnd_t ?_
    refine row_r (hvs.mono hF1) (hrs.mono fun _ _ h => h.mono hF1) (by decide) hlt' (fun p r _ hR hrl hr1 => ?_)
    obtain ⟨kv, hre, hkv, hkl⟩ := hR
    subst hre
    refine nw_r (fun b1 hb1 => ?_)
    refine stM (cs' := kv :: l[i].2.cs) ?_ (upd_same _ _ _) rfl rfl hr1
    refine pv_r rfl (ldM (v := kv) (pv_r rfl (ldMa (vs := l[i].2.cs) ?_)))
    rw [upd_upd]
    refine hf F1 _ _ l[i] kv (List.getElem_mem _) hF1 (fun q hq => (upd_ne _ _ (by omega)).trans (hM1 q hq)) (by omega) (hm1.new hb1 _) hkv hkl (fun v2 F2 N3 hw3 hF2 hN3 hv2 => ?_)
    refine ⟨ldV_a (row_M (upd_same _ _ _)) (by exact Nat.le_of_ble_eq_true rfl) rfl, ?_⟩
    have hok := hk l[i] (List.getElem_mem _)
    refine lay_c (hS.keep hF2 (upd_keep hm1 hb1 _)) hw3.m (by omega) hv2 (Nat.le_trans hok.1 (by decide)) hok.2 (by have := hsl i; omega) (fun F4 M4 N4 v4 rows4 hF4 hN4 hS4 hM4 hm4 hw4 => ?_)
    refine inc_r (by omega) ?_
    refine next (i + 1) _ _ (by omega) (fun hw5 => ⟨_, wk_refl hw5, F4, M4, N4, v4, rows4, rfl, (hF1.trans hF2).trans hF4, by omega, fun q hq => (hM4 q hq).trans ((upd_ne _ _ (by omega)).trans (hM1 q hq)), hm4, by omega, ?_⟩)
    rw [List.take_add_one, List.getElem?_eq_getElem hlt', Option.toList_some, List.map_append, List.map_singleton, sheet_snoc]
    exact hS4
  · refine cnd_f ?_
    rw [t54_1_1_1]
    have e : l.take i = l := List.take_of_length_le (by omega)
    have hs2 := hsl i
    rw [e] at hS hs2
    refine sorted_c hS hm1 (by omega) (fun M4 N4 rows4 t' hN4 ho4 hr4 hp hs hM4 hm4 hw4 hc => ?_)
    rw [sheet_sorted hp hs] at ho4 hr4
    have hMM : ∀ q, q < N → M4 q = M q := fun q hq => (hM4 q hq).trans (hM1 q hq)
    exact ⟨_, frz_wf hm hMM hc, fun hw' => k v1 _ N4 hw' (hF1.trans (subF_frzAll hc)) (by omega) (tbl_frz hc ho4 hr4)⟩
end Go.Proofs.YthpacapdaembpaaDoor.A
open Go Go.RowKit Go.Proofs.YthpacapdaembpaaDoor.K Go.Proofs.YthpacapdaembpaaDoor.T
set_option linter.unusedVariables false
set_option linter.unusedSimpArgs false
namespace Go.Proofs.YthpacapdaembpaaDoor.A
variable {F F' : Nat → Option (List Value)} {M M' : Nat → Option Chunk} {N N' : Nat} {K : Kont} {E : PanK}
/-- An element more: its cells are built, then appended. -/
theorem push_r {B : Nat} {e : TypeId} {sz bytes n : Nat} {v : Value} {cs : List Value} {cells : Option (Array Value)} {new : List Value} {K : Value → Kont} (h : own M B e sz v n cs) (hm : clean M N) (hB : B ≤ N) (hc : cells = some new.toArray) (hl : new.length = sz) (h1 : ∀ c ∈ new, c.oneCell' = true) (hb : (n + 1) * bytes ≤ 140737488355328) (hn : n + 1 ≤ maxLen)
    (k : ∀ p v' M' N', own M' B e sz v' (n + 1) (cs ++ new) → fr M M' N v v' → N ≤ N' → clean M' N' → K p v' ⟨F, M', N'⟩) : nws e 1 cells (fun t => appX e sz bytes v t (K t)) ⟨F, M, N⟩ := by
  refine nws_r (cs := new) hc (fun b hb' => ?_)
  have hbne : v.ownBlock ≠ some b := fun e => by have := h.lt hm b e; omega
  have h2 : own (upd M b (some (.cells e new new.length))) B e sz v n cs := h.keep (fun q hq => upd_ne _ _ (fun e => hbne (e ▸ hq))) (Nat.le_refl _)
  refine h2.app (m := 1) (news := new) (hm.new hb' _) (by omega) ⟨by omega, .inr ⟨b, 0, 1, _, rfl, Nat.le_refl _, .inr ⟨_, _, upd_same _ _ _⟩, by rw [List.drop_zero, List.take_of_length_le (by omega)]⟩⟩ h1 hb hn (fun v' M' N' h3 h4 h5 h6 => ?_)
  exact k _ v' M' N' h3 (fun q hq hqN => ⟨((h4 q hq (by omega)).1).trans (upd_ne _ _ (by omega)), (h4 q hq (by omega)).2⟩) (by omega) h6
/-- table.Merge -/
theorem tmerge_c {u v : Value} {a b : List Rw} (hu : tblD F u a) (hv : tblD F v b) (hl : a.length + b.length ≤ 1000000000) (hk : ∀ r ∈ a ++ b, okK r.1)
    (k : ∀ v' F' N', (Hp.mk F' M N').wf → subF F F' → N ≤ N' → tblD F' v' (tab (a ++ b)) → K v' ⟨F', M, N'⟩) :
    callv Tryd.prog (.func (.func 27) #[] #[]) #[u, v] K E ⟨F, M, N⟩ := by
  refine callv_of_text mixed Tryd.func27 (by kernel_rfl) (t27 _ E _ _) (fun hw => ?_)
  have hm : clean M N := hw.m
  have hv' := hv; have hu' := hu
  obtain ⟨ua, uc, rfl⟩ := hu'.form
  obtain ⟨va, vc, rfl⟩ := hv'.form
  refine nws_r (cs := [.slice ua a.length uc, .slice va b.length vc]) (by kernel_rfl) (fun b1 hb1 => ?_)
  refine callv_go (fun hc => ⟨_, frz_wf hm (fun q hq => upd_ne _ _ (by omega)) hc, ?_⟩)
  have hs := subF_frzAll (N := N) hc
  have f1 := frz_at (F := F) (N := N) hb1 (upd_same M b1 (some (.cells 22 [.slice ua a.length uc, .slice va b.length vc] [Value.slice ua a.length uc, .slice va b.length vc].length)))
  have hts : tblsD (frzAll F (upd M b1 (some (.cells 22 [.slice ua a.length uc, .slice va b.length vc] [Value.slice ua a.length uc, .slice va b.length vc].length))) N) (.slice (some ⟨b1, 0, none⟩) 2 2) [a, b] := by
    refine ⟨[[.slice ua a.length uc], [.slice va b.length vc]], sF_lit f1 rfl (by decide), ?_⟩
    have h0 := rowsF.nil (fun (r : List Value) (t : List Rw) => ∃ u, r = [u] ∧ tblD (frzAll F (upd M b1 (some (.cells 22 [.slice ua a.length uc, .slice va b.length vc] [Value.slice ua a.length uc, .slice va b.length vc].length))) N) u t ∧ t.length ≤ 140737488351232) 1
    exact (h0.snoc rfl (List.all_eq_true.1 rfl) ⟨_, rfl, hu'.mono hs, by omega⟩).snoc rfl (List.all_eq_true.1 rfl) ⟨_, rfl, hv'.mono hs, by omega⟩
  have e : [a, b].flatten = a ++ b := by simp
  refine concat_c hts (by rw [e, List.length_append]; exact hl) (by simp) (fun w F2 N2 hw2 hF2 hN2 ht => ?_)
  rw [e] at ht
  refine tof_c (f := id) ht (by rw [List.length_append]; exact hl) (fun r hr => hk r hr) (fun F3 M3 N3 r kv _ _ _ _ hm3 hkv _ hK => same_key_c fun hw3 => hK kv F3 N3 hw3 (subF.refl _) (Nat.le_refl _) hkv) (fun v' F' N' hw' hF hN ht' hc => ⟨_, wk_refl hc, fun hw'' => k v' F' N' hw'' ((hs.trans hF2).trans hF) (by omega) ?_⟩)
  rw [show (fun r : Rw => (id r.1, r.2)) = id from rfl, List.map_id] at ht'; exact ht'
/-- TableMerges -/
theorem tableMerges_c {u v : Value} {a b : List Rw} (hu : tblD F u a) (hv : tblD F v b) (hla : a.length ≤ 140737488351232) (hlb : b.length ≤ 140737488351232) (hka : ∀ r ∈ a, ∀ x ∈ r.1, i64 x) (hkb : ∀ r ∈ b, ∀ x ∈ r.1, i64 x) (k : ∀ h, K (.bool true) h) :
    call Tryd.prog 6 #[u, v] K E ⟨F, M, N⟩ := by
  refine call_text mixed Tryd.func6 (by kernel_rfl) (t6 _ E _ _) (fun hw => ?_)
  have fcn : ∀ {F : Nat → Option (List Value)}, fctsD F (.slice none 0 0) [] := ⟨[], sF.nil _ _ _, rowsF.nil _ _⟩
  have kn : ∀ {M : Nat → Option Chunk} {F : Nat → Option (List Value)} {N : Nat}, callv Tryd.prog (.func (.func 18) #[] #[]) #[] (fun v h => h.wf → ∃ h', h.wk h' ∧ (h'.wf → K v h')) E ⟨F, M, N⟩ := known_c (fun F' N' _ _ _ hc => ⟨_, wk_refl hc, fun _ => k _⟩)
  refine heavy_c hu fcn hla (by decide) (fun r1 hr1 => ?_)
  cases r1 with
  | true => try simp only [gdTT, gdFF, gdTF, gdFT, pvS, pickT, pickF, faP, lenS, capS, nilP, exA, exB, exC, notB, cndT, cndF, Bool.not_true, Bool.not_false, Nat.zero_add, Nat.add_zero]; exact kn
  | false =>
  try simp only [gdTT, gdFF, gdTF, gdFT, pvS, pickT, pickF, faP, lenS, capS, nilP, exA, exB, exC, notB, cndT, cndF, Bool.not_true, Bool.not_false, Nat.zero_add, Nat.add_zero]
  refine heavy_c hv fcn hlb (by decide) (fun r2 hr2 => ?_)
  cases r2 with
  | true => try simp only [gdTT, gdFF, gdTF, gdFT, pvS, pickT, pickF, faP, lenS, capS, nilP, exA, exB, exC, notB, cndT, cndF, Bool.not_true, Bool.not_false, Nat.zero_add, Nat.add_zero]; exact kn
  | false =>
  obtain ⟨h1, _, h2⟩ := hr1 rfl
  obtain ⟨h3, _, h4⟩ := hr2 rfl
  have hok : ∀ r ∈ a ++ b, okK r.1 := fun r hr => by
    rcases List.mem_append.1 hr with hr | hr
    · exact ⟨by have := wt_mem (List.mem_map_of_mem (f := (·.1)) hr); omega, hka r hr⟩
    · exact ⟨by have := wt_mem (List.mem_map_of_mem (f := (·.1)) hr); omega, hkb r hr⟩
  try simp only [gdTT, gdFF, gdTF, gdFT, pvS, pickT, pickF, faP, lenS, capS, nilP, exA, exB, exC, notB, cndT, cndF, Bool.not_true, Bool.not_false, Nat.zero_add, Nat.add_zero]
  refine known_c (fun F1 N1 hF1 hN1 hw1 => ?_)
  try simp only [gdTT, gdFF, gdTF, gdFT, pvS, pickT, pickF, faP, lenS, capS, nilP, exA, exB, exC, notB, cndT, cndF, Bool.not_true, Bool.not_false, Nat.zero_add, Nat.add_zero]
  refine tmerge_c (hu.mono hF1) (hv.mono hF1) (by omega) hok (fun w F2 N2 hw2 hF2 hN2 hw => ?_)
  refine rMerge_c ((hu.mono hF1).mono hF2) ((hv.mono hF1).mono hF2) (by omega) (fun r hr => (hok r hr).1) (fun w' F3 N3 hw3 hF3 hN3 hw' => ?_)
  refine same_c (hw.mono hF3) hw' (by have := tab_len (a ++ b); simp at this; omega) ?_
  rw [decide_eq_true rfl]
  exact fun hc => ⟨_, wk_refl hc, fun _ => k _⟩
/-- All, of the reference -/
def allC (l : List Int) : CE := l.foldl (fun c x => c.rmerge (ofC x)) ⟨0, 0, 0, 0⟩
theorem rall_c {v : Value} {l : List Int} (hv : sF F 1 v l.length (ic l)) (hl : l.length ≤ 140737488351232) (k : ∀ N', N ≤ N' → (Hp.mk F M N').wf → K (.agg (allC l).cs.toArray) ⟨F, M, N'⟩) :
    callv Tryd.prog (.func (.func 26) #[] #[]) #[v] K E ⟨F, M, N⟩ := by
  refine callv_of_text mixed Tryd.func26 (by kernel_rfl) (t26 _ E _) (fun hw => ?_)
  have hm : clean M N := hw.m
  have hlv : lenV v = some (.int .i64 (l.length : Nat)) := by obtain ⟨a, c, rfl, _⟩ := hv.form; rfl
  refine nw_r (fun b1 hb1 => ?_)
  refine pv_r (v := .agg (CE.mk 0 0 0 0).cs.toArray) (by kernel_rfl) ?_
  refine nw_r (fun b2 hb2 => ?_)
  refine stM (cs' := (CE.mk 0 0 0 0).cs) ?_
  refine l26_1_1_0_1_0_0 (σ := Nat) (fun i => .int .i64 (i : Nat))
    (fun i h => ∃ N', h = ⟨F, upd (upd M b1 (some (.cells 41 (CE.mk 0 0 0 0).cs 4))) b2 (some (.cells 41 (allC (l.take i)).cs 4)), N'⟩ ∧ b2 < N' ∧ i ≤ l.length) (fun i => l.length - i) 0 rfl
    (fun hw1 => ⟨_, wk_refl hw1, _, by rw [upd_upd]; rfl, Nat.lt_succ_self _, Nat.zero_le _⟩) (fun k1 i j h1 hI hw1 next => ?_)
  obtain ⟨N1, rfl, hN1, hi⟩ := hI
  simp only [hlv]
  try simp only [gdTT, gdFF, gdTF, gdFT, pvS, pickT, pickF, faP, lenS, capS, nilP, exA, exB, exC, notB, cndT, cndF, Bool.not_true, Bool.not_false, Nat.zero_add, Nat.add_zero]
  refine lss_r (fun hlt => ?_) (fun hge => ?_)
  · have h1 : i < l.length := by omega
    try simp only [gdTT, gdFF, gdTF, gdFT, pvS, pickT, pickF, faP, lenS, capS, nilP, exA, exB, exC, notB, cndT, cndF, Bool.not_true, Bool.not_false, Nat.zero_add, Nat.add_zero]
    refine ldMa (vs := (allC (l.take i)).cs) ?_
    refine ixn_r hv h1 fun p => ?_
    refine rof_c (fun N2 hN2 hw2 => ?_)
    refine ⟨ldV_a (row_M (upd_same _ _ _)) (by exact Nat.le_of_ble_eq_true rfl) rfl, ?_⟩
    refine rmerge_c (a := allC (l.take i)) (b := ofC l[i]) (fun N3 hN3 hw3 => ?_)
    refine stM (cs' := ((allC (l.take i)).rmerge (ofC l[i])).cs) ?_
    refine inc_r (by omega) ?_
    rw [upd_upd]
    have e : allC (l.take (i + 1)) = (allC (l.take i)).rmerge (ofC l[i]) := by
      unfold allC
      rw [List.take_add_one, List.getElem?_eq_getElem h1, Option.toList_some, List.foldl_append]
      rfl
    exact next (i + 1) _ _ (by omega) (fun hw4 => ⟨_, wk_refl hw4, N3, by rw [e], by omega, h1⟩)
  · try simp only [gdTT, gdFF, gdTF, gdFT, pvS, pickT, pickF, faP, lenS, capS, nilP, exA, exB, exC, notB, cndT, cndF, Bool.not_true, Bool.not_false, Nat.zero_add, Nat.add_zero]
    rw [t26_1_1_1]
    rw [List.take_of_length_le (by omega)]
    refine ldMa (vs := (allC l).cs) ?_
    refine stM (cs' := (allC l).cs) ?_
    refine ldMa (vs := (allC l).cs) fun hc => ?_
    exact ⟨⟨F, M, N1⟩, wk_drop hc (subM_drop (subM_drop (subM_drop (subM_refl _) (hm _ (by omega))) (hm _ (by omega))) (hm _ (by omega))), fun hw' => k _ (by omega) hw'⟩
theorem tab_one (key : List Int) (l : List Int) (h : l ≠ []) : tab (l.map fun x => fr1 (key, x)) = [(key, allC l)] := by
  have step : ∀ (l : List Int) (c : CE), (l.map fun x => fr1 (key, x)).foldl (fun t r => layR t r.1 r.2) [(key, c)] = [(key, l.foldl (fun c x => c.rmerge (ofC x)) c)] := by
    intro l
    induction l with
    | nil => intro c; rfl
    | cons x l ih =>
      intro c
      simp only [List.map_cons, List.foldl_cons]
      have : layR [(key, c)] (fr1 (key, x)).1 (fr1 (key, x)).2 = [(key, c.rmerge (ofC x))] := by
        simp only [fr1, layR, kcmp_self, merge_eq]
        rw [if_neg (by decide), if_pos trivial]
      rw [this]; exact ih _
  cases l with
  | nil => exact absurd rfl h
  | cons x l =>
    unfold tab allC
    simp only [List.map_cons, List.foldl_cons]
    have e1 : layR [] (fr1 (key, x)).1 (fr1 (key, x)).2 = [(key, ofC x)] := rfl
    rw [e1, step l (ofC x)]
    rfl
end Go.Proofs.YthpacapdaembpaaDoor.A
open Go Go.RowKit Go.Proofs.YthpacapdaembpaaDoor.K Go.Proofs.YthpacapdaembpaaDoor.T
set_option linter.unusedVariables false
set_option linter.unusedSimpArgs false
namespace Go.Proofs.YthpacapdaembpaaDoor.A
variable {F F' : Nat → Option (List Value)} {M M' : Nat → Option Chunk} {N N' : Nat} {K : Kont} {E : PanK}
/-- TableOne -/
theorem tableOne_c {kv v : Value} {key l : List Int} (hk : sF F 1 kv key.length (ic key)) (hv : sF F 1 v l.length (ic l)) (hkl : key.length ≤ 140737488351232) (hvl : l.length ≤ 140737488351232) (hki : ∀ x ∈ key, i64 x) (k : ∀ h, K (.bool true) h) :
    call Tryd.prog 5 #[kv, v] K E ⟨F, M, N⟩ := by
  refine call_text mixed Tryd.func5 (by kernel_rfl) (t5 _ E _ _) (fun hw => ?_)
  have kn : ∀ {M : Nat → Option Chunk} {F : Nat → Option (List Value)} {N : Nat}, callv Tryd.prog (.func (.func 18) #[] #[]) #[] (fun v h => h.wf → ∃ h', h.wk h' ∧ (h'.wf → K v h')) E ⟨F, M, N⟩ := known_c (fun F' N' _ _ _ hc => ⟨_, wk_refl hc, fun _ => k _⟩)
  have hlk : lenV kv = some (.int .i64 (key.length : Nat)) := by obtain ⟨a, c, rfl, _⟩ := hk.form; rfl
  have hlv : lenV v = some (.int .i64 (l.length : Nat)) := by obtain ⟨a, c, rfl, _⟩ := hv.form; rfl
  simp only [hlk]
  try simp only [gdTT, gdFF, gdTF, gdFT, pvS, pickT, pickF, faP, lenS, capS, nilP, exA, exB, exC, notB, cndT, cndF, Bool.not_true, Bool.not_false, Nat.zero_add, Nat.add_zero]
  refine gtr_r (fun h1 => ?_) (fun h1 => ?_)
  · try simp only [gdTT, gdFF, gdTF, gdFT, pvS, pickT, pickF, faP, lenS, capS, nilP, exA, exB, exC, notB, cndT, cndF, Bool.not_true, Bool.not_false, Nat.zero_add, Nat.add_zero]; exact kn
  try simp only [gdTT, gdFF, gdTF, gdFT, pvS, pickT, pickF, faP, lenS, capS, nilP, exA, exB, exC, notB, cndT, cndF, Bool.not_true, Bool.not_false, Nat.zero_add, Nat.add_zero]
  simp only [hlv]
  try simp only [gdTT, gdFF, gdTF, gdFT, pvS, pickT, pickF, faP, lenS, capS, nilP, exA, exB, exC, notB, cndT, cndF, Bool.not_true, Bool.not_false, Nat.zero_add, Nat.add_zero]
  refine gtr_r (fun h2 => ?_) (fun h2 => ?_)
  · try simp only [gdTT, gdFF, gdTF, gdFT, pvS, pickT, pickF, faP, lenS, capS, nilP, exA, exB, exC, notB, cndT, cndF, Bool.not_true, Bool.not_false, Nat.zero_add, Nat.add_zero]; exact kn
  try simp only [gdTT, gdFF, gdTF, gdFT, pvS, pickT, pickF, faP, lenS, capS, nilP, exA, exB, exC, notB, cndT, cndF, Bool.not_true, Bool.not_false, Nat.zero_add, Nat.add_zero]
  refine known_c (fun F1 N1 hF1 hN1 hw1 => ?_)
  try simp only [gdTT, gdFF, gdTF, gdFT, pvS, pickT, pickF, faP, lenS, capS, nilP, exA, exB, exC, notB, cndT, cndF, Bool.not_true, Bool.not_false, Nat.zero_add, Nat.add_zero]
  have hm1 : clean M N1 := hw1.m
  have hk1 := hk.mono hF1
  obtain ⟨ka, kc, hkf, _⟩ := hk.form
  refine l5_1_1_1_0_1_0_0 (σ := Nat × Value) (fun s => s.2) (fun s => .int .i64 (s.1 : Nat))
    (fun s h => ∃ M' N' rows, h = ⟨F1, M', N'⟩ ∧ N1 ≤ N' ∧ (∀ q, q < N1 → M' q = M q) ∧ clean M' N' ∧ s.1 ≤ l.length ∧ own M' N1 39 2 s.2 s.1 rows.flatten ∧ rowsF (fctD F1) 2 rows ((l.take s.1).map fun x => (key, x))) (fun s => l.length - s.1) (0, .slice none 0 0) rfl rfl
    (fun hw2 => ⟨_, wk_refl hw2, M, N1, [], rfl, Nat.le_refl _, fun _ _ => rfl, hm1, Nat.zero_le _, own.nil, rowsF.nil _ _⟩) (fun k1 s j h1 hI hw2 next => ?_)
  obtain ⟨M2, N2, rows, rfl, hN2, hM2, hm2, hi, ho2, hr2⟩ := hI
  simp only [hlv]
  try simp only [gdTT, gdFF, gdTF, gdFT, pvS, pickT, pickF, faP, lenS, capS, nilP, exA, exB, exC, notB, cndT, cndF, Bool.not_true, Bool.not_false, Nat.zero_add, Nat.add_zero]
  refine lss_r (fun hlt => ?_) (fun hge => ?_)
  · have h3 : s.1 < l.length := by omega
    try simp only [gdTT, gdFF, gdTF, gdFT, pvS, pickT, pickF, faP, lenS, capS, nilP, exA, exB, exC, notB, cndT, cndF, Bool.not_true, Bool.not_false, Nat.zero_add, Nat.add_zero]
    refine ixn_r (hv.mono hF1) h3 fun p => ?_
    have hr1 : fctD F1 [kv, .int .i64 l[s.1]] (key, l[s.1]) := ⟨kv, rfl, hk1, hkl⟩
    refine pv_r (v := .agg #[kv, .int .i64 l[s.1]]) (by rw [hkf]; kernel_rfl) ?_
    refine push_r (new := [kv, .int .i64 l[s.1]]) ho2 hm2 hN2 (by rw [hkf]; kernel_rfl) rfl hr1.one.2 (by omega) (by unfold maxLen; omega) (fun p v' M3 N3 h4 h5 h6 h7 => ?_)
    refine inc_r (by omega) ?_
    refine next (s.1 + 1, v') _ _ (by simp only; omega) (fun hw3 => ⟨_, wk_refl hw3, M3, N3, rows ++ [[kv, .int .i64 l[s.1]]], rfl, by omega, fun q hq => ?_, h7, h3, ?_, ?_⟩)
    · exact ((h5 q (fun e => by have := (ho2.ge q e).1; omega) (by omega)).1).trans (hM2 q hq)
    · simpa using h4
    · simp only
      rw [List.take_add_one, List.getElem?_eq_getElem h3, Option.toList_some, List.map_append]
      exact hr2.snoc hr1.one.1 hr1.one.2 hr1
  · try simp only [gdTT, gdFF, gdTF, gdFT, pvS, pickT, pickF, faP, lenS, capS, nilP, exA, exB, exC, notB, cndT, cndF, Bool.not_true, Bool.not_false, Nat.zero_add, Nat.add_zero]
    rw [t5_1_1_1_1]
    have e : l.take s.1 = l := List.take_of_length_le (by omega)
    have e2 : s.1 = l.length := by omega
    rw [e] at hr2
    rw [e2] at ho2
    refine callv_go (fun hc => ⟨_, frz_wf hm1 hM2 hc, ?_⟩)
    have hs := subF_frzAll (N := N1) hc
    have hfc : fctsD (frzAll F1 M2 N1) s.2 (l.map fun x => (key, x)) := ⟨rows, by
      have := ho2.rd.frz hc (fun b hb => .inl (ho2.ge b hb).1)
      rw [List.length_map]; exact this, hr2.mono fun _ _ h => h.mono hs⟩
    have hv1 := (hv.mono hF1).mono hs
    generalize frzAll F1 M2 N1 = F2 at *
    refine make_c hfc (by simp; omega) (fun f hf => ?_) (fun u F3 N3 hw3 hF3 hN3 hu => ?_)
    · obtain ⟨x, _, rfl⟩ := List.mem_map.1 hf
      exact ⟨by simp only; omega, hki⟩
    simp only [hlv]
    try simp only [gdTT, gdFF, gdTF, gdFT, pvS, pickT, pickF, faP, lenS, capS, nilP, exA, exB, exC, notB, cndT, cndF, Bool.not_true, Bool.not_false, Nat.zero_add, Nat.add_zero]
    rw [List.map_map] at hu
    rcases Nat.eq_zero_or_pos l.length with h0 | h0
    · have hl0 : l = [] := List.eq_nil_of_length_eq_zero h0
      subst hl0
      refine eql_t rfl ?_
      try simp only [gdTT, gdFF, gdTF, gdFT, pvS, pickT, pickF, faP, lenS, capS, nilP, exA, exB, exC, notB, cndT, cndF, Bool.not_true, Bool.not_false, Nat.zero_add, Nat.add_zero]
      obtain ⟨a, c, rfl⟩ := hu.form
      try simp only [gdTT, gdFF, gdTF, gdFT, pvS, pickT, pickF, faP, lenS, capS, nilP, exA, exB, exC, notB, cndT, cndF, Bool.not_true, Bool.not_false, Nat.zero_add, Nat.add_zero]
      refine eql_t rfl fun hc => ⟨_, wk_refl hc, fun _ => k _⟩
    · refine eql_f (by omega) ?_
      try simp only [gdTT, gdFF, gdTF, gdFT, pvS, pickT, pickF, faP, lenS, capS, nilP, exA, exB, exC, notB, cndT, cndF, Bool.not_true, Bool.not_false, Nat.zero_add, Nat.add_zero]
      have hne : l ≠ [] := fun e => by rw [e] at h0; simp at h0
      have e3 := tab_one key l hne
      rw [show (fr1 ∘ fun x => (key, x)) = fun x => fr1 (key, x) from rfl, e3] at hu
      obtain ⟨rows3, hu1, hu2⟩ := hu
      obtain ⟨ua, uc, hup, _⟩ := hu1.form
      rw [show lenV u = some (.int .i64 ((1 : Nat) : Int)) by rw [hup]; rfl]
      try simp only [gdTT, gdFF, gdTF, gdFT, pvS, pickT, pickF, faP, lenS, capS, nilP, exA, exB, exC, notB, cndT, cndF, Bool.not_true, Bool.not_false, Nat.zero_add, Nat.add_zero]
      refine eql_t rfl ?_
      try simp only [gdTT, gdFF, gdTF, gdFT, pvS, pickT, pickF, faP, lenS, capS, nilP, exA, exB, exC, notB, cndT, cndF, Bool.not_true, Bool.not_false, Nat.zero_add, Nat.add_zero]
      obtain ⟨b, o, c, cs, r, hb, hFb, _, ⟨kv3, rfl, hkv3, _⟩, hl5, h15, hle5, ht5, hj5⟩ := row_at hu1 hu2 (by decide) (show 0 < [(key, allC l)].length by simp)
      subst hb
      refine iaN_r (i := 0) (by simp) ?_
      try simp only [gdTT, gdFF, gdTF, gdFT, pvS, pickT, pickF, faP, lenS, capS, nilP, exA, exB, exC, notB, cndT, cndF, Bool.not_true, Bool.not_false, Nat.zero_add, Nat.add_zero]
      have hld : ∀ M' N', ldV ⟨F3, M', N'⟩ true 4 (.pointer (some ⟨b, o + 0 * 5 + 1, none⟩)) (.agg (allC l).cs.toArray) := fun M' N' => ldV_a (row_F hFb) (by omega) (by
        have e5 := congrArg (List.drop 1) ht5
        rw [List.drop_take, List.drop_drop] at e5
        simpa using e5)
      refine ld_r (hld _ _) ?_
      refine rall_c (hv1.mono hF3) hvl (fun N4 hN4 hw4 => ?_)
      refine ⟨fun _ => hld _ _, ?_⟩
      refine eqc_r ?_
      rw [decide_eq_true rfl]
      try simp only [gdTT, gdFF, gdTF, gdFT, pvS, pickT, pickF, faP, lenS, capS, nilP, exA, exB, exC, notB, cndT, cndF, Bool.not_true, Bool.not_false, Nat.zero_add, Nat.add_zero]
      refine iaN_r (i := 0) (by simp) ?_
      try simp only [gdTT, gdFF, gdTF, gdFT, pvS, pickT, pickF, faP, lenS, capS, nilP, exA, exB, exC, notB, cndT, cndF, Bool.not_true, Bool.not_false, Nat.zero_add, Nat.add_zero]
      refine ld_r (ldV_c (row_F hFb) (by have := hj5 0 (by decide); simpa using this)) ?_
      obtain ⟨k3a, k3c, rfl, _⟩ := hkv3.form
      simp only [hlk]
      try simp only [gdTT, gdFF, gdTF, gdFT, pvS, pickT, pickF, faP, lenS, capS, nilP, exA, exB, exC, notB, cndT, cndF, Bool.not_true, Bool.not_false, Nat.zero_add, Nat.add_zero]
      refine eql_t rfl ?_
      try simp only [gdTT, gdFF, gdTF, gdFT, pvS, pickT, pickF, faP, lenS, capS, nilP, exA, exB, exC, notB, cndT, cndF, Bool.not_true, Bool.not_false, Nat.zero_add, Nat.add_zero]
      exact fun hc => ⟨_, wk_refl hc, fun _ => k _⟩
end Go.Proofs.YthpacapdaembpaaDoor.A
open Go Go.RowKit Go.Proofs.YthpacapdaembpaaDoor.K Go.Proofs.YthpacapdaembpaaDoor.T
set_option linter.unusedVariables false
set_option linter.unusedSimpArgs false
namespace Go.Proofs.YthpacapdaembpaaDoor.A
variable {F F' : Nat → Option (List Value)} {M M' : Nat → Option Chunk} {N N' : Nat} {K : Kont} {E : PanK}
theorem wf_i64 {x : Int} (h : (Lit.int .i64 x).wf = true) : i64 x := by
  have h' : -9223372036854775808 ≤ x ∧ x ≤ 9223372036854775807 := by simpa [Lit.wf, IntKind.min, IntKind.max, IntKind.signed, IntKind.bits] using h
  exact h'
theorem rowsF_all {α : Type} {R : List Value → α → Prop} {sz : Nat} {rows : List (List Value)} {xs : List α} (h : rowsF R sz rows xs) : ∀ x ∈ xs, ∃ r, R r x := fun x hx => by
  obtain ⟨i, hi, rfl⟩ := List.mem_iff_getElem.1 hx
  obtain ⟨r, _, h2, _⟩ := h.get (List.getElem?_eq_getElem hi)
  exact ⟨r, h2⟩
theorem keyI {cs : List Value} {l : List Int} (h : rS 1 (rI .i64) F cs l) : ∃ v, cs = [v] ∧ sF F 1 v l.length (ic l) ∧ (∀ x ∈ l, i64 x) ∧ l.length ≤ 140737488351232 := by
  obtain ⟨v, rows, rfl, h2⟩ := h
  obtain ⟨h3, h4, h5⟩ := rS_ints ⟨v, rows, rfl, h2⟩
  exact ⟨v, rfl, h3, fun x hx => wf_i64 (h4 x hx), h5⟩
/-- Facts that come in. -/
theorem facts_of {v : Value} {y : List (List Int × Int)} (h : rS 2 (rP (rS 1 (rI .i64)) (rI .i64)) F [v] y) : fctsD F v y ∧ y.length ≤ 140737488351232 ∧ ∀ f ∈ y, (∀ x ∈ f.1, i64 x) ∧ i64 f.2 := by
  obtain ⟨v', rows, e, hv, hr, hl⟩ := h
  injection e with e _
  subst e
  have hr' : rowsF (fun r f => fctD F r f ∧ (∀ x ∈ f.1, i64 x) ∧ i64 f.2) 2 rows y := hr.mono fun r f ⟨c1, c2, e, ha, hb⟩ => by
    obtain ⟨u, rfl, h1, h2, h3⟩ := keyI ha
    obtain ⟨rfl, h4⟩ := hb
    exact ⟨⟨u, by rw [e]; rfl, h1, h3⟩, h2, wf_i64 h4⟩
  exact ⟨⟨rows, hv, hr'.mono fun _ _ h => h.1⟩, hl, fun f hf => by obtain ⟨r, h⟩ := rowsF_all hr' f hf; exact h.2⟩
theorem TableMakes_true (v : Value) {y : List (List Int × Int)} (W : World) (hv : rS 2 (rP (rS 1 (rI .i64)) (rI .i64)) (F0 W) [v] y) :
    Calls Tryd.prog 4 #[v] W fun e w' => e = .returned (.bool true) ∧ Below W.heap.size W w' :=
  have h := facts_of hv
  (calls0 (K := fun v => v = .bool true) (tableMakes_c h.1 h.2.1 (fun f hf => (h.2.2 f hf).1) fun _ => rfl)).mono fun e w' ⟨⟨v, he, hv⟩, hb⟩ => ⟨by rw [he, hv], hb⟩
end Go.Proofs.YthpacapdaembpaaDoor.A
open Go Go.RowKit Go.Proofs.YthpacapdaembpaaDoor.K Go.Proofs.YthpacapdaembpaaDoor.T
set_option linter.unusedVariables false
set_option linter.unusedSimpArgs false
namespace Go.Proofs.YthpacapdaembpaaDoor.A
variable {F F' : Nat → Option (List Value)} {M M' : Nat → Option Chunk} {N N' : Nat} {K : Kont} {E : PanK}
/-- A table as it comes in. -/
abbrev rCell : (Nat → Option (List Value)) → List Value → Int × Int × Int × Int → Prop := rP (rI .i64) (rP (rI .i64) (rP (rI .i64) (rI .i64)))
abbrev rRow : (Nat → Option (List Value)) → List Value → List Int × Int × Int × Int × Int → Prop := rP (rS 1 (rI .i64)) rCell
def toRw (y : List Int × Int × Int × Int × Int) : Rw := (y.1, ⟨y.2.1, y.2.2.1, y.2.2.2.1, y.2.2.2.2⟩)
theorem row_of {cs : List Value} {y : List Int × Int × Int × Int × Int} (h : rRow F cs y) : rowD F cs (toRw y) ∧ ∀ x ∈ y.1, i64 x := by
  obtain ⟨c1, c2, e, ha, c3, c4, e2, ⟨rfl, _⟩, c5, c6, e3, ⟨rfl, _⟩, c7, c8, e4, ⟨rfl, _⟩, ⟨rfl, _⟩⟩ := h
  obtain ⟨u, rfl, h1, h2, h3⟩ := keyI ha
  exact ⟨⟨u, by rw [e, e2, e3, e4]; rfl, h1, h3⟩, h2⟩
theorem all2_map {α β γ : Type} {R : α → γ → Prop} (f : β → γ) {xs : List α} {ys : List β} (h : all2 (fun a b => R a (f b)) xs ys) : all2 R xs (ys.map f) :=
  ⟨by simp [h.1], fun i x y hx hy => by
    rw [List.getElem?_map] at hy
    cases hb : ys[i]? with
    | none => rw [hb] at hy; cases hy
    | some b => rw [hb] at hy; simp at hy; subst hy; exact h.2 i x b hx hb⟩
theorem rowsF_map {α β : Type} {R : List Value → β → Prop} {sz : Nat} (f : α → β) {rows : List (List Value)} {xs : List α} (h : rowsF (fun r x => R r (f x)) sz rows xs) : rowsF R sz rows (xs.map f) := ⟨h.len, h.one, all2_map f h.all⟩
theorem table_of {v : Value} {y : List (List Int × Int × Int × Int × Int)} (h : rS 5 rRow F [v] y) : tblD F v (y.map toRw) ∧ (y.map toRw).length ≤ 140737488351232 ∧ ∀ r ∈ y.map toRw, ∀ x ∈ r.1, i64 x := by
  obtain ⟨v', rows, e, hv, hr, hl⟩ := h
  injection e with e _
  subst e
  have hr' : rowsF (fun r x => rowD F r (toRw x) ∧ ∀ z ∈ x.1, i64 z) 5 rows y := hr.mono fun r f h => row_of h
  refine ⟨⟨rows, by rw [List.length_map]; exact hv, rowsF_map toRw (hr'.mono fun _ _ h => h.1)⟩, by rw [List.length_map]; exact hl, fun r hr2 => ?_⟩
  obtain ⟨x, hx, rfl⟩ := List.mem_map.1 hr2
  obtain ⟨c, hc⟩ := rowsF_all hr' x hx
  exact hc.2
theorem fin_true {f : FuncId} {args : Array Value} {W : World} (h : call Tryd.prog f args (fun v _ => v = .bool true) (fun _ _ => False) (h0 W)) : Calls Tryd.prog f args W fun e w' => e = .returned (.bool true) ∧ Below W.heap.size W w' :=
  (calls0 (K := fun v => v = .bool true) h).mono fun e w' ⟨⟨v, he, hv⟩, hb⟩ => ⟨by rw [he, hv], hb⟩
theorem TableMerges_true (v0 v1 : Value) {y0 y1 : List (List Int × Int × Int × Int × Int)} (W : World) (h0 : rS 5 rRow (F0 W) [v0] y0) (h1 : rS 5 rRow (F0 W) [v1] y1) :
    Calls Tryd.prog 6 #[v0, v1] W fun e w' => e = .returned (.bool true) ∧ Below W.heap.size W w' :=
  have a := table_of h0
  have b := table_of h1
  fin_true (tableMerges_c a.1 b.1 a.2.1 b.2.1 a.2.2 b.2.2 fun _ => rfl)
theorem TableOne_true (v0 v1 : Value) {y0 y1 : List Int} (W : World) (h0 : rS 1 (rI .i64) (F0 W) [v0] y0) (h1 : rS 1 (rI .i64) (F0 W) [v1] y1) :
    Calls Tryd.prog 5 #[v0, v1] W fun e w' => e = .returned (.bool true) ∧ Below W.heap.size W w' := by
  obtain ⟨u, e0, a1, a2, a3⟩ := keyI h0
  obtain ⟨w, e1, b1, b2, b3⟩ := keyI h1
  injection e0 with e0 _; injection e1 with e1 _
  subst e0; subst e1
  exact fin_true (tableOne_c a1 b1 a3 b3 a2 fun _ => rfl)
end Go.Proofs.YthpacapdaembpaaDoor.A
