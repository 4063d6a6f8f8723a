import Derived.Test.YthpacapdaembpaaDoorZ3
import Derived.Test.YthpacapdaembpaaDoorZ2
open Go Go.RowKit Go.Proofs.YthpacapdaembpaaDoor.K Go.Proofs.YthpacapdaembpaaDoor.T
set_option linter.unusedVariables false
set_option linter.unusedSimpArgs false
namespace Go.Proofs.YthpacapdaembpaaDoor.A
variable {F F' : Nat → Option (List Value)} {M M' : Nat → Option Chunk} {N N' : Nat} {K : Kont} {E : PanK}
/-- slices.Grow of no rows. -/
theorem grow_c {n : Nat} (hm : clean M N) (hn : n ≤ 1000000000000) (k : ∀ v' M' N', own M' N 43 5 v' 0 [] → (∀ q, q < N → M' q = M q) → N ≤ N' → clean M' N' → (Hp.mk F M' N').wf → K v' ⟨F, M', N'⟩) :
    callv Tryd.prog (.func (.func 83) #[] #[]) #[.slice none 0 0, .int .i64 (n : Nat)] K E ⟨F, M, N⟩ := by
  refine callv_of_text mixed Tryd.func83 (by kernel_rfl) (t83 _ E _ _) (fun hw => ?_)
  refine lss_f (by omega) ?_
  try simp only [gdTT, gdFF, gdTF, gdFT, pvS, pickT, pickF, faP, lenS, capS, nilP, exA, exB, exC, notB, cndT, cndF, Bool.not_true, Bool.not_false, Nat.zero_add, Nat.add_zero]
  rw [t83_1_1]
  try simp only [gdTT, gdFF, gdTF, gdFT, pvS, pickT, pickF, faP, lenS, capS, nilP, exA, exB, exC, notB, cndT, cndF, Bool.not_true, Bool.not_false, Nat.zero_add, Nat.add_zero]
  refine sub_n (a := 0) (b := 0) (by omega) (by omega) ?_
  refine sub_n (a := n) (b := 0) (by omega) (by omega) ?_
  rw [Nat.sub_zero]
  refine gtr_r (fun h0 => ?_) (fun h0 => ?_)
  · try simp only [gdTT, gdFF, gdTF, gdFT, pvS, pickT, pickF, faP, lenS, capS, nilP, exA, exB, exC, notB, cndT, cndF, Bool.not_true, Bool.not_false, Nat.zero_add, Nat.add_zero]
    refine sl_r 0 0 0 (Nat.le_refl _) (Nat.le_refl _) (Nat.le_refl _) ?_
    refine ⟨none, 0, 0, [], n, .i64, rfl, rfl, ⟨by simp, .inl ⟨_, _, rfl, rfl⟩⟩, Nat.le_refl _, by omega, by omega, by simp [maxLen]; omega, fun b c hb0 hc hcm => ?_⟩
    have hb : N ≤ b := hb0
    try simp only [gdTT, gdFF, gdTF, gdFT, pvS, pickT, pickF, faP, lenS, capS, nilP, exA, exB, exC, notB, cndT, cndF, Bool.not_true, Bool.not_false, Nat.zero_add, Nat.add_zero]
    refine sl_pre 0 (Nat.zero_le _) ?_
    try simp only [gdTT, gdFF, gdTF, gdFT, pvS, pickT, pickF, faP, lenS, capS, nilP, exA, exB, exC, notB, cndT, cndF, Bool.not_true, Bool.not_false, Nat.zero_add, Nat.add_zero]
    rw [t83_1_1_1]
    refine fun hc' => ⟨_, wk_refl hc', fun hw' => k _ _ _ ⟨by simp, .inr ⟨b, c, _, rfl, Nat.zero_le _, hcm, hb, upd_same _ _ _⟩⟩ (fun q hq => upd_ne _ _ (by omega)) (Nat.le_succ_of_le hb) (hm.new hb _) hw'⟩
  · try simp only [gdTT, gdFF, gdTF, gdFT, pvS, pickT, pickF, faP, lenS, capS, nilP, exA, exB, exC, notB, cndT, cndF, Bool.not_true, Bool.not_false, Nat.zero_add, Nat.add_zero]
    rw [t83_1_1_1]
    exact fun hc' => ⟨_, wk_refl hc', fun hw' => k _ _ _ own.nil (fun _ _ => rfl) (Nat.le_refl _) hm hw'⟩
/-- Tables in a row. -/
def tblsD (F : Nat → Option (List Value)) (v : Value) (ts : List (List Rw)) : Prop := ∃ rows, sF F 1 v ts.length rows.flatten ∧ rowsF (fun r t => ∃ u, r = [u] ∧ tblD F u t ∧ t.length ≤ 140737488351232) 1 rows ts
theorem tblsD.mono {v : Value} {ts : List (List Rw)} (h : tblsD F v ts) (hF : subF F F') : tblsD F' v ts := let ⟨rows, h1, h2⟩ := h; ⟨rows, h1.mono hF, h2.mono fun _ _ ⟨u, e, h, l⟩ => ⟨u, e, h.mono hF, l⟩⟩
/-- ts[i] -/
theorem tbl_r {v : Value} {ts : List (List Rw)} {K : Value → Kont} (hv : tblsD F v ts) {i : Nat} (hi : i < ts.length) (k : ∀ p u, tblD F u ts[i] → ts[i].length ≤ 140737488351232 → K p u ⟨F, M, N⟩) : pv (iaV none 1 v (.int .i64 (i : Nat))) (fun p => ld false 1 p (K p)) ⟨F, M, N⟩ := by
  obtain ⟨rows, h1, h2⟩ := hv
  obtain ⟨b, o, c, cs, r, rfl, hF, _, ⟨u, rfl, hu, hul⟩, hl, _, hle, ht, hj⟩ := row_at h1 h2 (by decide) hi
  exact iaN_r hi (ld_r (ldV_c (row_F hF) (hj 0 (by decide))) (k _ _ hu hul))
theorem flat_take {α : Type} (l : List (List α)) {i : Nat} (h : i < l.length) : (l.take (i + 1)).flatten = (l.take i).flatten ++ l[i] := by
  rw [List.take_add_one, List.getElem?_eq_getElem h, Option.toList_some, List.flatten_append]; simp
/-- slices.Concat of tables. -/
theorem concat_c {v : Value} {ts : List (List Rw)} (hv : tblsD F v ts) (hl : ts.flatten.length ≤ 1000000000) (htl : ts.length ≤ 1000000000) (k : ∀ v' F' N', (Hp.mk F' M N').wf → subF F F' → N ≤ N' → tblD F' v' ts.flatten → K v' ⟨F', M, N'⟩) :
    callv Tryd.prog (.func (.func 55) #[] #[]) #[v] K E ⟨F, M, N⟩ := by
  refine callv_of_text mixed Tryd.func55 (by kernel_rfl) (t55 _ E _) (fun hw => ?_)
  have hm : clean M N := hw.m
  have hlv : lenV v = some (.int .i64 (ts.length : Nat)) := by obtain ⟨rows, h1, _⟩ := hv; obtain ⟨a, c, rfl, _⟩ := h1.form; rfl
  have hfl : ∀ i, i ≤ ts.length → (ts.take i).flatten.length ≤ ts.flatten.length := fun i hi => by
    have h := congrArg List.flatten (List.take_append_drop i ts)
    rw [List.flatten_append] at h
    have := congrArg List.length h
    rw [List.length_append] at this
    omega
  simp only [hlv]
  try simp only [gdTT, gdFF, gdTF, gdFT, pvS, pickT, pickF, faP, lenS, capS, nilP, exA, exB, exC, notB, cndT, cndF, Bool.not_true, Bool.not_false, Nat.zero_add, Nat.add_zero]
  refine l55_1_1_0_1_0_0 (σ := Nat) (fun i => .int .i64 ((ts.take i).flatten.length : Nat)) (fun i => .int .i64 (i : Nat)) (fun i h => h = ⟨F, M, N⟩ ∧ i ≤ ts.length) (fun i => ts.length - i) 0 rfl rfl
    (fun hw1 => ⟨_, wk_refl hw1, rfl, Nat.zero_le _⟩) (fun k1 i j h1 hI hw1 next => ?_)
  obtain ⟨rfl, hi⟩ := hI
  refine lss_r (fun hlt => ?_) (fun hge => ?_)
  · have h1 : i < ts.length := by omega
    try simp only [gdTT, gdFF, gdTF, gdFT, pvS, pickT, pickF, faP, lenS, capS, nilP, exA, exB, exC, notB, cndT, cndF, Bool.not_true, Bool.not_false, Nat.zero_add, Nat.add_zero]
    refine tbl_r hv h1 fun p u hu hul => ?_
    obtain ⟨a, c, rfl⟩ := hu.form
    have h2 := hfl (i + 1) h1
    have e := flat_take ts h1
    rw [e, List.length_append] at h2
    try simp only [gdTT, gdFF, gdTF, gdFT, pvS, pickT, pickF, faP, lenS, capS, nilP, exA, exB, exC, notB, cndT, cndF, Bool.not_true, Bool.not_false, Nat.zero_add, Nat.add_zero]
    refine add_n (by omega) (lss_f (by omega) ?_)
    try simp only [gdTT, gdFF, gdTF, gdFT, pvS, pickT, pickF, faP, lenS, capS, nilP, exA, exB, exC, notB, cndT, cndF, Bool.not_true, Bool.not_false, Nat.zero_add, Nat.add_zero]
    rw [t55_1_1_0_1_0_0_1_1_1]
    refine inc_r (by omega) ?_
    rw [← List.length_append, ← e]
    exact next (i + 1) _ _ (by omega) (fun hw2 => ⟨_, wk_refl hw2, rfl, h1⟩)
  · try simp only [gdTT, gdFF, gdTF, gdFT, pvS, pickT, pickF, faP, lenS, capS, nilP, exA, exB, exC, notB, cndT, cndF, Bool.not_true, Bool.not_false, Nat.zero_add, Nat.add_zero]
    rw [t55_1_1_1]
    rw [List.take_of_length_le (by omega)]
    refine grow_c hm (by omega) (fun u M1 N1 ho hM1 hN1 hm1 hw1 => ?_)
    simp only [hlv]
    try simp only [gdTT, gdFF, gdTF, gdFT, pvS, pickT, pickF, faP, lenS, capS, nilP, exA, exB, exC, notB, cndT, cndF, Bool.not_true, Bool.not_false, Nat.zero_add, Nat.add_zero]
    refine l55_1_1_1_1_0_1_0_0 (σ := Nat × Value) (fun s => s.2) (fun s => .int .i64 (s.1 : Nat))
      (fun s h => ∃ M' N' rows, h = ⟨F, M', N'⟩ ∧ N ≤ N' ∧ (∀ q, q < N → M' q = M q) ∧ clean M' N' ∧ s.1 ≤ ts.length ∧ own M' N 43 5 s.2 (ts.take s.1).flatten.length rows.flatten ∧ rowsF (rowD F) 5 rows (ts.take s.1).flatten) (fun s => ts.length - s.1) (0, u) rfl rfl
      (fun hw2 => ⟨_, wk_refl hw2, M1, N1, [], rfl, hN1, hM1, hm1, Nat.zero_le _, ho, rowsF.nil _ _⟩) (fun k1 s j h1 hI hw2 next => ?_)
    obtain ⟨M2, N2, rows, rfl, hN2, hM2, hm2, hi, ho2, hr2⟩ := hI
    refine lss_r (fun hlt => ?_) (fun hge => ?_)
    · have h1 : s.1 < ts.length := by omega
      try simp only [gdTT, gdFF, gdTF, gdFT, pvS, pickT, pickF, faP, lenS, capS, nilP, exA, exB, exC, notB, cndT, cndF, Bool.not_true, Bool.not_false, Nat.zero_add, Nat.add_zero]
      refine tbl_r hv h1 fun p w hwt hwl => ?_
      obtain ⟨rows3, hw3, hr3⟩ := hwt
      have h2 := hfl (s.1 + 1) h1
      have e := flat_take ts h1
      rw [e, List.length_append] at h2
      refine ho2.app hm2 hN2 hw3.sR hr3.f1 (by omega) (by unfold maxLen; omega) (fun w' M3 N3 h4 h5 h6 h7 => ?_)
      refine inc_r (by omega) ?_
      refine next (s.1 + 1, w') _ _ (by simp only; omega) (fun hw4 => ⟨_, wk_refl hw4, M3, N3, rows ++ rows3, rfl, by omega, fun q hq => ?_, h7, h1, ?_, ?_⟩)
      · have q1 : s.2.ownBlock ≠ some q := fun e => by have := (ho2.ge q e).1; omega
        exact ((h5 q q1 (by omega)).1).trans (hM2 q hq)
      · simp only
        rw [e, List.length_append, List.flatten_append]; exact h4
      · simp only
        rw [e]; exact rows_app hr2 hr3
    · try simp only [gdTT, gdFF, gdTF, gdFT, pvS, pickT, pickF, faP, lenS, capS, nilP, exA, exB, exC, notB, cndT, cndF, Bool.not_true, Bool.not_false, Nat.zero_add, Nat.add_zero]
      rw [t55_1_1_1_1_1]
      rw [List.take_of_length_le (by omega)] at ho2 hr2
      exact fun hc => ⟨_, frz_wf hm hM2 hc, fun hw' => k _ _ _ hw' (subF_frzAll hc) hN2 (tbl_frz hc ho2 hr2)⟩
theorem same_key_c {v : Value} {h : Hp} (k : h.wf → K v h) : callv Tryd.prog (.func (.func 56) #[] #[]) #[v] K E h := by
  obtain ⟨F, M, N⟩ := h
  exact callv_of_text mixed Tryd.func56 (by kernel_rfl) (t56 _ E _) (fun hw hc => ⟨_, wk_refl hc, k⟩)
/-- table.of; f tells what a key becomes. -/
theorem tof_c {v fv : Value} {l : List Rw} {f : List Int → List Int} (hv : tblD F v l) (hl : l.length ≤ 1000000000) (hk : ∀ r ∈ l, okK (f r.1))
    (hf : ∀ {K : Kont} (F1 : Nat → Option (List Value)) (M1 : Nat → Option Chunk) (N1 : Nat) (r : Rw) (kv : Value), r ∈ l → subF F F1 → (∀ q, q < N → M1 q = M q) → N ≤ N1 → clean M1 N1 → sF F1 1 kv r.1.length (ic r.1) → r.1.length ≤ 140737488351232 →
      (∀ v' F' N', (Hp.mk F' M1 N').wf → subF F1 F' → N1 ≤ N' → sF F' 1 v' (f r.1).length (ic (f r.1)) → K v' ⟨F', M1, N'⟩) → callv Tryd.prog fv #[kv] K E ⟨F1, M1, N1⟩)
    (k : ∀ v' F' N', (Hp.mk F' M N').wf → subF F F' → N ≤ N' → tblD F' v' (tab (l.map fun r => (f r.1, r.2))) → K v' ⟨F', M, N'⟩) :
    callv Tryd.prog (.func (.func 54) #[] #[]) #[v, fv] K E ⟨F, M, N⟩ := by
  refine callv_of_text mixed Tryd.func54 (by kernel_rfl) (t54 _ E _ _) (fun hw => ?_)
  have hm : clean M N := hw.m
  refine blank_c (fun g bm N1 hbm hg hN1 hw1 => ?_)
  obtain ⟨trs, hvs, hrs⟩ := hv
  refine lenF_r hvs ?_
  refine l54_1_1_0_1_0_0 (σ := Nat) (fun i => .int .i64 (i : Nat))
    (fun i h => ∃ F' M' N' v' rows, h = ⟨F', M', N'⟩ ∧ subF F F' ∧ N ≤ N' ∧ (∀ q, q < N → M' q = M q) ∧ clean M' N' ∧ i ≤ l.length ∧ isSheet F' M' N g bm v' rows (sheet ((l.take i).map fun r => (f r.1, r.2)))) (fun i => l.length - i) 0 rfl
    (fun hwx => ⟨_, wk_refl hwx, F, _, N1, .slice none 0 0, [], rfl, subF.refl _, by omega, fun q hq => (upd_ne _ _ (by omega)).trans (upd_ne _ _ (by omega)), hw1.m, Nat.zero_le _,
      ⟨upd_same _ _ _, by omega, hbm, ⟨#[], 0, (upd_ne _ _ (by omega)).trans (upd_same _ _ _), by simp [mapOK, sheet]⟩, own.nil, rowsF.nil _ _, .nil⟩⟩) (fun k1 i j h1 hI hwx next => ?_)
  obtain ⟨F1, M1, N2, v1, rows, rfl, hF1, hN2, hM1, hm1, hi, hS⟩ := hI
  have hsl : ∀ i, (sheet ((l.take i).map fun r => (f r.1, r.2))).length ≤ 1000000000 := fun i => by
    have : ∀ (m : List Rw) (s : List Rw), (m.foldl (fun t r => layP t r.1 r.2) s).length ≤ s.length + m.length := by
      intro m
      induction m with
      | nil => intro s; simp
      | cons r m ih => intro s; have := ih (layP s r.1 r.2); have h2 := layP_len s r.1 r.2; simp at this ⊢; omega
    have h3 := this ((l.take i).map fun r => (f r.1, r.2)) []
    unfold sheet
    rw [List.length_map, List.length_take] at h3
    simp at h3 ⊢; omega
  refine lss_r (fun hlt => ?_) (fun hge => ?_)
  · have hlt' : i < l.length := by omega
    refine cnd_t ?_
    refine row_r (hvs.mono hF1) (hrs.mono fun _ _ h => h.mono hF1) (by decide) hlt' (fun p r _ hR hrl hr1 => ?_)
    obtain ⟨kv, hre, hkv, hkl⟩ := hR
    subst hre
    refine nw_r (fun b1 hb1 => ?_)
    refine stM (cs' := kv :: l[i].2.cs) ?_ (upd_same _ _ _) rfl rfl hr1
    refine pv_r rfl (ldM (v := kv) (pv_r rfl (ldMa (vs := l[i].2.cs) ?_)))
    rw [upd_upd]
    refine hf F1 _ _ l[i] kv (List.getElem_mem _) hF1 (fun q hq => (upd_ne _ _ (by omega)).trans (hM1 q hq)) (by omega) (hm1.new hb1 _) hkv hkl (fun v2 F2 N3 hw3 hF2 hN3 hv2 => ?_)
    refine ⟨ldV_a (row_M (upd_same _ _ _)) (by exact Nat.le_of_ble_eq_true rfl) rfl, ?_⟩
    have hok := hk l[i] (List.getElem_mem _)
    refine lay_c (hS.keep hF2 (upd_keep hm1 hb1 _)) hw3.m (by omega) hv2 (Nat.le_trans hok.1 (by decide)) hok.2 (by have := hsl i; omega) (fun F4 M4 N4 v4 rows4 hF4 hN4 hS4 hM4 hm4 hw4 => ?_)
    refine inc_r (by omega) ?_
    refine next (i + 1) _ _ (by omega) (fun hw5 => ⟨_, wk_refl hw5, F4, M4, N4, v4, rows4, rfl, (hF1.trans hF2).trans hF4, by omega, fun q hq => (hM4 q hq).trans ((upd_ne _ _ (by omega)).trans (hM1 q hq)), hm4, by omega, ?_⟩)
    rw [List.take_add_one, List.getElem?_eq_getElem hlt', Option.toList_some, List.map_append, List.map_singleton, sheet_snoc]
    exact hS4
  · refine cnd_f ?_
    rw [t54_1_1_1]
    have e : l.take i = l := List.take_of_length_le (by omega)
    have hs2 := hsl i
    rw [e] at hS hs2
    refine sorted_c hS hm1 (by omega) (fun M4 N4 rows4 t' hN4 ho4 hr4 hp hs hM4 hm4 hw4 hc => ?_)
    rw [sheet_sorted hp hs] at ho4 hr4
    have hMM : ∀ q, q < N → M4 q = M q := fun q hq => (hM4 q hq).trans (hM1 q hq)
    exact ⟨_, frz_wf hm hMM hc, fun hw' => k v1 _ N4 hw' (hF1.trans (subF_frzAll hc)) (by omega) (tbl_frz hc ho4 hr4)⟩
end Go.Proofs.YthpacapdaembpaaDoor.A
open Go Go.RowKit Go.Proofs.YthpacapdaembpaaDoor.K Go.Proofs.YthpacapdaembpaaDoor.T
set_option linter.unusedVariables false
set_option linter.unusedSimpArgs false
namespace Go.Proofs.YthpacapdaembpaaDoor.A
variable {F F' : Nat → Option (List Value)} {M M' : Nat → Option Chunk} {N N' : Nat} {K : Kont} {E : PanK}
/-- An element more: its cells are built, then appended. -/
theorem push_r {B : Nat} {e : TypeId} {sz bytes n : Nat} {v : Value} {cs : List Value} {cells : Option (Array Value)} {new : List Value} {K : Value → Kont} (h : own M B e sz v n cs) (hm : clean M N) (hB : B ≤ N) (hc : cells = some new.toArray) (hl : new.length = sz) (h1 : ∀ c ∈ new, c.oneCell' = true) (hb : (n + 1) * bytes ≤ 140737488355328) (hn : n + 1 ≤ maxLen)
    (k : ∀ p v' M' N', own M' B e sz v' (n + 1) (cs ++ new) → fr M M' N v v' → N ≤ N' → clean M' N' → K p v' ⟨F, M', N'⟩) : nws e 1 cells (fun t => appX e sz bytes v t (K t)) ⟨F, M, N⟩ := by
  refine nws_r (cs := new) hc (fun b hb' => ?_)
  have hbne : v.ownBlock ≠ some b := fun e => by have := h.lt hm b e; omega
  have h2 : own (upd M b (some (.cells e new new.length))) B e sz v n cs := h.keep (fun q hq => upd_ne _ _ (fun e => hbne (e ▸ hq))) (Nat.le_refl _)
  refine h2.app (m := 1) (news := new) (hm.new hb' _) (by omega) ⟨by omega, .inr ⟨b, 0, 1, _, rfl, Nat.le_refl _, .inr ⟨_, _, upd_same _ _ _⟩, by rw [List.drop_zero, List.take_of_length_le (by omega)]⟩⟩ h1 hb hn (fun v' M' N' h3 h4 h5 h6 => ?_)
  exact k _ v' M' N' h3 (fun q hq hqN => ⟨((h4 q hq (by omega)).1).trans (upd_ne _ _ (by omega)), (h4 q hq (by omega)).2⟩) (by omega) h6
/-- table.Merge -/
theorem tmerge_c {u v : Value} {a b : List Rw} (hu : tblD F u a) (hv : tblD F v b) (hl : a.length + b.length ≤ 1000000000) (hk : ∀ r ∈ a ++ b, okK r.1)
    (k : ∀ v' F' N', (Hp.mk F' M N').wf → subF F F' → N ≤ N' → tblD F' v' (tab (a ++ b)) → K v' ⟨F', M, N'⟩) :
    callv Tryd.prog (.func (.func 27) #[] #[]) #[u, v] K E ⟨F, M, N⟩ := by
  refine callv_of_text mixed Tryd.func27 (by kernel_rfl) (t27 _ E _ _) (fun hw => ?_)
  have hm : clean M N := hw.m
  have hv' := hv; have hu' := hu
  obtain ⟨ua, uc, rfl⟩ := hu'.form
  obtain ⟨va, vc, rfl⟩ := hv'.form
  refine nws_r (cs := [.slice ua a.length uc, .slice va b.length vc]) (by kernel_rfl) (fun b1 hb1 => ?_)
  refine callv_go (fun hc => ⟨_, frz_wf hm (fun q hq => upd_ne _ _ (by omega)) hc, ?_⟩)
  have hs := subF_frzAll (N := N) hc
  have f1 := frz_at (F := F) (N := N) hb1 (upd_same M b1 (some (.cells 22 [.slice ua a.length uc, .slice va b.length vc] [Value.slice ua a.length uc, .slice va b.length vc].length)))
  have hts : tblsD (frzAll F (upd M b1 (some (.cells 22 [.slice ua a.length uc, .slice va b.length vc] [Value.slice ua a.length uc, .slice va b.length vc].length))) N) (.slice (some ⟨b1, 0, none⟩) 2 2) [a, b] := by
    refine ⟨[[.slice ua a.length uc], [.slice va b.length vc]], sF_lit f1 rfl (by decide), ?_⟩
    have h0 := rowsF.nil (fun (r : List Value) (t : List Rw) => ∃ u, r = [u] ∧ tblD (frzAll F (upd M b1 (some (.cells 22 [.slice ua a.length uc, .slice va b.length vc] [Value.slice ua a.length uc, .slice va b.length vc].length))) N) u t ∧ t.length ≤ 140737488351232) 1
    exact (h0.snoc rfl (List.all_eq_true.1 rfl) ⟨_, rfl, hu'.mono hs, by omega⟩).snoc rfl (List.all_eq_true.1 rfl) ⟨_, rfl, hv'.mono hs, by omega⟩
  have e : [a, b].flatten = a ++ b := by simp
  refine concat_c hts (by rw [e, List.length_append]; exact hl) (by simp) (fun w F2 N2 hw2 hF2 hN2 ht => ?_)
  rw [e] at ht
  refine tof_c (f := id) ht (by rw [List.length_append]; exact hl) (fun r hr => hk r hr) (fun F3 M3 N3 r kv _ _ _ _ hm3 hkv _ hK => same_key_c fun hw3 => hK kv F3 N3 hw3 (subF.refl _) (Nat.le_refl _) hkv) (fun v' F' N' hw' hF hN ht' hc => ⟨_, wk_refl hc, fun hw'' => k v' F' N' hw'' ((hs.trans hF2).trans hF) (by omega) ?_⟩)
  rw [show (fun r : Rw => (id r.1, r.2)) = id from rfl, List.map_id] at ht'; exact ht'
/-- TableMerges -/
theorem tableMerges_c {u v : Value} {a b : List Rw} (hu : tblD F u a) (hv : tblD F v b) (hla : a.length ≤ 140737488351232) (hlb : b.length ≤ 140737488351232) (hka : ∀ r ∈ a, ∀ x ∈ r.1, i64 x) (hkb : ∀ r ∈ b, ∀ x ∈ r.1, i64 x) (k : ∀ h, K (.bool true) h) :
    call Tryd.prog 6 #[u, v] K E ⟨F, M, N⟩ := by
  refine call_text mixed Tryd.func6 (by kernel_rfl) (t6 _ E _ _) (fun hw => ?_)
  have fcn : ∀ {F : Nat → Option (List Value)}, fctsD F (.slice none 0 0) [] := ⟨[], sF.nil _ _ _, rowsF.nil _ _⟩
  have kn : ∀ {M : Nat → Option Chunk} {F : Nat → Option (List Value)} {N : Nat}, callv Tryd.prog (.func (.func 18) #[] #[]) #[] (fun v h => h.wf → ∃ h', h.wk h' ∧ (h'.wf → K v h')) E ⟨F, M, N⟩ := known_c (fun F' N' _ _ _ hc => ⟨_, wk_refl hc, fun _ => k _⟩)
  refine heavy_c hu fcn hla (by decide) (fun r1 hr1 => ?_)
  cases r1 with
  | true => try simp only [gdTT, gdFF, gdTF, gdFT, pvS, pickT, pickF, faP, lenS, capS, nilP, exA, exB, exC, notB, cndT, cndF, Bool.not_true, Bool.not_false, Nat.zero_add, Nat.add_zero]; exact kn
  | false =>
  try simp only [gdTT, gdFF, gdTF, gdFT, pvS, pickT, pickF, faP, lenS, capS, nilP, exA, exB, exC, notB, cndT, cndF, Bool.not_true, Bool.not_false, Nat.zero_add, Nat.add_zero]
  refine heavy_c hv fcn hlb (by decide) (fun r2 hr2 => ?_)
  cases r2 with
  | true => try simp only [gdTT, gdFF, gdTF, gdFT, pvS, pickT, pickF, faP, lenS, capS, nilP, exA, exB, exC, notB, cndT, cndF, Bool.not_true, Bool.not_false, Nat.zero_add, Nat.add_zero]; exact kn
  | false =>
  obtain ⟨h1, _, h2⟩ := hr1 rfl
  obtain ⟨h3, _, h4⟩ := hr2 rfl
  have hok : ∀ r ∈ a ++ b, okK r.1 := fun r hr => by
    rcases List.mem_append.1 hr with hr | hr
    · exact ⟨by have := wt_mem (List.mem_map_of_mem (f := (·.1)) hr); omega, hka r hr⟩
    · exact ⟨by have := wt_mem (List.mem_map_of_mem (f := (·.1)) hr); omega, hkb r hr⟩
  try simp only [gdTT, gdFF, gdTF, gdFT, pvS, pickT, pickF, faP, lenS, capS, nilP, exA, exB, exC, notB, cndT, cndF, Bool.not_true, Bool.not_false, Nat.zero_add, Nat.add_zero]
  refine known_c (fun F1 N1 hF1 hN1 hw1 => ?_)
  try simp only [gdTT, gdFF, gdTF, gdFT, pvS, pickT, pickF, faP, lenS, capS, nilP, exA, exB, exC, notB, cndT, cndF, Bool.not_true, Bool.not_false, Nat.zero_add, Nat.add_zero]
  refine tmerge_c (hu.mono hF1) (hv.mono hF1) (by omega) hok (fun w F2 N2 hw2 hF2 hN2 hw => ?_)
  refine rMerge_c ((hu.mono hF1).mono hF2) ((hv.mono hF1).mono hF2) (by omega) (fun r hr => (hok r hr).1) (fun w' F3 N3 hw3 hF3 hN3 hw' => ?_)
  refine same_c (hw.mono hF3) hw' (by have := tab_len (a ++ b); simp at this; omega) ?_
  rw [decide_eq_true rfl]
  exact fun hc => ⟨_, wk_refl hc, fun _ => k _⟩
/-- All, of the reference -/
def allC (l : List Int) : CE := l.foldl (fun c x => c.rmerge (ofC x)) ⟨0, 0, 0, 0⟩
theorem rall_c {v : Value} {l : List Int} (hv : sF F 1 v l.length (ic l)) (hl : l.length ≤ 140737488351232) (k : ∀ N', N ≤ N' → (Hp.mk F M N').wf → K (.agg (allC l).cs.toArray) ⟨F, M, N'⟩) :
    callv Tryd.prog (.func (.func 26) #[] #[]) #[v] K E ⟨F, M, N⟩ := by
  refine callv_of_text mixed Tryd.func26 (by kernel_rfl) (t26 _ E _) (fun hw => ?_)
  have hm : clean M N := hw.m
  have hlv : lenV v = some (.int .i64 (l.length : Nat)) := by obtain ⟨a, c, rfl, _⟩ := hv.form; rfl
  refine nw_r (fun b1 hb1 => ?_)
  refine pv_r (v := .agg (CE.mk 0 0 0 0).cs.toArray) (by kernel_rfl) ?_
  refine nw_r (fun b2 hb2 => ?_)
  refine stM (cs' := (CE.mk 0 0 0 0).cs) ?_
  refine l26_1_1_0_1_0_0 (σ := Nat) (fun i => .int .i64 (i : Nat))
    (fun i h => ∃ N', h = ⟨F, upd (upd M b1 (some (.cells 41 (CE.mk 0 0 0 0).cs 4))) b2 (some (.cells 41 (allC (l.take i)).cs 4)), N'⟩ ∧ b2 < N' ∧ i ≤ l.length) (fun i => l.length - i) 0 rfl
    (fun hw1 => ⟨_, wk_refl hw1, _, by rw [upd_upd]; rfl, Nat.lt_succ_self _, Nat.zero_le _⟩) (fun k1 i j h1 hI hw1 next => ?_)
  obtain ⟨N1, rfl, hN1, hi⟩ := hI
  simp only [hlv]
  try simp only [gdTT, gdFF, gdTF, gdFT, pvS, pickT, pickF, faP, lenS, capS, nilP, exA, exB, exC, notB, cndT, cndF, Bool.not_true, Bool.not_false, Nat.zero_add, Nat.add_zero]
  refine lss_r (fun hlt => ?_) (fun hge => ?_)
  · have h1 : i < l.length := by omega
    try simp only [gdTT, gdFF, gdTF, gdFT, pvS, pickT, pickF, faP, lenS, capS, nilP, exA, exB, exC, notB, cndT, cndF, Bool.not_true, Bool.not_false, Nat.zero_add, Nat.add_zero]
    refine ldMa (vs := (allC (l.take i)).cs) ?_
    refine ixn_r hv h1 fun p => ?_
    refine rof_c (fun N2 hN2 hw2 => ?_)
    refine ⟨ldV_a (row_M (upd_same _ _ _)) (by exact Nat.le_of_ble_eq_true rfl) rfl, ?_⟩
    refine rmerge_c (a := allC (l.take i)) (b := ofC l[i]) (fun N3 hN3 hw3 => ?_)
    refine stM (cs' := ((allC (l.take i)).rmerge (ofC l[i])).cs) ?_
    refine inc_r (by omega) ?_
    rw [upd_upd]
    have e : allC (l.take (i + 1)) = (allC (l.take i)).rmerge (ofC l[i]) := by
      unfold allC
      rw [List.take_add_one, List.getElem?_eq_getElem h1, Option.toList_some, List.foldl_append]
      rfl
    exact next (i + 1) _ _ (by omega) (fun hw4 => ⟨_, wk_refl hw4, N3, by rw [e], by omega, h1⟩)
  · try simp only [gdTT, gdFF, gdTF, gdFT, pvS, pickT, pickF, faP, lenS, capS, nilP, exA, exB, exC, notB, cndT, cndF, Bool.not_true, Bool.not_false, Nat.zero_add, Nat.add_zero]
    rw [t26_1_1_1]
    rw [List.take_of_length_le (by omega)]
    refine ldMa (vs := (allC l).cs) ?_
    refine stM (cs' := (allC l).cs) ?_
    refine ldMa (vs := (allC l).cs) fun hc => ?_
    exact ⟨⟨F, M, N1⟩, wk_drop hc (subM_drop (subM_drop (subM_drop (subM_refl _) (hm _ (by omega))) (hm _ (by omega))) (hm _ (by omega))), fun hw' => k _ (by omega) hw'⟩
theorem tab_one (key : List Int) (l : List Int) (h : l ≠ []) : tab (l.map fun x => fr1 (key, x)) = [(key, allC l)] := by
  have step : ∀ (l : List Int) (c : CE), (l.map fun x => fr1 (key, x)).foldl (fun t r => layR t r.1 r.2) [(key, c)] = [(key, l.foldl (fun c x => c.rmerge (ofC x)) c)] := by
    intro l
    induction l with
    | nil => intro c; rfl
    | cons x l ih =>
      intro c
      simp only [List.map_cons, List.foldl_cons]
      have : layR [(key, c)] (fr1 (key, x)).1 (fr1 (key, x)).2 = [(key, c.rmerge (ofC x))] := by
        simp only [fr1, layR, kcmp_self, merge_eq]
        rw [if_neg (by decide), if_pos trivial]
      rw [this]; exact ih _
  cases l with
  | nil => exact absurd rfl h
  | cons x l =>
    unfold tab allC
    simp only [List.map_cons, List.foldl_cons]
    have e1 : layR [] (fr1 (key, x)).1 (fr1 (key, x)).2 = [(key, ofC x)] := rfl
    rw [e1, step l (ofC x)]
    rfl
end Go.Proofs.YthpacapdaembpaaDoor.A
open Go Go.RowKit Go.Proofs.YthpacapdaembpaaDoor.K Go.Proofs.YthpacapdaembpaaDoor.T
set_option linter.unusedVariables false
set_option linter.unusedSimpArgs false
namespace Go.Proofs.YthpacapdaembpaaDoor.A
variable {F F' : Nat → Option (List Value)} {M M' : Nat → Option Chunk} {N N' : Nat} {K : Kont} {E : PanK}
/-! ### Dimensions, facts by choices -/
/-- A dimension. -/
abbrev Dm := Int × List Int
def dimD (F : Nat → Option (List Value)) (cs : List Value) (d : Dm) : Prop := ∃ v, cs = [.int .i64 d.1, v] ∧ sF F 1 v d.2.length (ic d.2) ∧ d.2.length ≤ 140737488351232
theorem dimD.mono {cs : List Value} {d : Dm} (h : dimD F cs d) (hF : subF F F') : dimD F' cs d := let ⟨v, h1, h2, h3⟩ := h; ⟨v, h1, h2.mono hF, h3⟩
theorem dimD.one {cs : List Value} {d : Dm} (h : dimD F cs d) : cs.length = 2 ∧ ∀ c ∈ cs, c.oneCell' = true := by
  obtain ⟨v, rfl, hv, _⟩ := h
  obtain ⟨a, c, rfl, _⟩ := hv.form
  exact ⟨rfl, List.all_eq_true.1 rfl⟩
def dimsD (F : Nat → Option (List Value)) (v : Value) (l : List Dm) : Prop := ∃ rows, sF F 2 v l.length rows.flatten ∧ rowsF (dimD F) 2 rows l
theorem dimsD.mono {v : Value} {t : List Dm} (h : dimsD F v t) (hF : subF F F') : dimsD F' v t := let ⟨rows, h1, h2⟩ := h; ⟨rows, h1.mono hF, h2.mono fun _ _ hr => hr.mono hF⟩
theorem dimsD.form {v : Value} {t : List Dm} (h : dimsD F v t) : ∃ a c, v = .slice a t.length c := let ⟨rows, h1, _⟩ := h; let ⟨a, c, h2, _⟩ := h1.form; ⟨a, c, h2⟩
/-- Whole numbers of a kind. -/
def ick (k : IntKind) (l : List Int) : List Value := l.map (.int k)
/-- l[i], of whole numbers. -/
theorem ixk_r {k : IntKind} {v : Value} {l : List Int} (hv : sF F 1 v l.length (ick k l)) {i : Nat} {K : Value → Kont} (hi : i < l.length) (kk : ∀ p, K p (.int k l[i]) ⟨F, M, N⟩) :
    pv (iaV none 1 v (.int .i64 (i : Nat))) (fun p => ld false 1 p (K p)) ⟨F, M, N⟩ := by
  obtain ⟨b, o, c, rfl, cs, hF, _, hcs⟩ := hv.at (by decide) hi
  exact iaN_r hi (ld_r (ldV_c (row_F hF) (by rw [Nat.mul_one, hcs i (by omega)]; simp [ick, hi])) (kk _))
/-- a % b, of numbers that are none below 0 -/
theorem rem_n {e : EqK} {k : IntKind} {a b : Nat} {h : Hp} (hb : 0 < b) (kk : K (.int k ((a % b : Nat) : Int)) h) : pv (binV e .rem (.int k (a : Nat)) (.int k (b : Nat))) K h :=
  ⟨_, by rw [inV]; simp only [intV]; rw [if_neg (by omega)], by rw [show Int.tmod (a : Int) (b : Int) = ((a % b : Nat) : Int) from rfl]; exact kk⟩
theorem cv_i64 {k : IntKind} {a : Nat} {h : Hp} (h1 : a ≤ 9223372036854775807) (kk : K (.int .i64 (a : Nat)) h) : pv (cvV .i64 (.int k (a : Nat))) K h :=
  ⟨_, rfl, by rw [wrap_in (by omega) (by omega)]; exact kk⟩
theorem mul_n {e : EqK} {a b : Nat} {h : Hp} (h2 : a * b ≤ 9223372036854775807) (k : K (.int .i64 ((a * b : Nat) : Int)) h) : pv (binV e .mul (.int .i64 a) (.int .i64 b)) K h :=
  ⟨_, by rw [inV]; rfl, by rw [← Int.natCast_mul, wrap_in (by omega) (by omega)]; exact k⟩
/-- A key of members, as choices say: the places' sizes are above 0. -/
def keyOf (l : List Dm) (c : List Int) : List Int := l.mapIdx fun i d => (c.getD i 0) % d.1
theorem keyOf_len (l : List Dm) (c : List Int) : (keyOf l c).length = l.length := by simp [keyOf]
theorem keyOf_take (l : List Dm) (c : List Int) {i : Nat} (h : i < l.length) : keyOf (l.take (i + 1)) c = keyOf (l.take i) c ++ [(c.getD i 0) % l[i].1] := by
  unfold keyOf
  rw [List.take_add_one, List.getElem?_eq_getElem h, Option.toList_some, List.mapIdx_concat, List.length_take, Nat.min_eq_left (by omega)]
set_option maxRecDepth 10000 in
/-- Key, of stratumlaw03 -/
theorem key_c {u v : Value} {l : List Dm} {c : List Int} (hu : dimsD F u l) (hv : sF F 1 v c.length (ick .u16 c)) (hl : l.length ≤ 1000000) (hs : ∀ d ∈ l, 0 < d.1 ∧ d.1 ≤ 1000000) (hc : ∀ x ∈ c, 0 ≤ x ∧ x < 65536) (hcl : c.length ≤ 140737488351232)
    (k : ∀ v' F' N', (Hp.mk F' M N').wf → subF F F' → N ≤ N' → sF F' 1 v' (keyOf l c).length (ic (keyOf l c)) → K v' ⟨F', M, N'⟩) :
    callv Tryd.prog (.func (.func 48) #[] #[]) #[u, v] K E ⟨F, M, N⟩ := by
  refine callv_of_text mixed Tryd.func48 (by kernel_rfl) (t48 _ E _ _) (fun hw => ?_)
  have hm : clean M N := hw.m
  obtain ⟨rows, hu1, hu2⟩ := hu
  have hlu : lenV u = some (.int .i64 (l.length : Nat)) := by obtain ⟨a, c, rfl, _⟩ := hu1.form; rfl
  have hlv : lenV v = some (.int .i64 (c.length : Nat)) := by obtain ⟨a, c, rfl, _⟩ := hv.form; rfl
  refine l48_1_1_0_1_0_0 (σ := Nat × Value) (fun s => s.2) (fun s => .int .i64 (s.1 : Nat))
    (fun s h => ∃ M' N', h = ⟨F, M', N'⟩ ∧ N ≤ N' ∧ (∀ q, q < N → M' q = M q) ∧ clean M' N' ∧ s.1 ≤ l.length ∧ own M' N 3 1 s.2 s.1 (ic (keyOf (l.take s.1) c))) (fun s => l.length - s.1) (0, .slice none 0 0) rfl rfl
    (fun hw2 => ⟨_, wk_refl hw2, M, N, rfl, Nat.le_refl _, fun _ _ => rfl, hm, Nat.zero_le _, own.nil⟩) (fun k1 s j h1 hI hw2 next => ?_)
  obtain ⟨M2, N2, rfl, hN2, hM2, hm2, hi, ho2⟩ := hI
  simp only [hlu, hlv]
  try simp only [gdTT, gdFF, gdTF, gdFT, pvS, pickT, pickF, faP, lenS, capS, nilP, exA, exB, exC, notB, cndT, cndF, Bool.not_true, Bool.not_false, Nat.zero_add, Nat.add_zero]
  refine lss_r (fun hlt => ?_) (fun hge => ?_)
  · have h1 : s.1 < l.length := by omega
    obtain ⟨d1, d2⟩ := hs l[s.1] (List.getElem_mem _)
    try simp only [gdTT, gdFF, gdTF, gdFT, pvS, pickT, pickF, faP, lenS, capS, nilP, exA, exB, exC, notB, cndT, cndF, Bool.not_true, Bool.not_false, Nat.zero_add, Nat.add_zero]
    -- what is behind the choice
    have nat : ∀ x : Int, 0 ≤ x → x < 65536 → x = c.getD s.1 0 → ∃ n : Nat, x = n ∧ n < 65536 ∧ (c.getD s.1 0) % l[s.1].1 = ((n % l[s.1].1.toNat : Nat) : Int) := fun x h0 h1 e => ⟨x.toNat, by omega, by omega, by
      rw [← e, Int.natCast_emod, Int.toNat_of_nonneg h0, Int.toNat_of_nonneg (by omega)]⟩
    refine lss_r (fun hlt2 => ?_) (fun hge2 => ?_)
    have h2 : s.1 < c.length := by omega
    try simp only [gdTT, gdFF, gdTF, gdFT, pvS, pickT, pickF, faP, lenS, capS, nilP, exA, exB, exC, notB, cndT, cndF, Bool.not_true, Bool.not_false, Nat.zero_add, Nat.add_zero]
    refine ixk_r hv h2 fun p => ?_
    obtain ⟨x0, x1⟩ := hc c[s.1] (List.getElem_mem _)
    obtain ⟨n, hn, hn1, hn2⟩ := nat c[s.1] x0 x1 (by simp [List.getD_eq_getElem?_getD, h2])
    rw [hn]
    refine cv_i64 (a := n) (by omega) ?_
    rotate_left
    try simp only [gdTT, gdFF, gdTF, gdFT, pvS, pickT, pickF, faP, lenS, capS, nilP, exA, exB, exC, notB, cndT, cndF, Bool.not_true, Bool.not_false, Nat.zero_add, Nat.add_zero]
    have hg : c.getD s.1 0 = 0 := by rw [List.getD_eq_getElem?_getD, List.getElem?_eq_none (by omega)]; rfl
    obtain ⟨n, hn0, hn2⟩ : ∃ n : Nat, (.int .i64 0 : Value) = .int .i64 (n : Nat) ∧ (c.getD s.1 0) % l[s.1].1 = ((n % l[s.1].1.toNat : Nat) : Int) := ⟨0, rfl, by rw [hg]; simp⟩
    rw [hn0]
    all_goals
      rw [t48_1_1_0_1_0_0_1_0_0_1_1]
      refine fld_r hu1 hu2 (by decide) h1 (off := 0) (by decide) fun p q r x hR _ hx => ?_
      obtain ⟨kv, rfl, hkv', hkl⟩ := hR
      simp at hx
      subst hx
      rw [show l[s.1].1 = ((l[s.1].1.toNat : Nat) : Int) by omega]
      refine rem_n (by omega) ?_
      refine push_r (new := [.int .i64 ((n % l[s.1].1.toNat : Nat) : Int)]) ho2 hm2 hN2 (by kernel_rfl) rfl (List.all_eq_true.1 rfl) (by omega) (by unfold maxLen; omega) (fun p v' M3 N3 h4 h5 h6 h7 => ?_)
      rw [t48_1_1_0_1_0_0_1_1]
      refine inc_r (by omega) ?_
      refine next (s.1 + 1, v') _ _ (by simp only; omega) (fun hw3 => ⟨_, wk_refl hw3, M3, N3, rfl, by omega, fun q hq => ?_, h7, h1, ?_⟩)
      · exact ((h5 q (fun e => by have := (ho2.ge q e).1; omega) (by omega)).1).trans (hM2 q hq)
      · simp only
        rw [keyOf_take l c h1, hn2]
        simpa [ic] using h4
  · try simp only [gdTT, gdFF, gdTF, gdFT, pvS, pickT, pickF, faP, lenS, capS, nilP, exA, exB, exC, notB, cndT, cndF, Bool.not_true, Bool.not_false, Nat.zero_add, Nat.add_zero]
    rw [t48_1_1_1]
    rw [List.take_of_length_le (by omega)] at ho2
    refine fun hc' => ⟨_, frz_wf hm hM2 hc', fun hw' => k _ _ _ hw' (subF_frzAll hc') hN2 ?_⟩
    have := ho2.rd.frz hc' (fun b hb => .inl (ho2.ge b hb).1)
    rw [keyOf_len]
    rw [show s.1 = l.length by omega] at this
    exact this
end Go.Proofs.YthpacapdaembpaaDoor.A
open Go Go.RowKit Go.Proofs.YthpacapdaembpaaDoor.K Go.Proofs.YthpacapdaembpaaDoor.T
set_option linter.unusedVariables false
set_option linter.unusedSimpArgs false
namespace Go.Proofs.YthpacapdaembpaaDoor.A
variable {F F' : Nat → Option (List Value)} {M M' : Nat → Option Chunk} {N N' : Nat} {K : Kont} {E : PanK}
theorem own.box {B : Nat} {e : TypeId} {sz n : Nat} {v : Value} {cs : List Value} (h : own M B e sz v n cs) (hm : clean M N) {b : Nat} (hb : N ≤ b) (x : Option Chunk) : own (upd M b x) B e sz v n cs :=
  h.keep (fun q hq => upd_ne _ _ (fun e => by have := h.lt hm q hq; omega)) (Nat.le_refl _)
/-- Lists of choices. -/
def kksD (k : IntKind) (F : Nat → Option (List Value)) (v : Value) (ks : List (List Int)) : Prop := ∃ rows, sF F 1 v ks.length rows.flatten ∧ rowsF (fun r c => ∃ u, r = [u] ∧ sF F 1 u c.length (ick k c) ∧ c.length ≤ 140737488351232) 1 rows ks
theorem kksD.mono {k : IntKind} {v : Value} {ks : List (List Int)} (h : kksD k F v ks) (hF : subF F F') : kksD k F' v ks := let ⟨rows, h1, h2⟩ := h; ⟨rows, h1.mono hF, h2.mono fun _ _ ⟨u, e, h, l⟩ => ⟨u, e, h.mono hF, l⟩⟩
theorem kk_r {k : IntKind} {v : Value} {ts : List (List Int)} {K : Value → Kont} (hv : kksD k F v ts) {i : Nat} (hi : i < ts.length) (kk : ∀ p u, sF F 1 u ts[i].length (ick k ts[i]) → ts[i].length ≤ 140737488351232 → K p u ⟨F, M, N⟩) : pv (iaV none 1 v (.int .i64 (i : Nat))) (fun p => ld false 1 p (K p)) ⟨F, M, N⟩ := by
  obtain ⟨rows, h1, h2⟩ := hv
  obtain ⟨b, o, c, cs, r, rfl, hF, _, ⟨u, rfl, hu, hul⟩, hl, _, hle, ht, hj⟩ := row_at h1 h2 (by decide) hi
  exact iaN_r hi (ld_r (ldV_c (row_F hF) (hj 0 (by decide))) (kk _ _ hu hul))
/-- Facts at members, as choices say. -/
def factsOf (l : List Dm) (ks : List (List Int)) (v : List Int) : List Fc := (ks.take 200).mapIdx fun i c => (keyOf l c, v.getD (i % v.length) 0)
theorem factsOf_len (l : List Dm) (ks : List (List Int)) (v : List Int) : (factsOf l ks v).length = min 200 ks.length := by simp [factsOf]
theorem mapIdx_take {α β : Type} (f : Nat → α → β) (l : List α) {i : Nat} (h : i < l.length) : (l.take (i + 1)).mapIdx f = (l.take i).mapIdx f ++ [f i l[i]] := by
  rw [List.take_add_one, List.getElem?_eq_getElem h, Option.toList_some, List.mapIdx_concat, List.length_take, Nat.min_eq_left (by omega)]
theorem rowsF_snoc1 {α : Type} {R : List Value → α → Prop} {sz : Nat} {rows : List (List Value)} {xs : List α} (h : rowsF R sz rows xs) {r : List Value} {x : α} (h1 : r.length = sz ∧ ∀ c ∈ r, c.oneCell' = true) (hr : R r x) : rowsF R sz (rows ++ [r]) (xs ++ [x]) := h.snoc h1.1 h1.2 hr
set_option maxRecDepth 10000 in
/-- Facts, of stratumlaw04 -/
theorem facts_c {u v w : Value} {l : List Dm} {ks : List (List Int)} {c : List Int} (hu : dimsD F u l) (hv : kksD .u16 F v ks) (hw' : sF F 1 w c.length (ic c)) (hl : l.length ≤ 1000000) (hs : ∀ d ∈ l, 0 < d.1 ∧ d.1 ≤ 1000000) (hc : ∀ k ∈ ks, ∀ x ∈ k, 0 ≤ x ∧ x < 65536) (hkl : ks.length ≤ 140737488351232) (hcl : c.length ≤ 140737488351232)
    (k : ∀ v' F' N', (Hp.mk F' M N').wf → subF F F' → N ≤ N' → fctsD F' v' (factsOf l ks c) → K v' ⟨F', M, N'⟩) :
    callv Tryd.prog (.func (.func 21) #[] #[]) #[u, v, w] K E ⟨F, M, N⟩ := by
  refine callv_of_text mixed Tryd.func21 (by kernel_rfl) (t21 _ E _ _ _) (fun hw => ?_)
  have hm : clean M N := hw.m
  have hlv : lenV v = some (.int .i64 (ks.length : Nat)) := by obtain ⟨rows, h1, _⟩ := hv; obtain ⟨a, c, rfl, _⟩ := h1.form; rfl
  have hlw : lenV w = some (.int .i64 (c.length : Nat)) := by obtain ⟨a, c, rfl, _⟩ := hw'.form; rfl
  refine l21_1_1_0_1_0_0 (σ := Nat × Value) (fun s => s.2) (fun s => .int .i64 (s.1 : Nat))
    (fun s h => ∃ F' M' N' rows, h = ⟨F', M', N'⟩ ∧ subF F F' ∧ N ≤ N' ∧ (∀ q, q < N → M' q = M q) ∧ clean M' N' ∧ s.1 ≤ ks.length ∧ s.1 ≤ 200 ∧ own M' N 39 2 s.2 s.1 rows.flatten ∧ rowsF (fctD F') 2 rows ((ks.take s.1).mapIdx fun i k => (keyOf l k, c.getD (i % c.length) 0))) (fun s => 200 - s.1) (0, .slice none 0 0) rfl rfl
    (fun hw2 => ⟨_, wk_refl hw2, F, M, N, [], rfl, subF.refl _, Nat.le_refl _, fun _ _ => rfl, hm, Nat.zero_le _, Nat.zero_le _, own.nil, rowsF.nil _ _⟩) (fun k1 s j h1 hI hw2 next => ?_)
  obtain ⟨F2, M2, N2, rows, rfl, hF2, hN2, hM2, hm2, hi, hi2, ho2, hr2⟩ := hI
  have fin : (¬ s.1 < ks.length ∨ ¬ s.1 < 200) → ∀ h', h' = (⟨F2, M2, N2⟩ : Hp) → h'.wf → ∃ h'', h'.wk h'' ∧ (h''.wf → K s.2 h'') := fun hend h' e hc' => by
    subst e
    have e1 : ks.take s.1 = ks.take 200 := by
      rcases hend with h | h
      · rw [List.take_of_length_le (by omega), List.take_of_length_le (by omega)]
      · rw [show s.1 = 200 by omega]
    have e2 : s.1 = (factsOf l ks c).length := by
      rw [factsOf_len]
      rcases hend with h | h <;> omega
    refine ⟨_, frz_wf hm hM2 hc', fun hw' => k _ _ _ hw' (hF2.trans (subF_frzAll hc')) hN2 ⟨rows, ?_, ?_⟩⟩
    · have := ho2.rd.frz hc' (fun b hb => .inl (ho2.ge b hb).1)
      rw [← e2]; exact this
    · unfold factsOf
      rw [← e1]; exact hr2.mono fun _ _ h => h.mono (subF_frzAll hc')
  simp only [hlv]
  try simp only [gdTT, gdFF, gdTF, gdFT, pvS, pickT, pickF, faP, lenS, capS, nilP, exA, exB, exC, notB, cndT, cndF, Bool.not_true, Bool.not_false, Nat.zero_add, Nat.add_zero]
  refine lss_r (fun hlt => ?_) (fun hge => ?_)
  · try simp only [gdTT, gdFF, gdTF, gdFT, pvS, pickT, pickF, faP, lenS, capS, nilP, exA, exB, exC, notB, cndT, cndF, Bool.not_true, Bool.not_false, Nat.zero_add, Nat.add_zero]
    refine lss_r (fun hlt2 => ?_) (fun hge2 => ?_)
    · have h1 : s.1 < ks.length := by omega
      try simp only [gdTT, gdFF, gdTF, gdFT, pvS, pickT, pickF, faP, lenS, capS, nilP, exA, exB, exC, notB, cndT, cndF, Bool.not_true, Bool.not_false, Nat.zero_add, Nat.add_zero]
      refine kk_r (hv.mono hF2) h1 fun p kv hkv hkvl => ?_
      refine key_c (hu.mono hF2) hkv hl hs (hc _ (List.getElem_mem _)) hkvl (fun key F3 N3 hw3 hF3 hN3 hkey => ?_)
      obtain ⟨ka, kc, hkf, _⟩ := hkey.form
      refine pv_r (v := .agg #[key, .int .i64 0]) (by rw [hkf]; kernel_rfl) ?_
      refine nw_r (fun b1 hb1 => ?_)
      refine stM (cs' := [key, .int .i64 0]) ?_ (upd_same _ _ _) rfl rfl (by rw [hkf]; exact List.all_eq_true.1 rfl)
      rw [upd_upd]
      simp only [hlw]
      try simp only [gdTT, gdFF, gdTF, gdFT, pvS, pickT, pickF, faP, lenS, capS, nilP, exA, exB, exC, notB, cndT, cndF, Bool.not_true, Bool.not_false, Nat.zero_add, Nat.add_zero]
      have hm3 := hm2.up hN3
      have hb1 : ∀ x, own (upd M2 b1 x) N 39 2 s.2 s.1 rows.flatten := fun x => ho2.box hm3 (by omega) x
      refine gtr_r (fun h0 => ?_) (fun h0 => ?_)
      try simp only [gdTT, gdFF, gdTF, gdFT, pvS, pickT, pickF, faP, lenS, capS, nilP, exA, exB, exC, notB, cndT, cndF, Bool.not_true, Bool.not_false, Nat.zero_add, Nat.add_zero]
      refine rem_n (a := s.1) (b := c.length) (by omega) ?_
      have hmod : s.1 % c.length < c.length := Nat.mod_lt _ (by omega)
      refine ixn_r ((hw'.mono hF2).mono hF3) hmod fun p => ?_
      refine stM (cs' := [key, .int .i64 c[s.1 % c.length]]) ?_ (upd_same _ _ _) rfl rfl (List.all_eq_true.1 rfl) (by exact Nat.le_of_ble_eq_true rfl)
      rw [upd_upd]
      obtain ⟨n, hn, hn2⟩ : ∃ n, c[s.1 % c.length] = n ∧ n = c.getD (s.1 % c.length) 0 := ⟨_, rfl, by rw [List.getD_eq_getElem?_getD, List.getElem?_eq_getElem hmod]; rfl⟩
      rw [hn]
      rotate_left
      try simp only [gdTT, gdFF, gdTF, gdFT, pvS, pickT, pickF, faP, lenS, capS, nilP, exA, exB, exC, notB, cndT, cndF, Bool.not_true, Bool.not_false, Nat.zero_add, Nat.add_zero]
      obtain ⟨n, hn, hn2⟩ : ∃ n : Int, (0 : Int) = n ∧ n = c.getD (s.1 % c.length) 0 := ⟨_, rfl, by rw [List.getD_eq_getElem?_getD, List.getElem?_eq_none (by omega)]; rfl⟩
      rw [show ([key, .int .i64 0] : List Value) = [key, .int .i64 n] by rw [← hn]]
      all_goals
        rw [t21_1_1_0_1_0_0_1_0_0_1_1]
        refine ldMa (vs := [key, .int .i64 n]) ?_ (upd_same _ _ _)
        refine push_r (new := [key, .int .i64 n]) (hb1 _) (hm3.new (by omega) _) (by omega) (by rw [hkf]; kernel_rfl) rfl (by rw [hkf]; exact List.all_eq_true.1 rfl) (by omega) (by unfold maxLen; omega) (fun p v' M4 N4 h4 h5 h6 h7 => ?_)
        rw [t21_1_1_0_1_0_0_1_1]
        refine inc_r (by omega) ?_
        refine next (s.1 + 1, v') _ _ (by simp only; omega) (fun hw3 => ⟨_, wk_refl hw3, F3, M4, N4, rows ++ [[key, .int .i64 n]], rfl, hF2.trans hF3, by omega, fun q hq => ?_, h7, h1, by simp only; omega, ?_, ?_⟩)
        · exact ((h5 q (fun e => by have := (ho2.ge q e).1; omega) (by omega)).1).trans ((upd_ne _ _ (by omega)).trans (hM2 q hq))
        · simpa using h4
        · simp only
          rw [mapIdx_take _ ks h1]
          have hr1 : fctD F3 [key, .int .i64 n] (keyOf l ks[s.1], c.getD (s.1 % c.length) 0) := ⟨key, by rw [← hn2], hkey, by simp only; rw [keyOf_len]; omega⟩
          exact rowsF_snoc1 (hr2.mono fun _ _ h => h.mono hF3) hr1.one hr1
    · try simp only [gdTT, gdFF, gdTF, gdFT, pvS, pickT, pickF, faP, lenS, capS, nilP, exA, exB, exC, notB, cndT, cndF, Bool.not_true, Bool.not_false, Nat.zero_add, Nat.add_zero]
      rw [t21_1_1_1]
      exact fin (by omega) _ rfl
  · try simp only [gdTT, gdFF, gdTF, gdFT, pvS, pickT, pickF, faP, lenS, capS, nilP, exA, exB, exC, notB, cndT, cndF, Bool.not_true, Bool.not_false, Nat.zero_add, Nat.add_zero]
    rw [t21_1_1_1]
    exact fin (by omega) _ rfl
end Go.Proofs.YthpacapdaembpaaDoor.A
open Go Go.RowKit Go.Proofs.YthpacapdaembpaaDoor.K Go.Proofs.YthpacapdaembpaaDoor.T
set_option linter.unusedVariables false
set_option linter.unusedSimpArgs false
namespace Go.Proofs.YthpacapdaembpaaDoor.A
variable {F F' : Nat → Option (List Value)} {M M' : Nat → Option Chunk} {N N' : Nat} {K : Kont} {E : PanK}
/-- The rows of some blocks become such that nobody turns them. -/
noncomputable def frzP (F : Nat → Option (List Value)) (M : Nat → Option Chunk) (p : Nat → Prop) : Nat → Option (List Value) := fun b => open Classical in if p b then (match M b with | some (.cells _ cs _) => some cs | _ => F b) else F b
theorem subF_frzP {p : Nat → Prop} (hc : (Hp.mk F M N).wf) : subF F (frzP F M p) := fun b cs hb => by
  unfold frzP
  split
  · rw [show M b = none from hc.d b cs hb]; exact hb
  · exact hb
theorem wk_P {p : Nat → Prop} (hc : (Hp.mk F M N).wf) : (Hp.mk F M N).wk ⟨frzP F M p, keepM M (fun q => ¬ p q), N⟩ := by
  refine ⟨rfl, keepM_sub _ _, fun b cs hb => ?_, fun b cs hb => ?_⟩
  · simp only [frzP] at hb
    split at hb
    · rename_i hp
      split at hb
      · rename_i e cs' tot he; cases hb; exact .inr ⟨by simp [keepM, hp], e, cs, tot, he, List.prefix_refl _⟩
      · exact .inl hb
    · exact .inl hb
  · simp only [frzP] at hb
    split at hb
    · rename_i hp; simp [keepM, hp]
    · have : M b = none := hc.d b cs hb
      simp only [keepM, this]; split <;> rfl
theorem own.frzP {B : Nat} {e : TypeId} {sz n : Nat} {v : Value} {cs : List Value} {p : Nat → Prop} (h : own M B e sz v n cs) (hp : ∀ q, v.ownBlock = some q → p q) : sF (A.frzP F M p) sz v n cs := by
  refine ⟨h.1, ?_⟩
  rcases h.2 with ⟨rfl, rfl⟩ | ⟨b, c, rest, rfl, h2, h3, h4, h5⟩
  · exact .inl ⟨_, _, rfl, rfl⟩
  · refine .inr ⟨b, 0, c, cs ++ rest, rfl, h2, ?_, by rw [List.drop_zero, ← h.1, List.take_left]⟩
    have := hp b rfl
    simp [A.frzP, this, h5]
theorem own.far {B : Nat} {e : TypeId} {sz n : Nat} {u v v' : Value} {cs : List Value} (h : own M B e sz u n cs) (hf : fr M M' N v v') (hm : clean M N) (hne : ∀ q, u.ownBlock = some q → v.ownBlock ≠ some q) : own M' B e sz u n cs ∧ ∀ q, u.ownBlock = some q → v'.ownBlock ≠ some q :=
  ⟨h.keep (fun q hq => (hf q (hne q hq) (h.lt hm q hq)).1) (Nat.le_refl _), fun q hq => (hf q (hne q hq) (h.lt hm q hq)).2⟩
def divA : Nat → List Nat → Nat
  | a, [] => a
  | a, b :: l => divA (a * (2 + b % 4)) l
def divL : Nat → List Nat → List Nat
  | _, [] => []
  | a, b :: l => (a * (2 + b % 4)) :: divL (a * (2 + b % 4)) l
theorem divA_snoc (l : List Nat) (b : Nat) : ∀ a, divA a (l ++ [b]) = divA a l * (2 + b % 4) := by
  induction l with
  | nil => intro a; rfl
  | cons x l ih => intro a; exact ih _
theorem divL_snoc (l : List Nat) (b : Nat) : ∀ a, divL a (l ++ [b]) = divL a l ++ [divA a l * (2 + b % 4)] := by
  induction l with
  | nil => intro a; rfl
  | cons x l ih => intro a; simp only [List.cons_append, divL]; rw [ih]; rfl
theorem divA_le (l : List Nat) : ∀ a, divA a l ≤ a * 5 ^ l.length := by
  induction l with
  | nil => intro a; simp [divA]
  | cons x l ih =>
    intro a
    simp only [divA, List.length_cons]
    have h1 := ih (a * (2 + x % 4))
    have h2 : a * (2 + x % 4) ≤ a * 5 := Nat.mul_le_mul_left _ (by omega)
    have h3 : a * (2 + x % 4) * 5 ^ l.length ≤ a * 5 * 5 ^ l.length := Nat.mul_le_mul_right _ h2
    rw [Nat.pow_succ, Nat.mul_comm (5 ^ l.length) 5, ← Nat.mul_assoc]
    omega
theorem divL_len (l : List Nat) : ∀ a, (divL a l).length = l.length := by
  induction l with
  | nil => intro a; rfl
  | cons x l ih => intro a; simp [divL, ih]
/-- A dimension, as choices say. -/
def dimOf (c : Int × List Int) : Dm := (1 + c.1 % 200, (divL 1 ((c.2.take 4).map Int.toNat)).map (fun n : Nat => (n : Int)))
/-- Dimensions, as choices say. -/
def dimsOf (m : List (Int × List Int)) : List Dm := if m = [] then [(100, [10])] else (m.take 4).map dimOf
def cutD (F : Nat → Option (List Value)) (cs : List Value) (c : Int × List Int) : Prop := ∃ v, cs = [.int .u16 c.1, v] ∧ sF F 1 v c.2.length (ick .u8 c.2) ∧ c.2.length ≤ 140737488351232
theorem cutD.mono {cs : List Value} {d : Int × List Int} (h : cutD F cs d) (hF : subF F F') : cutD F' cs d := let ⟨v, h1, h2, h3⟩ := h; ⟨v, h1, h2.mono hF, h3⟩
def cutsD (F : Nat → Option (List Value)) (v : Value) (l : List (Int × List Int)) : Prop := ∃ rows, sF F 2 v l.length rows.flatten ∧ rowsF (cutD F) 2 rows l
theorem cutsD.mono {v : Value} {t : List (Int × List Int)} (h : cutsD F v t) (hF : subF F F') : cutsD F' v t := let ⟨rows, h1, h2⟩ := h; ⟨rows, h1.mono hF, h2.mono fun _ _ hr => hr.mono hF⟩
set_option maxRecDepth 10000 in
/-- Of, of stratumlaw03 -/
theorem dof_c {u : Value} {m : List (Int × List Int)} (hu : cutsD F u m) (hml : m.length ≤ 140737488351232) (hc : ∀ c ∈ m, (0 ≤ c.1 ∧ c.1 < 65536) ∧ ∀ x ∈ c.2, 0 ≤ x ∧ x < 256)
    (k : ∀ v' F' N', (Hp.mk F' M N').wf → subF F F' → N ≤ N' → dimsD F' v' (dimsOf m) → K v' ⟨F', M, N'⟩) :
    callv Tryd.prog (.func (.func 19) #[] #[]) #[u] K E ⟨F, M, N⟩ := by
  refine callv_of_text mixed Tryd.func19 (by kernel_rfl) (t19 _ E _) (fun hw => ?_)
  have hm : clean M N := hw.m
  obtain ⟨crows, hu1, hu2⟩ := hu
  have hlu : lenV u = some (.int .i64 (m.length : Nat)) := by obtain ⟨a, c, rfl, _⟩ := hu1.form; rfl
  refine l19_1_1_0_1_0_0 (σ := Nat × Value) (fun s => s.2) (fun s => .int .i64 (s.1 : Nat))
    (fun s h => ∃ F' M' N' rows, h = ⟨F', M', N'⟩ ∧ subF F F' ∧ N ≤ N' ∧ (∀ q, q < N → M' q = M q) ∧ clean M' N' ∧ s.1 ≤ m.length ∧ s.1 ≤ 4 ∧ own M' N 51 2 s.2 s.1 rows.flatten ∧ rowsF (dimD F') 2 rows ((m.take s.1).map dimOf)) (fun s => 4 - s.1) (0, .slice none 0 0) rfl rfl
    (fun hw2 => ⟨_, wk_refl hw2, F, M, N, [], rfl, subF.refl _, Nat.le_refl _, fun _ _ => rfl, hm, Nat.zero_le _, Nat.zero_le _, own.nil, rowsF.nil _ _⟩) (fun k1 s j h1 hI hw2 next => ?_)
  obtain ⟨F2, M2, N2, rows, rfl, hF2, hN2, hM2, hm2, hi, hi2, ho2, hr2⟩ := hI
  have hu1' := hu1.mono hF2
  have hu2' : rowsF (cutD F2) 2 crows m := hu2.mono fun _ _ h => h.mono hF2
  simp only [hlu]
  try simp only [gdTT, gdFF, gdTF, gdFT, pvS, pickT, pickF, faP, lenS, capS, nilP, exA, exB, exC, notB, cndT, cndF, Bool.not_true, Bool.not_false, Nat.zero_add, Nat.add_zero]
  by_cases hgo : s.1 < m.length ∧ s.1 < 4
  · obtain ⟨h1, h2⟩ := hgo
    refine lss_t (by omega) ?_
    try simp only [gdTT, gdFF, gdTF, gdFT, pvS, pickT, pickF, faP, lenS, capS, nilP, exA, exB, exC, notB, cndT, cndF, Bool.not_true, Bool.not_false, Nat.zero_add, Nat.add_zero]
    refine lss_t (by omega) ?_
    try simp only [gdTT, gdFF, gdTF, gdFT, pvS, pickT, pickF, faP, lenS, capS, nilP, exA, exB, exC, notB, cndT, cndF, Bool.not_true, Bool.not_false, Nat.zero_add, Nat.add_zero]
    obtain ⟨⟨c0, c1⟩, cb⟩ := hc m[s.1] (List.getElem_mem _)
    refine fld_r hu1' hu2' (by decide) h1 (off := 0) (by decide) fun p q r x hR _ hx => ?_
    obtain ⟨bv, rfl, hbv, hbl⟩ := hR
    simp at hx
    subst hx
    rw [show m[s.1].1 = ((m[s.1].1.toNat : Nat) : Int) by omega]
    refine rem_n (b := 200) (by decide) (cv_i64 (by omega) (add_n (a := 1) (by omega) ?_))
    obtain ⟨sz, hsz⟩ : ∃ sz : Int, ((1 + m[s.1].1.toNat % 200 : Nat) : Int) = sz := ⟨_, rfl⟩
    rw [hsz]
    refine pv_r (v := .agg #[.int .i64 sz, .slice none 0 0]) (by kernel_rfl) ?_
    refine nw_r (fun bx hbx => ?_)
    refine stM (cs' := [.int .i64 sz, .slice none 0 0]) ?_ (upd_same _ _ _)
    rw [upd_upd]
    have hs1 : (dimOf m[s.1]).1 = sz := by
      rw [← hsz]
      simp only [dimOf]
      omega
    refine l19_1_1_0_1_0_0_1_0_0_1_1_0_1_0_0 (σ := Nat × Nat) (fun s => .int .i64 (s.2 : Nat)) (fun s => .int .i64 (s.1 : Nat))
      (fun t h => ∃ M' N' dv, h = ⟨F2, M', N'⟩ ∧ bx < N' ∧ (∀ q, q < N → M' q = M q) ∧ clean M' N' ∧ t.1 ≤ m[s.1].2.length ∧ t.1 ≤ 4 ∧ t.2 = divA 1 ((m[s.1].2.take t.1).map Int.toNat) ∧ M' bx = some (.cells 51 [.int .i64 sz, dv] 2) ∧
        own M' N 3 1 dv t.1 (ic ((divL 1 ((m[s.1].2.take t.1).map Int.toNat)).map (fun n : Nat => (n : Int)))) ∧ own M' N 51 2 s.2 s.1 rows.flatten ∧ dv.ownBlock ≠ some bx ∧ s.2.ownBlock ≠ some bx ∧ (∀ q, s.2.ownBlock = some q → dv.ownBlock ≠ some q)) (fun t => 4 - t.1) (0, 1) rfl rfl
      (fun hw3 => ⟨_, wk_refl hw3, _, _, .slice none 0 0, rfl, Nat.lt_succ_self _, fun q hq => (upd_ne _ _ (by omega)).trans (hM2 q hq), hm2.new hbx _, Nat.zero_le _, Nat.zero_le _, by simp [divA], by rw [upd_same]; rfl, by simpa [divL, ic] using own.nil, ho2.box hm2 hbx _, by simp [Value.ownBlock], fun e => by have := ho2.lt hm2 bx e; omega, fun q _ => by simp [Value.ownBlock]⟩) (fun k2 t j2 h2' hI2 hw3 next2 => ?_)
    obtain ⟨M3, N3, dv, rfl, hbN, hM3, hm3, ht1, ht2, ht3, hbx3, hdv, hout, hd1, hd2, hd3⟩ := hI2
    obtain ⟨da, dc, hdf, _⟩ := hdv.form
    have hbl4 : t.1 < m[s.1].2.length → t.1 < 4 → ∀ x, x = t.2 → x ≤ 625 := fun _ _ x e => by
      rw [e, ht3]
      have h5 := divA_le ((m[s.1].2.take t.1).map Int.toNat) 1
      rw [List.length_map, List.length_take, Nat.min_eq_left ht1, Nat.one_mul] at h5
      exact Nat.le_trans h5 (Nat.le_trans (Nat.pow_le_pow_right (by decide) ht2) (by decide))
    refine fld_r hu1' hu2' (by decide) h1 (off := 1) (by decide) fun p q r x hR _ hx => ?_
    obtain ⟨bv, rfl, hbv, hbl⟩ := hR
    simp at hx
    subst hx
    refine lenF_r hbv ?_
    by_cases hgo2 : t.1 < m[s.1].2.length ∧ t.1 < 4
    · obtain ⟨h3, h4⟩ := hgo2
      have h625 := hbl4 h3 h4 t.2 rfl
      refine lss_t (by omega) ?_
      try simp only [gdTT, gdFF, gdTF, gdFT, pvS, pickT, pickF, faP, lenS, capS, nilP, exA, exB, exC, notB, cndT, cndF, Bool.not_true, Bool.not_false, Nat.zero_add, Nat.add_zero]
      refine lss_t (by omega) ?_
      try simp only [gdTT, gdFF, gdTF, gdFT, pvS, pickT, pickF, faP, lenS, capS, nilP, exA, exB, exC, notB, cndT, cndF, Bool.not_true, Bool.not_false, Nat.zero_add, Nat.add_zero]
      refine fld_r hu1' hu2' (by decide) h1 (off := 1) (by decide) fun p q r x hR _ hx => ?_
      obtain ⟨bv, rfl, hbv, hbl⟩ := hR
      simp at hx
      subst hx
      refine ixk_r hbv h3 fun p => ?_
      obtain ⟨b0, b1⟩ := cb m[s.1].2[t.1] (List.getElem_mem _)
      obtain ⟨bn, hbn, hbn2⟩ : ∃ n : Nat, m[s.1].2[t.1] = (n : Int) ∧ n < 256 := ⟨m[s.1].2[t.1].toNat, by omega, by omega⟩
      rw [hbn]
      refine rem_n (b := 4) (by decide) (cv_i64 (by omega) (add_n (a := 2) (by omega) ?_))
      have hmul : t.2 * (2 + bn % 4) ≤ 625 * 5 := Nat.mul_le_mul h625 (by omega)
      refine mul_n (by omega) ?_
      refine ldM (v := dv) ?_ hbx3
      have hlast : ((m[s.1].2.take (t.1 + 1)).map Int.toNat) = (m[s.1].2.take t.1).map Int.toNat ++ [bn] := by
        rw [List.take_add_one, List.getElem?_eq_getElem h3, Option.toList_some, List.map_append, hbn]; simp
      refine push_r (new := [.int .i64 ((t.2 * (2 + bn % 4) : Nat) : Int)]) hdv hm3 (by omega) (by kernel_rfl) rfl (List.all_eq_true.1 rfl) (by omega) (by unfold maxLen; omega) (fun p v' M4 N4 h4' h5 h6 h7 => ?_)
      obtain ⟨va, vc, hvf, _⟩ := h4'.form
      have hb4 : M4 bx = some (.cells 51 [.int .i64 sz, dv] 2) := ((h5 bx hd1 hbN).1).trans hbx3
      refine stM (cs' := [.int .i64 sz, v']) ?_ hb4 (by rw [hvf]; rfl) (by rw [hvf]; rfl) (by rw [hvf]; exact List.all_eq_true.1 rfl)
      refine inc_r (by omega) ?_
      obtain ⟨hout4, hne4⟩ := hout.far h5 hm3 hd3
      have hv'b := (h5 bx hd1 hbN).2
      refine next2 (t.1 + 1, t.2 * (2 + bn % 4)) _ _ (by simp only; omega) (fun hw4 => ⟨_, wk_refl hw4, _, N4, v', rfl, by omega, fun q hq => ?_, h7.set (by omega) _, h3, by simp only; omega, ?_, upd_same _ _ _, ?_, ?_, hv'b, hd2, hne4⟩)
      · exact (upd_ne _ _ (by omega)).trans (((h5 q (fun e => by have := (hdv.ge q e).1; omega) (by omega)).1).trans (hM3 q hq))
      · simp only
        rw [hlast, divA_snoc, ht3]
      · simp only
        rw [hlast, divL_snoc, List.map_append, ← ht3]
        have h8 := h4'.keep (M' := upd M4 bx (some (.cells 51 [.int .i64 sz, v'] 2))) (fun q hq => upd_ne _ _ (fun e => hv'b (e ▸ hq))) (Nat.le_refl _)
        simpa [ic] using h8
      · exact hout4.keep (fun q hq => upd_ne _ _ (fun e => hd2 (e ▸ hq))) (Nat.le_refl _)
    · have hend : t.1 = min m[s.1].2.length 4 := by omega
      have e1 : m[s.1].2.take t.1 = m[s.1].2.take 4 := by
        rcases Nat.lt_or_ge m[s.1].2.length 4 with h | h
        · rw [List.take_of_length_le (by omega), List.take_of_length_le (by omega)]
        · rw [show t.1 = 4 by omega]
      rw [e1] at hdv
      have hx5 : dimOf m[s.1] = (sz, (divL 1 ((m[s.1].2.take 4).map Int.toNat)).map (fun n : Nat => (n : Int))) := by rw [← hs1]; rfl
      have hdl : t.1 = (dimOf m[s.1]).2.length := by rw [hx5, ← e1]; simp [divL_len]; omega
      refine lss_r (fun hl1 => ?_) (fun hl1 => ?_)
      try simp only [gdTT, gdFF, gdTF, gdFT, pvS, pickT, pickF, faP, lenS, capS, nilP, exA, exB, exC, notB, cndT, cndF, Bool.not_true, Bool.not_false, Nat.zero_add, Nat.add_zero]
      refine lss_f (by omega) ?_
      all_goals
        try simp only [gdTT, gdFF, gdTF, gdFT, pvS, pickT, pickF, faP, lenS, capS, nilP, exA, exB, exC, notB, cndT, cndF, Bool.not_true, Bool.not_false, Nat.zero_add, Nat.add_zero]
        rw [t19_1_1_0_1_0_0_1_0_0_1_1_1]
        refine ldMa (vs := [.int .i64 sz, dv]) ?_ hbx3
        refine push_r (new := [.int .i64 sz, dv]) hout hm3 (by omega) (by rw [hdf]; kernel_rfl) rfl (by rw [hdf]; exact List.all_eq_true.1 rfl) (by omega) (by unfold maxLen; omega) (fun p v' M4 N4 h4' h5 h6 h7 => ?_)
        rw [t19_1_1_0_1_0_0_1_1]
        refine inc_r (by omega) ?_
        obtain ⟨hdv4, hne4⟩ := hdv.far h5 hm3 (fun q hq e => hd3 q e hq)
        refine next (s.1 + 1, v') _ _ (by simp only; omega) (fun hw4 => ⟨_, wk_P (p := fun q => N ≤ q ∧ v'.ownBlock ≠ some q) hw4, _, _, N4, rows ++ [[.int .i64 sz, dv]], rfl, hF2.trans (subF_frzP hw4), by omega, fun q hq => ?_, keepM_clean h7, h1, by simp only; omega, ?_, ?_⟩)
        · rw [keepM_in (by omega)]
          exact ((h5 q (fun e => by have := (hout.ge q e).1; omega) (by omega)).1).trans (hM3 q hq)
        · have h8 := h4'.keep (M' := keepM M4 (fun q => ¬ (N ≤ q ∧ v'.ownBlock ≠ some q))) (fun q hq => keepM_in (fun h => h.2 hq)) (Nat.le_refl _)
          simpa using h8
        · simp only
          rw [List.take_add_one, List.getElem?_eq_getElem h1, Option.toList_some, List.map_append, List.map_singleton]
          have hr1 : dimD (frzP F2 M4 (fun q => N ≤ q ∧ v'.ownBlock ≠ some q)) [.int .i64 sz, dv] (dimOf m[s.1]) := ⟨dv, by rw [hs1], by
            have h9 := hdv4.frzP (F := F2) (p := fun q => N ≤ q ∧ v'.ownBlock ≠ some q) (fun q hq => ⟨(hdv.ge q hq).1, hne4 q hq⟩)
            rw [← hdl]
            rw [hx5]; exact h9, by rw [← hdl]; omega⟩
          exact rowsF_snoc1 (hr2.mono fun _ _ h => h.mono (subF_frzP hw4)) hr1.one hr1
  · obtain ⟨oa, oc, hof, _⟩ := ho2.form
    have hlo : lenV s.2 = some (.int .i64 (s.1 : Nat)) := by rw [hof]; rfl
    have hend : s.1 = min m.length 4 := by omega
    have e1 : m.take s.1 = m.take 4 := by
      rcases Nat.lt_or_ge m.length 4 with h | h
      · rw [List.take_of_length_le (by omega), List.take_of_length_le (by omega)]
      · rw [show s.1 = 4 by omega]
    refine lss_r (fun hl1 => ?_) (fun hl1 => ?_)
    try simp only [gdTT, gdFF, gdTF, gdFT, pvS, pickT, pickF, faP, lenS, capS, nilP, exA, exB, exC, notB, cndT, cndF, Bool.not_true, Bool.not_false, Nat.zero_add, Nat.add_zero]
    refine lss_f (by omega) ?_
    all_goals
      try simp only [gdTT, gdFF, gdTF, gdFT, pvS, pickT, pickF, faP, lenS, capS, nilP, exA, exB, exC, notB, cndT, cndF, Bool.not_true, Bool.not_false, Nat.zero_add, Nat.add_zero]
      rw [t19_1_1_1]
      simp only [hlo]
      try simp only [gdTT, gdFF, gdTF, gdFT, pvS, pickT, pickF, faP, lenS, capS, nilP, exA, exB, exC, notB, cndT, cndF, Bool.not_true, Bool.not_false, Nat.zero_add, Nat.add_zero]
      by_cases h0 : s.1 = 0
      · have hm0 : m = [] := List.eq_nil_of_length_eq_zero (by omega)
        refine eql_t (by omega) ?_
        try simp only [gdTT, gdFF, gdTF, gdFT, pvS, pickT, pickF, faP, lenS, capS, nilP, exA, exB, exC, notB, cndT, cndF, Bool.not_true, Bool.not_false, Nat.zero_add, Nat.add_zero]
        refine nws_r (cs := [.int .i64 10]) (by kernel_rfl) (fun b1 hb1 => ?_)
        refine pv_r (v := .agg #[.int .i64 100, .slice (some ⟨b1, 0, none⟩) 1 1]) (by kernel_rfl) ?_
        have hb1v : s.2.ownBlock ≠ some b1 := fun e => by have := ho2.lt hm2 b1 e; omega
        refine push_r (new := [.int .i64 100, .slice (some ⟨b1, 0, none⟩) 1 1]) (ho2.box hm2 hb1 _) (hm2.new hb1 _) (by omega) (by kernel_rfl) rfl (List.all_eq_true.1 rfl) (by omega) (by unfold maxLen; omega) (fun p v' M4 N4 h4' h5 h6 h7 => ?_)
        rw [t19_1_1_1_1]
        have hMM : ∀ q, q < N → M4 q = M q := fun q hq => ((h5 q (fun e => by have := (ho2.ge q e).1; omega) (by omega)).1).trans ((upd_ne _ _ (by omega)).trans (hM2 q hq))
        have hb4 : M4 b1 = some (.cells 3 [.int .i64 10] 1) := ((h5 b1 hb1v (by omega)).1).trans (upd_same _ _ _)
        refine fun hc' => ⟨_, frz_wf hm hMM hc', fun hw' => k v' _ N4 hw' (hF2.trans (subF_frzAll hc')) (by omega) ⟨rows ++ [[.int .i64 100, .slice (some ⟨b1, 0, none⟩) 1 1]], ?_, ?_⟩⟩
        · have := h4'.rd.frz hc' (fun b hb => .inl (h4'.ge b hb).1)
          rw [hm0] at hr2 ⊢
          have hr0 : rows = [] := List.eq_nil_of_length_eq_zero (by have := hr2.all.1; simpa using this)
          subst hr0
          rw [h0] at this
          simpa [dimsOf] using this
        · rw [hm0] at hr2 ⊢
          have hr1 : dimD (frzAll F2 M4 N) [.int .i64 100, .slice (some ⟨b1, 0, none⟩) 1 1] (100, [10]) := ⟨_, rfl, sF_lit (frz_at (by omega) hb4) rfl (by decide), by decide⟩
          have hr0 : rows = [] := List.eq_nil_of_length_eq_zero (by have := hr2.all.1; simpa using this)
          subst hr0
          exact rowsF_snoc1 (rowsF.nil _ _) hr1.one hr1
      · refine eql_f (by omega) ?_
        try simp only [gdTT, gdFF, gdTF, gdFT, pvS, pickT, pickF, faP, lenS, capS, nilP, exA, exB, exC, notB, cndT, cndF, Bool.not_true, Bool.not_false, Nat.zero_add, Nat.add_zero]
        rw [t19_1_1_1_1]
        have hne : m ≠ [] := fun e => by rw [e] at hend; simp at hend; omega
        refine fun hc' => ⟨_, frz_wf hm hM2 hc', fun hw' => k s.2 _ N2 hw' (hF2.trans (subF_frzAll hc')) hN2 ⟨rows, ?_, ?_⟩⟩
        · have := ho2.rd.frz hc' (fun b hb => .inl (ho2.ge b hb).1)
          unfold dimsOf
          rw [if_neg hne, List.length_map, List.length_take, show min 4 m.length = s.1 by omega]; exact this
        · unfold dimsOf
          rw [if_neg hne, ← e1]; exact hr2.mono fun _ _ h => h.mono (subF_frzAll hc')
end Go.Proofs.YthpacapdaembpaaDoor.A
open Go Go.RowKit Go.Proofs.YthpacapdaembpaaDoor.K Go.Proofs.YthpacapdaembpaaDoor.T
set_option linter.unusedVariables false
set_option linter.unusedSimpArgs false
namespace Go.Proofs.YthpacapdaembpaaDoor.A
variable {F F' : Nat → Option (List Value)} {M M' : Nat → Option Chunk} {N N' : Nat} {K : Kont} {E : PanK}
/-- TableOne -/
theorem tableOne_c {kv v : Value} {key l : List Int} (hk : sF F 1 kv key.length (ic key)) (hv : sF F 1 v l.length (ic l)) (hkl : key.length ≤ 140737488351232) (hvl : l.length ≤ 140737488351232) (hki : ∀ x ∈ key, i64 x) (k : ∀ h, K (.bool true) h) :
    call Tryd.prog 5 #[kv, v] K E ⟨F, M, N⟩ := by
  refine call_text mixed Tryd.func5 (by kernel_rfl) (t5 _ E _ _) (fun hw => ?_)
  have kn : ∀ {M : Nat → Option Chunk} {F : Nat → Option (List Value)} {N : Nat}, callv Tryd.prog (.func (.func 18) #[] #[]) #[] (fun v h => h.wf → ∃ h', h.wk h' ∧ (h'.wf → K v h')) E ⟨F, M, N⟩ := known_c (fun F' N' _ _ _ hc => ⟨_, wk_refl hc, fun _ => k _⟩)
  have hlk : lenV kv = some (.int .i64 (key.length : Nat)) := by obtain ⟨a, c, rfl, _⟩ := hk.form; rfl
  have hlv : lenV v = some (.int .i64 (l.length : Nat)) := by obtain ⟨a, c, rfl, _⟩ := hv.form; rfl
  simp only [hlk]
  try simp only [gdTT, gdFF, gdTF, gdFT, pvS, pickT, pickF, faP, lenS, capS, nilP, exA, exB, exC, notB, cndT, cndF, Bool.not_true, Bool.not_false, Nat.zero_add, Nat.add_zero]
  refine gtr_r (fun h1 => ?_) (fun h1 => ?_)
  · try simp only [gdTT, gdFF, gdTF, gdFT, pvS, pickT, pickF, faP, lenS, capS, nilP, exA, exB, exC, notB, cndT, cndF, Bool.not_true, Bool.not_false, Nat.zero_add, Nat.add_zero]; exact kn
  try simp only [gdTT, gdFF, gdTF, gdFT, pvS, pickT, pickF, faP, lenS, capS, nilP, exA, exB, exC, notB, cndT, cndF, Bool.not_true, Bool.not_false, Nat.zero_add, Nat.add_zero]
  simp only [hlv]
  try simp only [gdTT, gdFF, gdTF, gdFT, pvS, pickT, pickF, faP, lenS, capS, nilP, exA, exB, exC, notB, cndT, cndF, Bool.not_true, Bool.not_false, Nat.zero_add, Nat.add_zero]
  refine gtr_r (fun h2 => ?_) (fun h2 => ?_)
  · try simp only [gdTT, gdFF, gdTF, gdFT, pvS, pickT, pickF, faP, lenS, capS, nilP, exA, exB, exC, notB, cndT, cndF, Bool.not_true, Bool.not_false, Nat.zero_add, Nat.add_zero]; exact kn
  try simp only [gdTT, gdFF, gdTF, gdFT, pvS, pickT, pickF, faP, lenS, capS, nilP, exA, exB, exC, notB, cndT, cndF, Bool.not_true, Bool.not_false, Nat.zero_add, Nat.add_zero]
  refine known_c (fun F1 N1 hF1 hN1 hw1 => ?_)
  try simp only [gdTT, gdFF, gdTF, gdFT, pvS, pickT, pickF, faP, lenS, capS, nilP, exA, exB, exC, notB, cndT, cndF, Bool.not_true, Bool.not_false, Nat.zero_add, Nat.add_zero]
  have hm1 : clean M N1 := hw1.m
  have hk1 := hk.mono hF1
  obtain ⟨ka, kc, hkf, _⟩ := hk.form
  refine l5_1_1_1_0_1_0_0 (σ := Nat × Value) (fun s => s.2) (fun s => .int .i64 (s.1 : Nat))
    (fun s h => ∃ M' N' rows, h = ⟨F1, M', N'⟩ ∧ N1 ≤ N' ∧ (∀ q, q < N1 → M' q = M q) ∧ clean M' N' ∧ s.1 ≤ l.length ∧ own M' N1 39 2 s.2 s.1 rows.flatten ∧ rowsF (fctD F1) 2 rows ((l.take s.1).map fun x => (key, x))) (fun s => l.length - s.1) (0, .slice none 0 0) rfl rfl
    (fun hw2 => ⟨_, wk_refl hw2, M, N1, [], rfl, Nat.le_refl _, fun _ _ => rfl, hm1, Nat.zero_le _, own.nil, rowsF.nil _ _⟩) (fun k1 s j h1 hI hw2 next => ?_)
  obtain ⟨M2, N2, rows, rfl, hN2, hM2, hm2, hi, ho2, hr2⟩ := hI
  simp only [hlv]
  try simp only [gdTT, gdFF, gdTF, gdFT, pvS, pickT, pickF, faP, lenS, capS, nilP, exA, exB, exC, notB, cndT, cndF, Bool.not_true, Bool.not_false, Nat.zero_add, Nat.add_zero]
  refine lss_r (fun hlt => ?_) (fun hge => ?_)
  · have h3 : s.1 < l.length := by omega
    try simp only [gdTT, gdFF, gdTF, gdFT, pvS, pickT, pickF, faP, lenS, capS, nilP, exA, exB, exC, notB, cndT, cndF, Bool.not_true, Bool.not_false, Nat.zero_add, Nat.add_zero]
    refine ixn_r (hv.mono hF1) h3 fun p => ?_
    have hr1 : fctD F1 [kv, .int .i64 l[s.1]] (key, l[s.1]) := ⟨kv, rfl, hk1, hkl⟩
    refine pv_r (v := .agg #[kv, .int .i64 l[s.1]]) (by rw [hkf]; kernel_rfl) ?_
    refine push_r (new := [kv, .int .i64 l[s.1]]) ho2 hm2 hN2 (by rw [hkf]; kernel_rfl) rfl hr1.one.2 (by omega) (by unfold maxLen; omega) (fun p v' M3 N3 h4 h5 h6 h7 => ?_)
    refine inc_r (by omega) ?_
    refine next (s.1 + 1, v') _ _ (by simp only; omega) (fun hw3 => ⟨_, wk_refl hw3, M3, N3, rows ++ [[kv, .int .i64 l[s.1]]], rfl, by omega, fun q hq => ?_, h7, h3, ?_, ?_⟩)
    · exact ((h5 q (fun e => by have := (ho2.ge q e).1; omega) (by omega)).1).trans (hM2 q hq)
    · simpa using h4
    · simp only
      rw [List.take_add_one, List.getElem?_eq_getElem h3, Option.toList_some, List.map_append]
      exact hr2.snoc hr1.one.1 hr1.one.2 hr1
  · try simp only [gdTT, gdFF, gdTF, gdFT, pvS, pickT, pickF, faP, lenS, capS, nilP, exA, exB, exC, notB, cndT, cndF, Bool.not_true, Bool.not_false, Nat.zero_add, Nat.add_zero]
    rw [t5_1_1_1_1]
    have e : l.take s.1 = l := List.take_of_length_le (by omega)
    have e2 : s.1 = l.length := by omega
    rw [e] at hr2
    rw [e2] at ho2
    refine callv_go (fun hc => ⟨_, frz_wf hm1 hM2 hc, ?_⟩)
    have hs := subF_frzAll (N := N1) hc
    have hfc : fctsD (frzAll F1 M2 N1) s.2 (l.map fun x => (key, x)) := ⟨rows, by
      have := ho2.rd.frz hc (fun b hb => .inl (ho2.ge b hb).1)
      rw [List.length_map]; exact this, hr2.mono fun _ _ h => h.mono hs⟩
    have hv1 := (hv.mono hF1).mono hs
    generalize frzAll F1 M2 N1 = F2 at *
    refine make_c hfc (by simp; omega) (fun f hf => ?_) (fun u F3 N3 hw3 hF3 hN3 hu => ?_)
    · obtain ⟨x, _, rfl⟩ := List.mem_map.1 hf
      exact ⟨by simp only; omega, hki⟩
    simp only [hlv]
    try simp only [gdTT, gdFF, gdTF, gdFT, pvS, pickT, pickF, faP, lenS, capS, nilP, exA, exB, exC, notB, cndT, cndF, Bool.not_true, Bool.not_false, Nat.zero_add, Nat.add_zero]
    rw [List.map_map] at hu
    rcases Nat.eq_zero_or_pos l.length with h0 | h0
    · have hl0 : l = [] := List.eq_nil_of_length_eq_zero h0
      subst hl0
      refine eql_t rfl ?_
      try simp only [gdTT, gdFF, gdTF, gdFT, pvS, pickT, pickF, faP, lenS, capS, nilP, exA, exB, exC, notB, cndT, cndF, Bool.not_true, Bool.not_false, Nat.zero_add, Nat.add_zero]
      obtain ⟨a, c, rfl⟩ := hu.form
      try simp only [gdTT, gdFF, gdTF, gdFT, pvS, pickT, pickF, faP, lenS, capS, nilP, exA, exB, exC, notB, cndT, cndF, Bool.not_true, Bool.not_false, Nat.zero_add, Nat.add_zero]
      refine eql_t rfl fun hc => ⟨_, wk_refl hc, fun _ => k _⟩
    · refine eql_f (by omega) ?_
      try simp only [gdTT, gdFF, gdTF, gdFT, pvS, pickT, pickF, faP, lenS, capS, nilP, exA, exB, exC, notB, cndT, cndF, Bool.not_true, Bool.not_false, Nat.zero_add, Nat.add_zero]
      have hne : l ≠ [] := fun e => by rw [e] at h0; simp at h0
      have e3 := tab_one key l hne
      rw [show (fr1 ∘ fun x => (key, x)) = fun x => fr1 (key, x) from rfl, e3] at hu
      obtain ⟨rows3, hu1, hu2⟩ := hu
      obtain ⟨ua, uc, hup, _⟩ := hu1.form
      rw [show lenV u = some (.int .i64 ((1 : Nat) : Int)) by rw [hup]; rfl]
      try simp only [gdTT, gdFF, gdTF, gdFT, pvS, pickT, pickF, faP, lenS, capS, nilP, exA, exB, exC, notB, cndT, cndF, Bool.not_true, Bool.not_false, Nat.zero_add, Nat.add_zero]
      refine eql_t rfl ?_
      try simp only [gdTT, gdFF, gdTF, gdFT, pvS, pickT, pickF, faP, lenS, capS, nilP, exA, exB, exC, notB, cndT, cndF, Bool.not_true, Bool.not_false, Nat.zero_add, Nat.add_zero]
      obtain ⟨b, o, c, cs, r, hb, hFb, _, ⟨kv3, rfl, hkv3, _⟩, hl5, h15, hle5, ht5, hj5⟩ := row_at hu1 hu2 (by decide) (show 0 < [(key, allC l)].length by simp)
      subst hb
      refine iaN_r (i := 0) (by simp) ?_
      try simp only [gdTT, gdFF, gdTF, gdFT, pvS, pickT, pickF, faP, lenS, capS, nilP, exA, exB, exC, notB, cndT, cndF, Bool.not_true, Bool.not_false, Nat.zero_add, Nat.add_zero]
      have hld : ∀ M' N', ldV ⟨F3, M', N'⟩ true 4 (.pointer (some ⟨b, o + 0 * 5 + 1, none⟩)) (.agg (allC l).cs.toArray) := fun M' N' => ldV_a (row_F hFb) (by omega) (by
        have e5 := congrArg (List.drop 1) ht5
        rw [List.drop_take, List.drop_drop] at e5
        simpa using e5)
      refine ld_r (hld _ _) ?_
      refine rall_c (hv1.mono hF3) hvl (fun N4 hN4 hw4 => ?_)
      refine ⟨fun _ => hld _ _, ?_⟩
      refine eqc_r ?_
      rw [decide_eq_true rfl]
      try simp only [gdTT, gdFF, gdTF, gdFT, pvS, pickT, pickF, faP, lenS, capS, nilP, exA, exB, exC, notB, cndT, cndF, Bool.not_true, Bool.not_false, Nat.zero_add, Nat.add_zero]
      refine iaN_r (i := 0) (by simp) ?_
      try simp only [gdTT, gdFF, gdTF, gdFT, pvS, pickT, pickF, faP, lenS, capS, nilP, exA, exB, exC, notB, cndT, cndF, Bool.not_true, Bool.not_false, Nat.zero_add, Nat.add_zero]
      refine ld_r (ldV_c (row_F hFb) (by have := hj5 0 (by decide); simpa using this)) ?_
      obtain ⟨k3a, k3c, rfl, _⟩ := hkv3.form
      simp only [hlk]
      try simp only [gdTT, gdFF, gdTF, gdFT, pvS, pickT, pickF, faP, lenS, capS, nilP, exA, exB, exC, notB, cndT, cndF, Bool.not_true, Bool.not_false, Nat.zero_add, Nat.add_zero]
      refine eql_t rfl ?_
      try simp only [gdTT, gdFF, gdTF, gdFT, pvS, pickT, pickF, faP, lenS, capS, nilP, exA, exB, exC, notB, cndT, cndF, Bool.not_true, Bool.not_false, Nat.zero_add, Nat.add_zero]
      exact fun hc => ⟨_, wk_refl hc, fun _ => k _⟩
end Go.Proofs.YthpacapdaembpaaDoor.A
open Go
set_option linter.unusedVariables false
set_option linter.unusedSimpArgs false
namespace Go.Proofs.YthpacapdaembpaaDoor.A

/-! ### What numbers come to -/
def isMin (m : Int) (l : List Int) : Prop := m ∈ l ∧ ∀ x ∈ l, m ≤ x
def isMax (m : Int) (l : List Int) : Prop := m ∈ l ∧ ∀ x ∈ l, x ≤ m
/-- The cell of numbers (one at least). -/
structure isCell (c : CE) (l : List Int) : Prop where
  n : c.n = l.length
  s : c.s = IntKind.i64.wrap l.sum
  lo : isMin c.lo l
  hi : isMax c.hi l
theorem isCell.ne {c : CE} {l : List Int} (h : isCell c l) : l ≠ [] := fun e => by have := h.lo.1; rw [e] at this; cases this
theorem isCell.pos {c : CE} {l : List Int} (h : isCell c l) : 0 < c.n := by
  have := List.length_pos_iff.2 h.ne
  rw [h.n]; omega
theorem isCell.one {v : Int} (h0 : -9223372036854775808 ≤ v) (h1 : v ≤ 9223372036854775807) : isCell ⟨1, v, v, v⟩ [v] :=
  ⟨rfl, by simp only [List.sum_cons, List.sum_nil]; rw [IntKind.wrap_i64]; omega, ⟨by simp, fun x hx => by simp at hx; simp only; omega⟩, ⟨by simp, fun x hx => by simp at hx; simp only; omega⟩⟩
theorem wrap_add (a b : Int) : IntKind.i64.wrap (IntKind.i64.wrap a + IntKind.i64.wrap b) = IntKind.i64.wrap (a + b) := by
  simp only [IntKind.wrap_i64]; omega
theorem sum_app (a b : List Int) : (a ++ b).sum = a.sum + b.sum := by simp
theorem isCell.merge {a b : CE} {la lb : List Int} (ha : isCell a la) (hb : isCell b lb) (hl : la.length + lb.length < 9223372036854775808) : isCell (a.merge b) (la ++ lb) := by
  have h1 := ha.pos
  have h2 := hb.pos
  have e : a.merge b = ⟨IntKind.i64.wrap (a.n + b.n), IntKind.i64.wrap (a.s + b.s), if b.lo < a.lo then b.lo else a.lo, if b.hi > a.hi then b.hi else a.hi⟩ := by
    unfold CE.merge CE.add
    rw [if_neg (by omega), if_neg (by omega), if_neg (fun e => by rw [e] at h2; simp at h2), if_neg (fun e => by rw [e] at h1; simp at h1)]
  rw [e]
  refine ⟨?_, ?_, ⟨?_, fun x hx => ?_⟩, ⟨?_, fun x hx => ?_⟩⟩
  · simp only
    rw [ha.n, hb.n, IntKind.wrap_i64, List.length_append]; omega
  · simp only
    rw [ha.s, hb.s, wrap_add, sum_app]
  · simp only
    split
    · exact List.mem_append_right _ hb.lo.1
    · exact List.mem_append_left _ ha.lo.1
  · simp only
    rcases List.mem_append.1 hx with hx | hx
    · have := ha.lo.2 x hx; split <;> omega
    · have := hb.lo.2 x hx; split <;> omega
  · simp only
    split
    · exact List.mem_append_right _ hb.hi.1
    · exact List.mem_append_left _ ha.hi.1
  · simp only
    rcases List.mem_append.1 hx with hx | hx
    · have := ha.hi.2 x hx; split <;> omega
    · have := hb.hi.2 x hx; split <;> omega
/-- The order of numbers does not matter. -/
theorem isCell.perm {c d : CE} {l m : List Int} (h : isCell c l) (k : isCell d m) (p : l.Perm m) : c = d := by
  obtain ⟨c1, c2, c3, c4⟩ := c
  obtain ⟨d1, d2, d3, d4⟩ := d
  have e1 : c1 = d1 := by have a := h.n; have b := k.n; simp only at a b; rw [a, b, p.length_eq]
  have e2 : c2 = d2 := by
    have a := h.s; have b := k.s; simp only at a b
    rw [a, b]
    congr 1
    exact p.foldr_eq' (fun x _ y _ z => by omega) 0
  have e3 : c3 = d3 := by
    have a := h.lo.2 d3 (p.mem_iff.2 k.lo.1)
    have b := k.lo.2 c3 (p.mem_iff.1 h.lo.1)
    simp only at a b; omega
  have e4 : c4 = d4 := by
    have a := h.hi.2 d4 (p.mem_iff.2 k.hi.1)
    have b := k.hi.2 c4 (p.mem_iff.1 h.hi.1)
    simp only at a b; omega
  rw [e1, e2, e3, e4]
/-- Numbers at keys. -/
abbrev KV := List Int × List Int
/-- All numbers at a key, in order. -/
def valsAt (ls : List KV) (k : List Int) : List Int := (ls.filter fun x => decide (x.1 = k)).flatMap (·.2)
theorem valsAt_cons (x : KV) (ls : List KV) (k : List Int) : valsAt (x :: ls) k = (if x.1 = k then x.2 else []) ++ valsAt ls k := by
  unfold valsAt
  rw [List.filter_cons]
  by_cases h : x.1 = k
  · simp [h]
  · simp [h]
theorem valsAt_app (a b : List KV) (k : List Int) : valsAt (a ++ b) k = valsAt a k ++ valsAt b k := by simp [valsAt]
theorem valsAt_snoc (ls : List KV) (x : KV) (k : List Int) : valsAt (ls ++ [x]) k = valsAt ls k ++ (if x.1 = k then x.2 else []) := by
  rw [valsAt_app, valsAt_cons]; simp [valsAt]
/-- How many numbers. -/
def sizeL (ls : List KV) : Nat := (ls.map (·.2.length)).sum
theorem sizeL_app (a b : List KV) : sizeL (a ++ b) = sizeL a + sizeL b := by simp [sizeL]
theorem valsAt_len (ls : List KV) (k : List Int) : (valsAt ls k).length ≤ sizeL ls := by
  induction ls with
  | nil => simp [valsAt, sizeL]
  | cons x ls ih =>
    rw [valsAt_cons]
    simp only [sizeL, List.map_cons, List.sum_cons, List.length_append] at ih ⊢
    split
    · omega
    · simp; omega
/-- Rows, and the numbers that they tell. -/
def tells (rows : List Rw) (ls : List KV) : Prop := rows.length = ls.length ∧ ∀ (i : Nat) (r : Rw) (l : KV), rows[i]? = some r → ls[i]? = some l → r.1 = l.1 ∧ isCell r.2 l.2
theorem tells.nil : tells [] [] := ⟨rfl, fun i r l h => by simp at h⟩
theorem tells.cons {r : Rw} {l : KV} {rows : List Rw} {ls : List KV} (h1 : r.1 = l.1) (h2 : isCell r.2 l.2) (h : tells rows ls) : tells (r :: rows) (l :: ls) := by
  refine ⟨by simp [h.1], fun i r' l' hr hl => ?_⟩
  cases i with
  | zero => simp at hr hl; subst hr; subst hl; exact ⟨h1, h2⟩
  | succ i => exact h.2 i r' l' (by simpa using hr) (by simpa using hl)
theorem tells.uncons {r : Rw} {l : KV} {rows : List Rw} {ls : List KV} (h : tells (r :: rows) (l :: ls)) : r.1 = l.1 ∧ isCell r.2 l.2 ∧ tells rows ls :=
  ⟨(h.2 0 r l rfl rfl).1, (h.2 0 r l rfl rfl).2, by have := h.1; simp at this; exact this, fun i r' l' hr hl => h.2 (i + 1) r' l' (by simpa using hr) (by simpa using hl)⟩
theorem tells.app {r1 r2 : List Rw} {l1 l2 : List KV} (h1 : tells r1 l1) (h2 : tells r2 l2) : tells (r1 ++ r2) (l1 ++ l2) := by
  induction r1 generalizing l1 with
  | nil =>
    cases l1 with
    | nil => simpa using h2
    | cons _ _ => have := h1.1; simp at this
  | cons r r1 ih =>
    cases l1 with
    | nil => have := h1.1; simp at this
    | cons l l1 => obtain ⟨a, b, c⟩ := h1.uncons; exact .cons a b (ih c)
/-- What a table has at a key. -/
def hasAt (t : List Rw) (ls : List KV) : Prop := ∀ k, match look t k with
  | none => valsAt ls k = []
  | some c => isCell c (valsAt ls k)
theorem hasAt.layR {t : List Rw} {ls : List KV} (h : hasAt t ls) (hs : srt t) {k : List Int} {c : CE} {l : List Int} (hc : isCell c l) (hn : sizeL ls + l.length < 9223372036854775808) : hasAt (layR t k c) (ls ++ [(k, l)]) := by
  intro q
  rw [layR_look k c q hs, valsAt_snoc]
  have hq := h q
  by_cases e : k = q
  · subst e
    simp only [if_true]
    cases hl : look t k with
    | none => rw [hl] at hq; simp only at hq; simp only [mrg]; rw [hq, List.nil_append]; exact hc
    | some c' =>
      rw [hl] at hq; simp only at hq; simp only [mrg]
      exact hq.merge hc (by have := valsAt_len ls k; omega)
  · simp only [if_neg e, List.append_nil]
    exact hq
theorem hasAt.nil : hasAt [] [] := fun k => by simp [look, valsAt]
theorem fold_hasAt : ∀ (rows : List Rw) (ls : List KV) (t : List Rw) (ls0 : List KV), tells rows ls → hasAt t ls0 → srt t → sizeL ls0 + sizeL ls < 9223372036854775808 → hasAt (rows.foldl (fun t r => layR t r.1 r.2) t) (ls0 ++ ls)
  | [], [], t, ls0, _, h, _, _ => by simpa using h
  | [], _ :: _, _, _, h, _, _, _ => by have := h.1; simp at this
  | _ :: _, [], _, _, h, _, _, _ => by have := h.1; simp at this
  | r :: rows, (k, l) :: ls, t, ls0, h, ht, hs, hn => by
    obtain ⟨a, b, c⟩ := h.uncons
    simp only at a b
    have hn' : sizeL ls0 + (l.length + sizeL ls) < 9223372036854775808 := by simpa [sizeL] using hn
    subst a
    have h1 := ht.layR hs (k := r.1) b (by omega)
    have h2 := fold_hasAt rows ls _ _ c h1 (layR_srt hs) (by rw [sizeL_app]; simp [sizeL] at hn' ⊢; omega)
    rw [List.append_assoc] at h2
    exact h2
theorem tab_hasAt {rows : List Rw} {ls : List KV} (h : tells rows ls) (hn : sizeL ls < 9223372036854775808) : hasAt (tab rows) ls := by
  have := fold_hasAt rows ls [] [] h hasAt.nil .nil (by simpa [sizeL] using hn)
  rw [List.nil_append] at this
  exact this
/-- A table tells what it has. -/
theorem hasAt.tells {t : List Rw} {ls : List KV} (h : hasAt t ls) (hs : srt t) : tells t (t.map fun r => (r.1, valsAt ls r.1)) := by
  refine ⟨by simp, fun i r l hr hl => ?_⟩
  rw [List.getElem?_map, hr] at hl
  simp at hl
  subst hl
  refine ⟨rfl, ?_⟩
  have := h r.1
  rw [(look_some hs.nodup (c := r.2)).2 (List.mem_of_getElem? hr)] at this
  exact this
/-- Two tables that have the same numbers at each key, in whichever order, are one. -/
theorem hasAt.ext {t u : List Rw} {ls ms : List KV} (h : hasAt t ls) (k : hasAt u ms) (ht : srt t) (hu : srt u) (hp : ∀ q, (valsAt ls q).Perm (valsAt ms q)) : t = u := by
  refine srt_ext ht hu fun q => ?_
  have h1 := h q
  have h2 := k q
  have hpq := hp q
  cases a : look t q with
  | none =>
    rw [a] at h1; simp only at h1
    cases b : look u q with
    | none => rfl
    | some d => rw [b] at h2; simp only at h2; rw [h1] at hpq; exact absurd hpq.symm.eq_nil h2.ne
  | some c =>
    rw [a] at h1; simp only at h1
    cases b : look u q with
    | none => rw [b] at h2; simp only at h2; rw [h2] at hpq; exact absurd hpq.eq_nil h1.ne
    | some d => rw [b] at h2; simp only at h2; rw [h1.perm h2 hpq]
/-- The numbers of facts. -/
def kvF (f : List Int × Int) : KV := (f.1, [f.2])
theorem tells_facts : ∀ {l : List (List Int × Int)}, (∀ f ∈ l, -9223372036854775808 ≤ f.2 ∧ f.2 ≤ 9223372036854775807) → tells (l.map fun f => (f.1, (⟨1, f.2, f.2, f.2⟩ : CE))) (l.map kvF)
  | [], _ => .nil
  | f :: l, h => .cons rfl (isCell.one (h f (by simp)).1 (h f (by simp)).2) (tells_facts fun x hx => h x (by simp [hx]))
theorem sizeL_facts (l : List (List Int × Int)) : sizeL (l.map kvF) = l.length := by
  induction l with
  | nil => rfl
  | cons f l ih => simp only [sizeL, kvF, List.map_cons, List.sum_cons, List.length_cons, List.length_nil] at ih ⊢; omega
theorem valsAt_perm {a b : List KV} (p : a.Perm b) (k : List Int) : (valsAt a k).Perm (valsAt b k) := (p.filter _).flatMap_right _
theorem mem_keys {t : List Rw} {ls : List KV} (h : hasAt t ls) (hs : srt t) {r : Rw} (hr : r ∈ t) : (∃ x ∈ ls, x.1 = r.1) ∧ isCell r.2 (valsAt ls r.1) := by
  have h1 := h r.1
  rw [(look_some hs.nodup (c := r.2)).2 hr] at h1
  simp only at h1
  refine ⟨?_, h1⟩
  have hne := h1.ne
  unfold valsAt at hne
  cases hf : ls.filter (fun x => decide (x.1 = r.1)) with
  | nil => rw [hf] at hne; exact absurd rfl hne
  | cons x m =>
    have hx : x ∈ ls.filter (fun x => decide (x.1 = r.1)) := by rw [hf]; simp
    obtain ⟨a, b⟩ := List.mem_filter.1 hx
    exact ⟨x, a, of_decide_eq_true b⟩
end Go.Proofs.YthpacapdaembpaaDoor.A
open Go Go.RowKit Go.Proofs.YthpacapdaembpaaDoor.K Go.Proofs.YthpacapdaembpaaDoor.T
set_option linter.unusedVariables false
set_option linter.unusedSimpArgs false
namespace Go.Proofs.YthpacapdaembpaaDoor.A
variable {F F' : Nat → Option (List Value)} {M M' : Nat → Option Chunk} {N N' : Nat} {K : Kont} {E : PanK}
theorem isCell.ok {c : CE} {l : List Int} (h : isCell c l) (hl : ∀ x ∈ l, i64 x) : c.ok = true := by
  have hp := h.pos
  unfold CE.ok
  rw [if_neg (by omega)]
  refine decide_eq_true ⟨h.hi.2 _ h.lo.1, ?_⟩
  by_cases h1 : c.n > 1
  · exact .inl h1
  · right
    have hn := h.n
    match l, h, hl, hn with
    | [], h, _, _ => exact absurd rfl h.ne
    | [x], h, hl, _ =>
      have a := h.lo.1; have b := h.hi.1; have s := h.s
      simp at a b
      have hx := hl x (by simp)
      simp only [List.sum_cons, List.sum_nil] at s
      rw [show x + 0 = x by omega, wrap_in hx.1 hx.2] at s
      exact ⟨by rw [s, a], by rw [a, b]⟩
    | x :: y :: l, _, _, hn => simp at hn; omega
theorem soundT_of {p : Int} : ∀ {t : List Rw}, (∀ r ∈ t, okRow p r = true) → srt t → soundT p t = true := by
  have key : ∀ (t : List Rw) (o : Option (List Int)), (∀ r ∈ t, okRow p r = true) → srt t → (∀ k, o = some k → ∀ r ∈ t, kcmp k r.1 < 0) → soundL p o t = true := by
    intro t
    induction t with
    | nil => intro o _ _ _; rfl
    | cons r t ih =>
      intro o h hs ho
      have hs' := List.pairwise_cons.1 hs
      simp only [soundL]
      rw [h r (by simp), ih (some r.1) (fun x hx => h x (by simp [hx])) hs'.2 (fun k e x hx => by cases e; exact hs'.1 x hx)]
      cases o with
      | none => rfl
      | some k => simp only; rw [decide_eq_true (ho k rfl r (by simp))]; rfl
  intro t h hs
  exact key t none h hs (fun k e => by cases e)
theorem okRow_of {r : Rw} {p : Int} {l : List Int} (h1 : (r.1.length : Int) = p) (h2 : ∀ x ∈ r.1, 0 ≤ x) (h3 : isCell r.2 l) (h4 : ∀ x ∈ l, i64 x) : okRow p r = true := by
  unfold okRow
  have hn : anyNeg r.1 = false := by
    unfold anyNeg
    rw [List.any_eq_false]
    intro x hx; have := h2 x hx; simp; omega
  rw [decide_eq_true h1, decide_eq_true h3.pos, h3.ok h4, hn]; rfl
/-- Dimensions whose keys may be told. -/
def goodDims (l : List Dm) : Prop := 0 < l.length ∧ l.length ≤ 4 ∧ ∀ d ∈ l, 0 < d.1 ∧ d.1 ≤ 200
theorem dimsOf_good (m : List (Int × List Int)) (hc : ∀ c ∈ m, 0 ≤ c.1 ∧ c.1 < 65536) : goodDims (dimsOf m) := by
  unfold dimsOf
  split
  · exact ⟨by decide, by decide, fun d hd => by simp at hd; subst hd; decide⟩
  · rename_i h
    refine ⟨?_, by rw [List.length_map, List.length_take]; omega, fun d hd => ?_⟩
    · have := List.length_pos_iff.2 h
      rw [List.length_map, List.length_take]; omega
    · obtain ⟨c, hc', rfl⟩ := List.mem_map.1 hd
      have := hc c (List.mem_of_mem_take hc')
      simp only [dimOf]; omega
theorem keyOf_get {l : List Dm} {c : List Int} {x : Int} (h : x ∈ keyOf l c) : ∃ (i : Nat) (hi : i < l.length), x = (c.getD i 0) % l[i].1 := by
  obtain ⟨i, hi, rfl⟩ := List.mem_iff_getElem.1 h
  rw [keyOf_len] at hi
  exact ⟨i, hi, by simp [keyOf]⟩
theorem keyOf_ok {l : List Dm} (hl : goodDims l) (c : List Int) : ∀ x ∈ keyOf l c, 0 ≤ x ∧ x < 200 := fun x hx => by
  obtain ⟨i, hi, rfl⟩ := keyOf_get hx
  obtain ⟨h1, h2⟩ := hl.2.2 l[i] (List.getElem_mem _)
  have a := Int.emod_nonneg (c.getD i 0) (show l[i].1 ≠ 0 by omega)
  have b := Int.emod_lt_of_pos (c.getD i 0) h1
  omega
theorem factsOf_mem {l : List Dm} {ks : List (List Int)} {v : List Int} {f : Fc} (h : f ∈ factsOf l ks v) : (∃ c, f.1 = keyOf l c) ∧ (f.2 = 0 ∨ f.2 ∈ v) := by
  obtain ⟨i, hi, rfl⟩ := List.mem_iff_getElem.1 h
  refine ⟨⟨(ks.take 200)[i]'(by simpa [factsOf] using hi), by simp [factsOf]⟩, ?_⟩
  simp only [factsOf, List.getElem_mapIdx]
  rw [List.getD_eq_getElem?_getD]
  cases hv : v[i % v.length]? with
  | none => exact .inl rfl
  | some x => exact .inr (List.mem_of_getElem? hv)
theorem facts_i64 {l : List Dm} {ks : List (List Int)} {v : List Int} (hv : ∀ x ∈ v, i64 x) : ∀ f ∈ factsOf l ks v, i64 f.2 := fun f hf => by
  rcases (factsOf_mem hf).2 with h | h
  · rw [h]; exact ⟨by omega, by omega⟩
  · exact hv _ h
theorem facts_okK {l : List Dm} (hl : goodDims l) {ks : List (List Int)} {v : List Int} : ∀ f ∈ factsOf l ks v, okK f.1 := fun f hf => by
  obtain ⟨c, hc⟩ := (factsOf_mem hf).1
  rw [hc]
  refine ⟨by rw [keyOf_len]; have := hl.2.1; omega, fun x hx => ?_⟩
  have := keyOf_ok hl c x hx
  exact ⟨by omega, by omega⟩
theorem valsAt_mem {ls : List KV} {k : List Int} {x : Int} (h : x ∈ valsAt ls k) : ∃ l ∈ ls, l.1 = k ∧ x ∈ l.2 := by
  unfold valsAt at h
  obtain ⟨l, hl, hx⟩ := List.mem_flatMap.1 h
  obtain ⟨h1, h2⟩ := List.mem_filter.1 hl
  exact ⟨l, h1, of_decide_eq_true h2, hx⟩
/-- The table of facts: what it has. -/
theorem tabF_hasAt {l : List Fc} (h : ∀ f ∈ l, i64 f.2) (hn : l.length < 9223372036854775808) : hasAt (tab (l.map fr1)) (l.map kvF) :=
  tab_hasAt (tells_facts h) (by rw [sizeL_facts]; exact hn)
theorem tabF_rows {l : List Fc} (h : ∀ f ∈ l, i64 f.2) (hn : l.length < 9223372036854775808) {r : Rw} (hr : r ∈ tab (l.map fr1)) : (∃ f ∈ l, f.1 = r.1) ∧ isCell r.2 (valsAt (l.map kvF) r.1) ∧ ∀ x ∈ valsAt (l.map kvF) r.1, i64 x := by
  obtain ⟨⟨x, hx, e⟩, h2⟩ := mem_keys (tabF_hasAt h hn) (tab_srt _) hr
  obtain ⟨f, hf, rfl⟩ := List.mem_map.1 hx
  refine ⟨⟨f, hf, e⟩, h2, fun y hy => ?_⟩
  obtain ⟨l', hl', _, hy'⟩ := valsAt_mem hy
  obtain ⟨g, hg, rfl⟩ := List.mem_map.1 hl'
  simp [kvF] at hy'
  rw [hy']; exact h g hg
theorem tabF_sound {l : List Dm} (hl : goodDims l) {ks : List (List Int)} {v : List Int} (hv : ∀ x ∈ v, i64 x) : soundT l.length (tab ((factsOf l ks v).map fr1)) = true := by
  have hn : (factsOf l ks v).length < 9223372036854775808 := by rw [factsOf_len]; omega
  refine soundT_of (fun r hr => ?_) (tab_srt _)
  obtain ⟨⟨f, hf, e⟩, h1, h2⟩ := tabF_rows (facts_i64 hv) hn hr
  obtain ⟨c, hc⟩ := (factsOf_mem hf).1
  refine okRow_of (by rw [← e, hc, keyOf_len]) (fun x hx => ?_) h1 h2
  rw [← e, hc] at hx
  exact (keyOf_ok hl c x hx).1
/-- TableSounds -/
theorem tableSounds_c {u um uk uv : Value} {t : List Rw} {p : Int} {m : List (Int × List Int)} {ks : List (List Int)} {v : List Int} (hu : tblD F u t) (hul : t.length ≤ 140737488351232) (hm : cutsD F um m) (hml : m.length ≤ 140737488351232) (hmc : ∀ c ∈ m, (0 ≤ c.1 ∧ c.1 < 65536) ∧ ∀ x ∈ c.2, 0 ≤ x ∧ x < 256)
    (hk : kksD .u16 F uk ks) (hkl : ks.length ≤ 140737488351232) (hkc : ∀ k ∈ ks, ∀ x ∈ k, 0 ≤ x ∧ x < 65536) (hv : sF F 1 uv v.length (ic v)) (hvl : v.length ≤ 140737488351232) (hvc : ∀ x ∈ v, i64 x) (k : ∀ h, K (.bool true) h) :
    call Tryd.prog 3 #[u, .int .i64 p, um, uk, uv] K E ⟨F, M, N⟩ := by
  refine call_text mixed Tryd.func3 (by kernel_rfl) (t3 _ E _ _ _ _ _) (fun hw => ?_)
  have kn : ∀ {M : Nat → Option Chunk} {F : Nat → Option (List Value)} {N : Nat}, callv Tryd.prog (.func (.func 18) #[] #[]) #[] (fun v h => h.wf → ∃ h', h.wk h' ∧ (h'.wf → K v h')) E ⟨F, M, N⟩ := known_c (fun F' N' _ _ _ hc => ⟨_, wk_refl hc, fun _ => k _⟩)
  have fcn : fctsD F (.slice none 0 0) [] := ⟨[], sF.nil _ _ _, rowsF.nil _ _⟩
  have hlk : lenV uk = some (.int .i64 (ks.length : Nat)) := by obtain ⟨rows, h1, _⟩ := hk; obtain ⟨a, c, rfl, _⟩ := h1.form; rfl
  refine heavy_c hu fcn hul (by decide) (fun r1 hr1 => ?_)
  cases r1 with
  | true => try simp only [gdTT, gdFF, gdTF, gdFT, pvS, pickT, pickF, faP, lenS, capS, nilP, exA, exB, exC, notB, cndT, cndF, Bool.not_true, Bool.not_false, Nat.zero_add, Nat.add_zero]; exact kn
  | false =>
  try simp only [gdTT, gdFF, gdTF, gdFT, pvS, pickT, pickF, faP, lenS, capS, nilP, exA, exB, exC, notB, cndT, cndF, Bool.not_true, Bool.not_false, Nat.zero_add, Nat.add_zero]
  simp only [hlk]
  try simp only [gdTT, gdFF, gdTF, gdFT, pvS, pickT, pickF, faP, lenS, capS, nilP, exA, exB, exC, notB, cndT, cndF, Bool.not_true, Bool.not_false, Nat.zero_add, Nat.add_zero]
  refine gtr_r (fun h1 => ?_) (fun h1 => ?_)
  · try simp only [gdTT, gdFF, gdTF, gdFT, pvS, pickT, pickF, faP, lenS, capS, nilP, exA, exB, exC, notB, cndT, cndF, Bool.not_true, Bool.not_false, Nat.zero_add, Nat.add_zero]; exact kn
  try simp only [gdTT, gdFF, gdTF, gdFT, pvS, pickT, pickF, faP, lenS, capS, nilP, exA, exB, exC, notB, cndT, cndF, Bool.not_true, Bool.not_false, Nat.zero_add, Nat.add_zero]
  refine known_c (fun F1 N1 hF1 hN1 hw1 => ?_)
  try simp only [gdTT, gdFF, gdTF, gdFT, pvS, pickT, pickF, faP, lenS, capS, nilP, exA, exB, exC, notB, cndT, cndF, Bool.not_true, Bool.not_false, Nat.zero_add, Nat.add_zero]
  have hgd := dimsOf_good m (fun c hc => (hmc c hc).1)
  refine dof_c (hm.mono hF1) hml hmc (fun ul F2 N2 hw2 hF2 hN2 hd => ?_)
  refine facts_c hd ((hk.mono hF1).mono hF2) ((hv.mono hF1).mono hF2) (by have := hgd.2.1; omega) (fun d hd => by have := hgd.2.2 d hd; omega) hkc hkl hvl (fun uf F3 N3 hw3 hF3 hN3 hf => ?_)
  refine make_c hf (by rw [factsOf_len]; omega) (facts_okK hgd) (fun ux F4 N4 hw4 hF4 hN4 hx => ?_)
  have hF : subF F F4 := ((hF1.trans hF2).trans hF3).trans hF4
  refine tsound_c (hu.mono hF) hul (fun N5 hN5 hw5 => ?_)
  refine rtsound_c (hu.mono hF) hul (fun N6 hN6 hw6 => ?_)
  refine pv_r (v := .bool true) (by simp [binV, eqV]) ?_
  have hlx := tab_len ((factsOf (dimsOf m) ks v).map fr1)
  rw [List.length_map, factsOf_len] at hlx
  obtain ⟨la, lc, hlf⟩ := hd.form
  have hlul : lenV ul = some (.int .i64 ((dimsOf m).length : Nat)) := by rw [hlf]; rfl
  try simp only [gdTT, gdFF, gdTF, gdFT, pvS, pickT, pickF, faP, lenS, capS, nilP, exA, exB, exC, notB, cndT, cndF, Bool.not_true, Bool.not_false, Nat.zero_add, Nat.add_zero]
  simp only [hlul]
  try simp only [gdTT, gdFF, gdTF, gdFT, pvS, pickT, pickF, faP, lenS, capS, nilP, exA, exB, exC, notB, cndT, cndF, Bool.not_true, Bool.not_false, Nat.zero_add, Nat.add_zero]
  refine tsound_c hx (by omega) (fun N7 hN7 hw7 => ?_)
  rw [tabF_sound hgd hvc]
  try simp only [gdTT, gdFF, gdTF, gdFT, pvS, pickT, pickF, faP, lenS, capS, nilP, exA, exB, exC, notB, cndT, cndF, Bool.not_true, Bool.not_false, Nat.zero_add, Nat.add_zero]
  simp only [hlul]
  try simp only [gdTT, gdFF, gdTF, gdFT, pvS, pickT, pickF, faP, lenS, capS, nilP, exA, exB, exC, notB, cndT, cndF, Bool.not_true, Bool.not_false, Nat.zero_add, Nat.add_zero]
  refine rtsound_c hx (by omega) (fun N8 hN8 hw8 => ?_)
  rw [tabF_sound hgd hvc]
  try simp only [gdTT, gdFF, gdTF, gdFT, pvS, pickT, pickF, faP, lenS, capS, nilP, exA, exB, exC, notB, cndT, cndF, Bool.not_true, Bool.not_false, Nat.zero_add, Nat.add_zero]
  exact fun hc => ⟨_, wk_refl hc, fun _ => k _⟩
end Go.Proofs.YthpacapdaembpaaDoor.A
open Go
set_option linter.unusedVariables false
set_option linter.unusedSimpArgs false
namespace Go.Proofs.YthpacapdaembpaaDoor.A
theorem hasAt.congr {t : List Rw} {ls ms : List KV} (h : hasAt t ls) (e : ∀ k, valsAt ls k = valsAt ms k) : hasAt t ms := fun k => by rw [← e k]; exact h k
theorem valsAt_map (g : List Int → List Int) : ∀ {t : List Rw}, nodup t → ∀ k, valsAt (t.map fun r => (r.1, g r.1)) k = (look t k).elim [] (fun _ => g k)
  | [], _, k => by simp [valsAt, look]
  | (k1, c1) :: t, h, k => by
    have h' := List.pairwise_cons.1 h
    have ih := valsAt_map g h'.2 k
    rw [List.map_cons, valsAt_cons, ih]
    by_cases e : k1 = k
    · subst e
      have hn : look t k1 = none := look_none.2 fun x hx e => h'.1 x hx e.symm
      simp [look, hn]
    · simp [look, e]
/-- The numbers that a table tells. -/
def toldBy (t : List Rw) (ls : List KV) : List KV := t.map fun r => (r.1, valsAt ls r.1)
theorem toldBy_vals {t : List Rw} {ls : List KV} (h : hasAt t ls) (hs : srt t) (k : List Int) : valsAt (toldBy t ls) k = valsAt ls k := by
  unfold toldBy
  rw [valsAt_map (fun q => valsAt ls q) hs.nodup k]
  have := h k
  cases hl : look t k with
  | none => rw [hl] at this; simp only at this; rw [this]; rfl
  | some c => rfl
theorem toldBy_size (t : List Rw) (ls : List KV) : sizeL (toldBy t ls) ≤ t.length * sizeL ls := by
  induction t with
  | nil => simp [toldBy, sizeL]
  | cons r t ih =>
    have h1 := valsAt_len ls r.1
    simp only [toldBy, List.map_cons, sizeL, List.sum_cons, List.length_cons, Nat.succ_mul] at ih h1 ⊢
    omega
/-- Tables, one behind the other, as one. -/
theorem merge_hasAt {t u : List Rw} {ls ms : List KV} (h : hasAt t ls) (k : hasAt u ms) (ht : srt t) (hu : srt u) (hn : t.length * sizeL ls + u.length * sizeL ms < 9223372036854775808) : hasAt (tab (t ++ u)) (ls ++ ms) := by
  have h1 := h.tells ht
  have h2 := k.tells hu
  have h3 := tab_hasAt (h1.app h2) (by
    rw [sizeL_app]
    have := toldBy_size t ls
    have := toldBy_size u ms
    unfold toldBy at *
    omega)
  refine h3.congr fun q => ?_
  have a := toldBy_vals h ht q
  have b := toldBy_vals k hu q
  unfold toldBy at a b
  rw [valsAt_app, valsAt_app, a, b]
/-- How many numbers a table has. -/
def total (t : List Rw) : Int := (t.map fun r => r.2.n).sum
theorem total_app (a b : List Rw) : total (a ++ b) = total a + total b := by unfold total; rw [List.map_append, List.sum_append]
theorem merge_n {a b : CE} (ha : 0 < a.n) (hb : 0 < b.n) (hl : a.n + b.n ≤ 9223372036854775807) : (a.merge b).n = a.n + b.n := by
  unfold CE.merge CE.add
  rw [if_neg (by omega), if_neg (by omega), if_neg (fun e => by rw [e] at hb; simp at hb), if_neg (fun e => by rw [e] at ha; simp at ha)]
  simp only
  rw [IntKind.wrap_i64]; omega
theorem total_nonneg : ∀ {t : List Rw}, (∀ r ∈ t, 0 < r.2.n) → 0 ≤ total t
  | [], _ => by simp [total]
  | r :: t, h => by
    have h1 := h r (by simp)
    have h2 := total_nonneg (t := t) (fun x hx => h x (by simp [hx]))
    simp only [total, List.map_cons, List.sum_cons] at h2 ⊢
    omega
theorem layR_total : ∀ {t : List Rw} {k : List Int} {c : CE}, (∀ r ∈ t, 0 < r.2.n) → 0 < c.n → total t + c.n ≤ 9223372036854775807 → total (layR t k c) = total t + c.n ∧ ∀ r ∈ layR t k c, 0 < r.2.n
  | [], k, c, _, hc, _ => by simp [layR, total]; exact hc
  | (k1, c1) :: t, k, c, h, hc, hl => by
    have h1 : 0 < c1.n := h (k1, c1) (by simp)
    have h2 := total_nonneg (t := t) (fun x hx => h x (by simp [hx]))
    have hl' : c1.n + total t + c.n ≤ 9223372036854775807 := by simpa [total] using hl
    simp only [layR]
    split
    · obtain ⟨a, b⟩ := layR_total (t := t) (k := k) (fun x hx => h x (by simp [hx])) hc (by omega)
      refine ⟨by simp only [total, List.map_cons, List.sum_cons] at a ⊢; omega, fun r hr => ?_⟩
      rcases List.mem_cons.1 hr with rfl | hr
      · exact h1
      · exact b r hr
    · split
      · have e := merge_n h1 hc (by omega)
        refine ⟨by simp only [total, List.map_cons, List.sum_cons]; rw [e]; omega, fun r hr => ?_⟩
        rcases List.mem_cons.1 hr with rfl | hr
        · simp only; rw [e]; omega
        · exact h r (by simp [hr])
      · refine ⟨by simp only [total, List.map_cons, List.sum_cons]; omega, fun r hr => ?_⟩
        rcases List.mem_cons.1 hr with rfl | hr
        · exact hc
        · exact h r hr
theorem fold_total : ∀ (l : List Rw) (t : List Rw), (∀ r ∈ t, 0 < r.2.n) → (∀ r ∈ l, 0 < r.2.n) → total t + total l ≤ 9223372036854775807 → total (l.foldl (fun t r => layR t r.1 r.2) t) = total t + total l ∧ ∀ r ∈ l.foldl (fun t r => layR t r.1 r.2) t, 0 < r.2.n
  | [], t, h, _, _ => ⟨by simp [total], h⟩
  | r :: l, t, h, hl, hn => by
    have h1 := hl r (by simp)
    have h2 := total_nonneg (t := l) (fun x hx => hl x (by simp [hx]))
    have h3 : total t + (r.2.n + total l) ≤ 9223372036854775807 := by simpa [total] using hn
    obtain ⟨a, b⟩ := layR_total (t := t) (k := r.1) h h1 (by omega)
    obtain ⟨c, d⟩ := fold_total l _ b (fun x hx => hl x (by simp [hx])) (by rw [a]; omega)
    refine ⟨by simp only [List.foldl_cons]; rw [c, a]; simp only [total, List.map_cons, List.sum_cons]; omega, d⟩
theorem total_facts (l : List (List Int × Int)) : total (l.map fun f => (f.1, (⟨1, f.2, f.2, f.2⟩ : CE))) = l.length := by
  induction l with
  | nil => rfl
  | cons f l ih => simp only [total, List.map_cons, List.sum_cons, List.length_cons] at ih ⊢; omega
theorem tab_total {l : List (List Int × Int)} (hl : l.length ≤ 1000000) : total (tab (l.map fun f => (f.1, (⟨1, f.2, f.2, f.2⟩ : CE)))) = l.length := by
  have h := fold_total (l.map fun f => (f.1, (⟨1, f.2, f.2, f.2⟩ : CE))) [] (by simp) (fun r hr => by obtain ⟨f, _, rfl⟩ := List.mem_map.1 hr; exact Int.zero_lt_one) (by rw [total_facts]; simp [total]; omega)
  have := h.1
  rw [total_facts] at this
  simpa [tab, total] using this
theorem total_take_le {t : List Rw} (h : ∀ r ∈ t, 0 < r.2.n) (i : Nat) : total (t.take i) ≤ total t := by
  have e := congrArg total (List.take_append_drop i t)
  have e2 := total_app (t.take i) (t.drop i)
  have := total_nonneg (t := t.drop i) (fun r hr => h r (List.mem_of_mem_drop hr))
  omega
theorem total_snoc {t : List Rw} {i : Nat} (h : i < t.length) : total (t.take (i + 1)) = total (t.take i) + t[i].2.n := by
  rw [List.take_add_one, List.getElem?_eq_getElem h, Option.toList_some, total_app]
  unfold total
  simp only [List.map_cons, List.map_nil, List.sum_cons, List.sum_nil, Int.add_zero]
end Go.Proofs.YthpacapdaembpaaDoor.A
open Go Go.RowKit Go.Proofs.YthpacapdaembpaaDoor.K Go.Proofs.YthpacapdaembpaaDoor.T
set_option linter.unusedVariables false
set_option linter.unusedSimpArgs false
namespace Go.Proofs.YthpacapdaembpaaDoor.A
variable {F F' : Nat → Option (List Value)} {M M' : Nat → Option Chunk} {N N' : Nat} {K : Kont} {E : PanK}
theorem flatten_take' {sz : Nat} : ∀ (rows : List (List Value)) (i : Nat), (∀ r ∈ rows, r.length = sz) → rows.flatten.take (i * sz) = (rows.take i).flatten
  | [], i, _ => by simp
  | x :: rows, 0, _ => by simp
  | x :: rows, i + 1, h => by
    have hx := h x (by simp)
    rw [List.flatten_cons, List.take_succ_cons, List.flatten_cons, ← flatten_take' rows i (fun r hr => h r (by simp [hr])), Nat.succ_mul, show i * sz + sz = x.length + i * sz by omega, List.take_length_add_append]
/-- l[:i] -/
theorem pre_r {α : Type} {R : List Value → α → Prop} {sz : Nat} {v : Value} {l : List α} {rows : List (List Value)} {K : Kont} {ki : IntKind} (hv : sF F sz v l.length rows.flatten) (hr : rowsF R sz rows l) {i : Nat} (hi : i ≤ l.length)
    (k : ∀ v', sF F sz v' (l.take i).length (rows.take i).flatten → K v' ⟨F, M, N⟩) : pv (slV sz v none (some (.int ki (i : Nat))) none) K ⟨F, M, N⟩ := by
  have hft := flatten_take' rows i hr.len
  have hfl := (rows_take hr i).flen
  have hc : ∃ a c, v = .slice a l.length c ∧ l.length ≤ c := hv.form
  obtain ⟨a, c, rfl, hlc⟩ := hc
  refine sl_r 0 i c (Nat.zero_le _) (by omega) (Nat.le_refl _) ?_
  refine k _ ⟨hfl, ?_⟩
  rcases hv.2 with ⟨a', c', h1, h2⟩ | ⟨b, o, c', cs, h1, h2, h3, h4⟩
  · exact .inl ⟨_, _, by rw [show i - 0 = 0 by omega], by simp; omega⟩
  · injection h1 with h1 _ h1'
    subst h1; subst h1'
    refine .inr ⟨b, o, c - 0, cs, ?_, by simp; omega, h3, ?_⟩
    · have : (List.take i l).length = i := by simp; omega
      rw [this]
      split <;> simp [Addr.add_plain]
    · rw [← hft, ← h4, List.take_take, List.length_take]
      congr 1
      rw [Nat.min_eq_left hi, Nat.min_eq_left (Nat.mul_le_mul_right _ hi)]
theorem mm_max {x y : Int} {k : IntKind} : mm true (.int k x) (.int k y) = some (.int k (max x y)) := by
  simp only [mm, if_true]
  congr 2
  split <;> omega
theorem kvF_app (a b : List Fc) : (a ++ b).map kvF = a.map kvF ++ b.map kvF := List.map_append
set_option maxRecDepth 10000 in
/-- TableOrder -/
theorem tableOrder_c {um uk uv : Value} {n : Int} {m : List (Int × List Int)} {ks : List (List Int)} {v : List Int} (hn : i64 n) (hm : cutsD F um m) (hml : m.length ≤ 140737488351232) (hmc : ∀ c ∈ m, (0 ≤ c.1 ∧ c.1 < 65536) ∧ ∀ x ∈ c.2, 0 ≤ x ∧ x < 256)
    (hk : kksD .u16 F uk ks) (hkl : ks.length ≤ 140737488351232) (hkc : ∀ k ∈ ks, ∀ x ∈ k, 0 ≤ x ∧ x < 65536) (hv : sF F 1 uv v.length (ic v)) (hvl : v.length ≤ 140737488351232) (hvc : ∀ x ∈ v, i64 x) (k : ∀ h, K (.bool true) h) :
    call Tryd.prog 7 #[um, uk, uv, .int .i64 n] K E ⟨F, M, N⟩ := by
  refine call_text mixed Tryd.func7 (by kernel_rfl) (t7 _ E _ _ _ _) (fun hw => ?_)
  have kn : ∀ {M : Nat → Option Chunk} {F : Nat → Option (List Value)} {N : Nat}, callv Tryd.prog (.func (.func 18) #[] #[]) #[] (fun v h => h.wf → ∃ h', h.wk h' ∧ (h'.wf → K v h')) E ⟨F, M, N⟩ := known_c (fun F' N' _ _ _ hc => ⟨_, wk_refl hc, fun _ => k _⟩)
  have hlk : lenV uk = some (.int .i64 (ks.length : Nat)) := by obtain ⟨rows, h1, _⟩ := hk; obtain ⟨a, c, rfl, _⟩ := h1.form; rfl
  simp only [hlk]
  try simp only [gdTT, gdFF, gdTF, gdFT, pvS, pickT, pickF, faP, lenS, capS, nilP, exA, exB, exC, notB, cndT, cndF, Bool.not_true, Bool.not_false, Nat.zero_add, Nat.add_zero]
  refine gtr_r (fun h1 => ?_) (fun h1 => ?_)
  · try simp only [gdTT, gdFF, gdTF, gdFT, pvS, pickT, pickF, faP, lenS, capS, nilP, exA, exB, exC, notB, cndT, cndF, Bool.not_true, Bool.not_false, Nat.zero_add, Nat.add_zero]; exact kn
  try simp only [gdTT, gdFF, gdTF, gdFT, pvS, pickT, pickF, faP, lenS, capS, nilP, exA, exB, exC, notB, cndT, cndF, Bool.not_true, Bool.not_false, Nat.zero_add, Nat.add_zero]
  refine known_c (fun F1 N1 hF1 hN1 hw1 => ?_)
  try simp only [gdTT, gdFF, gdTF, gdFT, pvS, pickT, pickF, faP, lenS, capS, nilP, exA, exB, exC, notB, cndT, cndF, Bool.not_true, Bool.not_false, Nat.zero_add, Nat.add_zero]
  have hgd := dimsOf_good m (fun c hc => (hmc c hc).1)
  refine dof_c (hm.mono hF1) hml hmc (fun ul F2 N2 hw2 hF2 hN2 hd => ?_)
  refine facts_c hd ((hk.mono hF1).mono hF2) ((hv.mono hF1).mono hF2) (by have := hgd.2.1; omega) (fun d hd => by have := hgd.2.2 d hd; omega) hkc hkl hvl (fun uf F3 N3 hw3 hF3 hN3 hf => ?_)
  have hok := facts_okK (l := dimsOf m) hgd (ks := ks) (v := v)
  have hfi := facts_i64 (l := dimsOf m) (ks := ks) hvc
  have hfl : (factsOf (dimsOf m) ks v).length ≤ 200 := by rw [factsOf_len]; omega
  generalize factsOf (dimsOf m) ks v = f at *
  obtain ⟨frows, hf1, hf2⟩ := hf
  have hlf : lenV uf = some (.int .i64 (f.length : Nat)) := by obtain ⟨a, c, rfl, _⟩ := hf1.form; rfl
  refine pv_r mm_max ?_
  simp only [hlf]
  try simp only [gdTT, gdFF, gdTF, gdFT, pvS, pickT, pickF, faP, lenS, capS, nilP, exA, exB, exC, notB, cndT, cndF, Bool.not_true, Bool.not_false, Nat.zero_add, Nat.add_zero]
  refine inc_r (by omega) ?_
  rw [show max n 0 = (((max n 0).toNat : Nat) : Int) by omega]
  refine rem_n (by omega) ?_
  obtain ⟨i0, hi0, hi1⟩ : ∃ i, (max n 0).toNat % (f.length + 1) = i ∧ i ≤ f.length := ⟨_, rfl, by have := Nat.mod_lt (max n 0).toNat (show 0 < f.length + 1 by omega); omega⟩
  rw [hi0]
  try simp only [gdTT, gdFF, gdTF, gdFT, pvS, pickT, pickF, faP, lenS, capS, nilP, exA, exB, exC, notB, cndT, cndF, Bool.not_true, Bool.not_false, Nat.zero_add, Nat.add_zero]
  refine sub_r (by omega) (by omega) ?_
  have hm3 : clean M N3 := hw3.m
  refine l7_1_1_1_1_1_1_0_1_0_0 (σ := Nat × Value) (fun s => s.2) (fun s => .int .i64 ((s.1 : Int) - 1))
    (fun s h => ∃ M' N' rows, h = ⟨F3, M', N'⟩ ∧ N3 ≤ N' ∧ (∀ q, q < N3 → M' q = M q) ∧ clean M' N' ∧ s.1 ≤ f.length ∧ own M' N3 39 2 s.2 (f.drop s.1).length rows.flatten ∧ rowsF (fctD F3) 2 rows (f.drop s.1).reverse) (fun s => s.1) (f.length, .slice none 0 0) rfl rfl
    (fun hw4 => ⟨_, wk_refl hw4, M, N3, [], rfl, Nat.le_refl _, fun _ _ => rfl, hm3, Nat.le_refl _, by simpa using own.nil, by simpa using rowsF.nil _ _⟩) (fun k1 s j h1' hI hw4 next => ?_)
  obtain ⟨M4, N4, brows, rfl, hN4, hM4, hm4, hi, ho4, hr4⟩ := hI
  refine geq_r (fun hge => ?_) (fun hlt => ?_)
  · try simp only [gdTT, gdFF, gdTF, gdFT, pvS, pickT, pickF, faP, lenS, capS, nilP, exA, exB, exC, notB, cndT, cndF, Bool.not_true, Bool.not_false, Nat.zero_add, Nat.add_zero]
    have h2 : s.1 - 1 < f.length := by omega
    rw [show (s.1 : Int) - 1 = ((s.1 - 1 : Nat) : Int) by omega]
    refine row_r hf1 hf2 (by decide) h2 fun p r hrr hR hr2 hr1 => ?_
    have hdr : f.drop (s.1 - 1) = f[s.1 - 1] :: f.drop s.1 := by
      have := List.drop_eq_getElem_cons h2
      rwa [show s.1 - 1 + 1 = s.1 by omega] at this
    obtain ⟨kv, hre, hkv, hkl'⟩ := hR
    subst hre
    obtain ⟨ka, kc, rfl, _⟩ := hkv.form
    refine push_r (new := [.slice ka f[s.1 - 1].1.length kc, .int .i64 f[s.1 - 1].2]) ho4 hm4 hN4 (by kernel_rfl) rfl hr1 (by rw [List.length_drop]; omega) (by rw [List.length_drop]; unfold maxLen; omega) (fun p v' M5 N5 h4 h5 h6 h7 => ?_)
    refine sub_r (by omega) (by omega) ?_
    refine next (s.1 - 1, v') _ _ (by simp only; omega) (fun hw5 => ⟨_, wk_refl hw5, M5, N5, brows ++ [[.slice ka f[s.1 - 1].1.length kc, .int .i64 f[s.1 - 1].2]], rfl, by omega, fun q hq => ((h5 q (fun e => by have := (ho4.ge q e).1; omega) (by omega)).1).trans (hM4 q hq), h7, by simp only; omega, ?_, ?_⟩)
    · simp only
      rw [hdr]
      simpa using h4
    · simp only
      rw [hdr, List.reverse_cons]
      exact rowsF_snoc1 hr4 ⟨hr2, hr1⟩ ⟨_, rfl, hkv, hkl'⟩
  · try simp only [gdTT, gdFF, gdTF, gdFT, pvS, pickT, pickF, faP, lenS, capS, nilP, exA, exB, exC, notB, cndT, cndF, Bool.not_true, Bool.not_false, Nat.zero_add, Nat.add_zero]
    rw [t7_1_1_1_1_1_1_1]
    have hs0 : s.1 = 0 := by omega
    rw [hs0, List.drop_zero] at ho4 hr4
    have hfD : fctsD F3 uf f := ⟨frows, hf1, hf2⟩
    refine pre_r hf1 hf2 hi1 fun va hva => ?_
    have hva' : fctsD F3 va (f.take i0) := ⟨_, hva, rows_take hf2 i0⟩
    refine make_c hva' (by rw [List.length_take]; omega) (fun g hg => hok g (List.mem_of_mem_take hg)) (fun ta F5 N5 hw5 hF5 hN5 hta => ?_)
    refine suf_r (hf1.mono hF5) (hf2.mono fun _ _ h => h.mono hF5) hi1 fun vb hvb => ?_
    have hvb' : fctsD F5 vb (f.drop i0) := ⟨_, hvb, rows_drop (hf2.mono fun _ _ h => h.mono hF5) i0⟩
    refine make_c hvb' (by rw [List.length_drop]; omega) (fun g hg => hok g (List.mem_of_mem_drop hg)) (fun tb F6 N6 hw6 hF6 hN6 htb => ?_)
    refine make_c ((hfD.mono hF5).mono hF6) (by omega) hok (fun tt F7 N7 hw7 hF7 hN7 htt => ?_)
    have hl7 := tab_len (f.map fr1)
    rw [List.length_map] at hl7
    have hpos : ∀ r ∈ tab (f.map fr1), 0 < r.2.n := fun r hr => (tabF_rows hfi (by omega) hr).2.1.pos
    have htot : total (tab (f.map fr1)) = f.length := tab_total (l := f) (by omega)
    have hsrt := tab_srt (f.map fr1)
    have hhas := tabF_hasAt hfi (by omega)
    obtain ⟨trows, ht1, ht2⟩ := htt
    have hlt' : lenV tt = some (.int .i64 ((tab (f.map fr1)).length : Nat)) := by obtain ⟨a, c, rfl, _⟩ := ht1.form; rfl
    have hFF : subF F3 F7 := (hF5.trans hF6).trans hF7
    refine l7_1_1_1_1_1_1_1_1_1_1_1_0_1_0_0 (σ := Nat) (fun i => .int .i64 (total ((tab (f.map fr1)).take i))) (fun i => .int .i64 (i : Nat))
      (fun i h => ∃ F' N', h = ⟨F', M, N'⟩ ∧ subF F7 F' ∧ fctsD F' s.2 f.reverse ∧ i ≤ (tab (f.map fr1)).length) (fun i => (tab (f.map fr1)).length - i) 0 rfl rfl
      (fun hc => ⟨_, frz_wf hm3 hM4 hc, _, _, rfl, subF_frzAll hc, ⟨brows, by
        have := (ho4.keep (M' := M4) (fun _ _ => rfl) (Nat.le_refl _)).rd.frz hc (F := F7) (fun b hb => .inl (ho4.ge b hb).1)
        rw [List.length_reverse]; exact this, hr4.mono fun _ _ h => (h.mono hFF).mono (subF_frzAll hc)⟩, Nat.zero_le _⟩) (fun k2 i j2 h2' hI2 hw8 next2 => ?_)
    obtain ⟨F8, N8, rfl, hF8, hback, hi8⟩ := hI2
    have ht1' := ht1.mono hF8
    have ht2' : rowsF (rowD F8) 5 trows (tab (f.map fr1)) := ht2.mono fun _ _ h => h.mono hF8
    simp only [hlt']
    try simp only [gdTT, gdFF, gdTF, gdFT, pvS, pickT, pickF, faP, lenS, capS, nilP, exA, exB, exC, notB, cndT, cndF, Bool.not_true, Bool.not_false, Nat.zero_add, Nat.add_zero]
    refine lss_r (fun hlt8 => ?_) (fun hge8 => ?_)
    · have h8 : i < (tab (f.map fr1)).length := by omega
      try simp only [gdTT, gdFF, gdTF, gdFT, pvS, pickT, pickF, faP, lenS, capS, nilP, exA, exB, exC, notB, cndT, cndF, Bool.not_true, Bool.not_false, Nat.zero_add, Nat.add_zero]
      refine n_r ht1' ht2' h8 fun p q q' => ?_
      have htl := total_take_le hpos (i + 1)
      have hts := total_snoc h8
      have htn := total_nonneg (t := (tab (f.map fr1)).take i) (fun r hr => hpos r (List.mem_of_mem_take hr))
      have hp8 := hpos _ (List.getElem_mem h8)
      refine add_r (by omega) (by omega) ?_
      rw [← hts]
      refine cell_r ht1' ht2' h8 fun p q => ?_
      refine rsound_c (fun N9 hN9 hw9 => ?_)
      have hrow := tabF_rows hfi (by omega) (List.getElem_mem h8)
      rw [hrow.2.1.ok hrow.2.2]
      try simp only [gdTT, gdFF, gdTF, gdFT, pvS, pickT, pickF, faP, lenS, capS, nilP, exA, exB, exC, notB, cndT, cndF, Bool.not_true, Bool.not_false, Nat.zero_add, Nat.add_zero]
      refine gtr_r (fun hi0 => ?_) (fun hi0 => ?_)
      · have hi0' : 0 < i := by omega
        try simp only [gdTT, gdFF, gdTF, gdFT, pvS, pickT, pickF, faP, lenS, capS, nilP, exA, exB, exC, notB, cndT, cndF, Bool.not_true, Bool.not_false, Nat.zero_add, Nat.add_zero]
        refine sub_n (b := 1) (by omega) (by omega) ?_
        refine key_r ht1' ht2' (show i - 1 < (tab (f.map fr1)).length by omega) fun p1 q1 kv1 hkv1 hkl1 => ?_
        refine key_r ht1' ht2' h8 fun p' q kv hkv hkl => ?_
        refine rCmp_c hkv1 hkv hkl1 ?_
        have hlt9 := List.pairwise_iff_getElem.1 hsrt (i - 1) i (by omega) h8 (by omega)
        refine geq_f (by omega) ?_
        try simp only [gdTT, gdFF, gdTF, gdFT, pvS, pickT, pickF, faP, lenS, capS, nilP, exA, exB, exC, notB, cndT, cndF, Bool.not_true, Bool.not_false, Nat.zero_add, Nat.add_zero]
        refine inc_r (by omega) ?_
        exact next2 (i + 1) _ _ (by omega) (fun hw9 => ⟨_, wk_refl hw9, F8, N9, rfl, hF8, hback, h8⟩)
      · try simp only [gdTT, gdFF, gdTF, gdFT, pvS, pickT, pickF, faP, lenS, capS, nilP, exA, exB, exC, notB, cndT, cndF, Bool.not_true, Bool.not_false, Nat.zero_add, Nat.add_zero]
        refine inc_r (by omega) ?_
        exact next2 (i + 1) _ _ (by omega) (fun hw9 => ⟨_, wk_refl hw9, F8, N9, rfl, hF8, hback, h8⟩)
    · try simp only [gdTT, gdFF, gdTF, gdFT, pvS, pickT, pickF, faP, lenS, capS, nilP, exA, exB, exC, notB, cndT, cndF, Bool.not_true, Bool.not_false, Nat.zero_add, Nat.add_zero]
      rw [t7_1_1_1_1_1_1_1_1_1_1_1_1]
      rw [List.take_of_length_le (by omega), htot]
      simp only [hlf]
      try simp only [gdTT, gdFF, gdTF, gdFT, pvS, pickT, pickF, faP, lenS, capS, nilP, exA, exB, exC, notB, cndT, cndF, Bool.not_true, Bool.not_false, Nat.zero_add, Nat.add_zero]
      refine eql_t rfl ?_
      try simp only [gdTT, gdFF, gdTF, gdFT, pvS, pickT, pickF, faP, lenS, capS, nilP, exA, exB, exC, notB, cndT, cndF, Bool.not_true, Bool.not_false, Nat.zero_add, Nat.add_zero]
      have hbi : ∀ g ∈ f.reverse, i64 g.2 := fun g hg => hfi g (by simpa using hg)
      refine make_c hback (by simp; omega) (fun g hg => hok g (by simpa using hg)) (fun tr F9 N9 hw9 hF9 hN9 htr => ?_)
      have htD : tblD F8 tt (tab (f.map fr1)) := ⟨trows, ht1', ht2'⟩
      have hkm : (f.reverse.map kvF).Perm (f.map kvF) := (List.reverse_perm f).map kvF
      have e1 : tab (f.map fr1) = tab (f.reverse.map fr1) := hhas.ext (tabF_hasAt hbi (by simp; omega)) hsrt (tab_srt _) (fun q => (valsAt_perm hkm q).symm)
      refine same_c (htD.mono hF9) htr (by omega) ?_
      rw [decide_eq_true e1]
      try simp only [gdTT, gdFF, gdTF, gdFT, pvS, pickT, pickF, faP, lenS, capS, nilP, exA, exB, exC, notB, cndT, cndF, Bool.not_true, Bool.not_false, Nat.zero_add, Nat.add_zero]
      have hai : ∀ g ∈ f.take i0, i64 g.2 := fun g hg => hfi g (List.mem_of_mem_take hg)
      have hbi' : ∀ g ∈ f.drop i0, i64 g.2 := fun g hg => hfi g (List.mem_of_mem_drop hg)
      have hla := tab_len ((f.take i0).map fr1)
      have hlb := tab_len ((f.drop i0).map fr1)
      rw [List.length_map, List.length_take] at hla
      rw [List.length_map, List.length_drop] at hlb
      have hha := tabF_hasAt hai (by rw [List.length_take]; omega)
      have hhb := tabF_hasAt hbi' (by rw [List.length_drop]; omega)
      have hsz : ∀ (a b c d : Nat), a ≤ 200 → b ≤ 200 → c ≤ 200 → d ≤ 200 → a * b + c * d < 9223372036854775808 := fun a b c d h1 h2 h3 h4 => by
        have := Nat.mul_le_mul h1 h2
        have := Nat.mul_le_mul h3 h4
        omega
      have hab := merge_hasAt hha hhb (tab_srt _) (tab_srt _) (by rw [sizeL_facts, sizeL_facts, List.length_take, List.length_drop]; exact hsz _ _ _ _ (by omega) (by omega) (by omega) (by omega))
      have hba := merge_hasAt hhb hha (tab_srt _) (tab_srt _) (by rw [sizeL_facts, sizeL_facts, List.length_take, List.length_drop]; exact hsz _ _ _ _ (by omega) (by omega) (by omega) (by omega))
      have hokt : ∀ (l : List Fc), (∀ g ∈ l, g ∈ f) → l.length ≤ 1000 → ∀ r ∈ tab (l.map fr1), okK r.1 := fun l hl hll r hr => by
        obtain ⟨⟨g, hg, e⟩, _⟩ := tabF_rows (l := l) (fun g hg => hfi g (hl g hg)) (by omega) hr
        rw [← e]; exact hok g (hl g hg)
      have hoA := hokt (f.take i0) (fun g hg => List.mem_of_mem_take hg) (by rw [List.length_take]; omega)
      have hoB := hokt (f.drop i0) (fun g hg => List.mem_of_mem_drop hg) (by rw [List.length_drop]; omega)
      have efg : (f.take i0).map kvF ++ (f.drop i0).map kvF = f.map kvF := by rw [← kvF_app, List.take_append_drop]
      have F59 := ((hF6.trans hF7).trans hF8).trans hF9
      have F69 := (hF7.trans hF8).trans hF9
      refine tmerge_c (hta.mono F59) (htb.mono F69) (by omega) (fun r hr => by rcases List.mem_append.1 hr with hr | hr; exact hoA r hr; exact hoB r hr) (fun tm F10 N10 hw10 hF10 hN10 htm => ?_)
      refine same_c ((htD.mono hF9).mono hF10) htm (by omega) ?_
      rw [decide_eq_true (hhas.ext hab hsrt (tab_srt _) (fun q => by rw [efg]))]
      try simp only [gdTT, gdFF, gdTF, gdFT, pvS, pickT, pickF, faP, lenS, capS, nilP, exA, exB, exC, notB, cndT, cndF, Bool.not_true, Bool.not_false, Nat.zero_add, Nat.add_zero]
      refine tmerge_c ((htb.mono F69).mono hF10) ((hta.mono F59).mono hF10) (by omega) (fun r hr => by rcases List.mem_append.1 hr with hr | hr; exact hoB r hr; exact hoA r hr) (fun tn F11 N11 hw11 hF11 hN11 htn => ?_)
      refine same_c (((htD.mono hF9).mono hF10).mono hF11) htn (by omega) ?_
      rw [decide_eq_true (hhas.ext hba hsrt (tab_srt _) (fun q => valsAt_perm (by rw [← efg]; exact List.perm_append_comm) q))]
      try simp only [gdTT, gdFF, gdTF, gdFT, pvS, pickT, pickF, faP, lenS, capS, nilP, exA, exB, exC, notB, cndT, cndF, Bool.not_true, Bool.not_false, Nat.zero_add, Nat.add_zero]
      exact fun hc => ⟨_, wk_refl hc, fun _ => k _⟩
end Go.Proofs.YthpacapdaembpaaDoor.A
open Go Go.RowKit Go.Proofs.YthpacapdaembpaaDoor.K Go.Proofs.YthpacapdaembpaaDoor.T
set_option linter.unusedVariables false
set_option linter.unusedSimpArgs false
namespace Go.Proofs.YthpacapdaembpaaDoor.A
variable {F F' : Nat → Option (List Value)} {M M' : Nat → Option Chunk} {N N' : Nat} {K : Kont} {E : PanK}
theorem wf_i64 {x : Int} (h : (Lit.int .i64 x).wf = true) : i64 x := by
  have h' : -9223372036854775808 ≤ x ∧ x ≤ 9223372036854775807 := by simpa [Lit.wf, IntKind.min, IntKind.max, IntKind.signed, IntKind.bits] using h
  exact h'
theorem rowsF_all {α : Type} {R : List Value → α → Prop} {sz : Nat} {rows : List (List Value)} {xs : List α} (h : rowsF R sz rows xs) : ∀ x ∈ xs, ∃ r, R r x := fun x hx => by
  obtain ⟨i, hi, rfl⟩ := List.mem_iff_getElem.1 hx
  obtain ⟨r, _, h2, _⟩ := h.get (List.getElem?_eq_getElem hi)
  exact ⟨r, h2⟩
theorem keyI {cs : List Value} {l : List Int} (h : rS 1 (rI .i64) F cs l) : ∃ v, cs = [v] ∧ sF F 1 v l.length (ic l) ∧ (∀ x ∈ l, i64 x) ∧ l.length ≤ 140737488351232 := by
  obtain ⟨v, rows, rfl, h2⟩ := h
  obtain ⟨h3, h4, h5⟩ := rS_ints ⟨v, rows, rfl, h2⟩
  exact ⟨v, rfl, h3, fun x hx => wf_i64 (h4 x hx), h5⟩
/-- Facts that come in. -/
theorem facts_of {v : Value} {y : List (List Int × Int)} (h : rS 2 (rP (rS 1 (rI .i64)) (rI .i64)) F [v] y) : fctsD F v y ∧ y.length ≤ 140737488351232 ∧ ∀ f ∈ y, (∀ x ∈ f.1, i64 x) ∧ i64 f.2 := by
  obtain ⟨v', rows, e, hv, hr, hl⟩ := h
  injection e with e _
  subst e
  have hr' : rowsF (fun r f => fctD F r f ∧ (∀ x ∈ f.1, i64 x) ∧ i64 f.2) 2 rows y := hr.mono fun r f ⟨c1, c2, e, ha, hb⟩ => by
    obtain ⟨u, rfl, h1, h2, h3⟩ := keyI ha
    obtain ⟨rfl, h4⟩ := hb
    exact ⟨⟨u, by rw [e]; rfl, h1, h3⟩, h2, wf_i64 h4⟩
  exact ⟨⟨rows, hv, hr'.mono fun _ _ h => h.1⟩, hl, fun f hf => by obtain ⟨r, h⟩ := rowsF_all hr' f hf; exact h.2⟩
theorem TableMakes_true (v : Value) {y : List (List Int × Int)} (W : World) (hv : rS 2 (rP (rS 1 (rI .i64)) (rI .i64)) (F0 W) [v] y) :
    Calls Tryd.prog 4 #[v] W fun e w' => e = .returned (.bool true) ∧ Below W.heap.size W w' :=
  have h := facts_of hv
  (calls0 (K := fun v => v = .bool true) (tableMakes_c h.1 h.2.1 (fun f hf => (h.2.2 f hf).1) fun _ => rfl)).mono fun e w' ⟨⟨v, he, hv⟩, hb⟩ => ⟨by rw [he, hv], hb⟩
end Go.Proofs.YthpacapdaembpaaDoor.A
open Go Go.RowKit Go.Proofs.YthpacapdaembpaaDoor.K Go.Proofs.YthpacapdaembpaaDoor.T
set_option linter.unusedVariables false
set_option linter.unusedSimpArgs false
namespace Go.Proofs.YthpacapdaembpaaDoor.A
variable {F F' : Nat → Option (List Value)} {M M' : Nat → Option Chunk} {N N' : Nat} {K : Kont} {E : PanK}
/-- A table as it comes in. -/
abbrev rCell : (Nat → Option (List Value)) → List Value → Int × Int × Int × Int → Prop := rP (rI .i64) (rP (rI .i64) (rP (rI .i64) (rI .i64)))
abbrev rRow : (Nat → Option (List Value)) → List Value → List Int × Int × Int × Int × Int → Prop := rP (rS 1 (rI .i64)) rCell
def toRw (y : List Int × Int × Int × Int × Int) : Rw := (y.1, ⟨y.2.1, y.2.2.1, y.2.2.2.1, y.2.2.2.2⟩)
theorem row_of {cs : List Value} {y : List Int × Int × Int × Int × Int} (h : rRow F cs y) : rowD F cs (toRw y) ∧ ∀ x ∈ y.1, i64 x := by
  obtain ⟨c1, c2, e, ha, c3, c4, e2, ⟨rfl, _⟩, c5, c6, e3, ⟨rfl, _⟩, c7, c8, e4, ⟨rfl, _⟩, ⟨rfl, _⟩⟩ := h
  obtain ⟨u, rfl, h1, h2, h3⟩ := keyI ha
  exact ⟨⟨u, by rw [e, e2, e3, e4]; rfl, h1, h3⟩, h2⟩
theorem all2_map {α β γ : Type} {R : α → γ → Prop} (f : β → γ) {xs : List α} {ys : List β} (h : all2 (fun a b => R a (f b)) xs ys) : all2 R xs (ys.map f) :=
  ⟨by simp [h.1], fun i x y hx hy => by
    rw [List.getElem?_map] at hy
    cases hb : ys[i]? with
    | none => rw [hb] at hy; cases hy
    | some b => rw [hb] at hy; simp at hy; subst hy; exact h.2 i x b hx hb⟩
theorem rowsF_map {α β : Type} {R : List Value → β → Prop} {sz : Nat} (f : α → β) {rows : List (List Value)} {xs : List α} (h : rowsF (fun r x => R r (f x)) sz rows xs) : rowsF R sz rows (xs.map f) := ⟨h.len, h.one, all2_map f h.all⟩
theorem table_of {v : Value} {y : List (List Int × Int × Int × Int × Int)} (h : rS 5 rRow F [v] y) : tblD F v (y.map toRw) ∧ (y.map toRw).length ≤ 140737488351232 ∧ ∀ r ∈ y.map toRw, ∀ x ∈ r.1, i64 x := by
  obtain ⟨v', rows, e, hv, hr, hl⟩ := h
  injection e with e _
  subst e
  have hr' : rowsF (fun r x => rowD F r (toRw x) ∧ ∀ z ∈ x.1, i64 z) 5 rows y := hr.mono fun r f h => row_of h
  refine ⟨⟨rows, by rw [List.length_map]; exact hv, rowsF_map toRw (hr'.mono fun _ _ h => h.1)⟩, by rw [List.length_map]; exact hl, fun r hr2 => ?_⟩
  obtain ⟨x, hx, rfl⟩ := List.mem_map.1 hr2
  obtain ⟨c, hc⟩ := rowsF_all hr' x hx
  exact hc.2
theorem fin_true {f : FuncId} {args : Array Value} {W : World} (h : call Tryd.prog f args (fun v _ => v = .bool true) (fun _ _ => False) (h0 W)) : Calls Tryd.prog f args W fun e w' => e = .returned (.bool true) ∧ Below W.heap.size W w' :=
  (calls0 (K := fun v => v = .bool true) h).mono fun e w' ⟨⟨v, he, hv⟩, hb⟩ => ⟨by rw [he, hv], hb⟩
theorem TableMerges_true (v0 v1 : Value) {y0 y1 : List (List Int × Int × Int × Int × Int)} (W : World) (h0 : rS 5 rRow (F0 W) [v0] y0) (h1 : rS 5 rRow (F0 W) [v1] y1) :
    Calls Tryd.prog 6 #[v0, v1] W fun e w' => e = .returned (.bool true) ∧ Below W.heap.size W w' :=
  have a := table_of h0
  have b := table_of h1
  fin_true (tableMerges_c a.1 b.1 a.2.1 b.2.1 a.2.2 b.2.2 fun _ => rfl)
theorem TableOne_true (v0 v1 : Value) {y0 y1 : List Int} (W : World) (h0 : rS 1 (rI .i64) (F0 W) [v0] y0) (h1 : rS 1 (rI .i64) (F0 W) [v1] y1) :
    Calls Tryd.prog 5 #[v0, v1] W fun e w' => e = .returned (.bool true) ∧ Below W.heap.size W w' := by
  obtain ⟨u, e0, a1, a2, a3⟩ := keyI h0
  obtain ⟨w, e1, b1, b2, b3⟩ := keyI h1
  injection e0 with e0 _; injection e1 with e1 _
  subst e0; subst e1
  exact fin_true (tableOne_c a1 b1 a3 b3 a2 fun _ => rfl)
end Go.Proofs.YthpacapdaembpaaDoor.A
open Go Go.RowKit Go.Proofs.YthpacapdaembpaaDoor.K Go.Proofs.YthpacapdaembpaaDoor.T
set_option linter.unusedVariables false
set_option linter.unusedSimpArgs false
namespace Go.Proofs.YthpacapdaembpaaDoor.A
variable {F F' : Nat → Option (List Value)} {M M' : Nat → Option Chunk} {N N' : Nat} {K : Kont} {E : PanK}
theorem wf_u16 {x : Int} (h : (Lit.int .u16 x).wf = true) : 0 ≤ x ∧ x < 65536 := by
  have h' : 0 ≤ x ∧ x ≤ 65535 := by simpa [Lit.wf, IntKind.min, IntKind.max, IntKind.signed, IntKind.bits] using h
  omega
theorem wf_u8 {x : Int} (h : (Lit.int .u8 x).wf = true) : 0 ≤ x ∧ x < 256 := by
  have h' : 0 ≤ x ∧ x ≤ 255 := by simpa [Lit.wf, IntKind.min, IntKind.max, IntKind.signed, IntKind.bits] using h
  omega
theorem listK {kk : IntKind} {cs : List Value} {l : List Int} (h : rS 1 (rI kk) F cs l) : ∃ v, cs = [v] ∧ sF F 1 v l.length (ick kk l) ∧ (∀ x ∈ l, (Lit.int kk x).wf = true) ∧ l.length ≤ 140737488351232 := by
  obtain ⟨v, rows, rfl, h2⟩ := h
  obtain ⟨h3, h4, h5⟩ := rS_ints ⟨v, rows, rfl, h2⟩
  exact ⟨v, rfl, h3, h4, h5⟩
theorem list_of {kk : IntKind} {v : Value} {l : List Int} (h : rS 1 (rI kk) F [v] l) : sF F 1 v l.length (ick kk l) ∧ (∀ x ∈ l, (Lit.int kk x).wf = true) ∧ l.length ≤ 140737488351232 := by
  obtain ⟨u, e, h⟩ := listK h
  injection e with e _
  subst e; exact h
theorem lists_of {kk : IntKind} {v : Value} {ls : List (List Int)} (h : rS 1 (rS 1 (rI kk)) F [v] ls) : kksD kk F v ls ∧ ls.length ≤ 140737488351232 ∧ ∀ l ∈ ls, ∀ x ∈ l, (Lit.int kk x).wf = true := by
  obtain ⟨v', rows, e, hv, hr, hl⟩ := h
  injection e with e _
  subst e
  have hr' : rowsF (fun r c => (∃ u, r = [u] ∧ sF F 1 u c.length (ick kk c) ∧ c.length ≤ 140737488351232) ∧ ∀ x ∈ c, (Lit.int kk x).wf = true) 1 rows ls := hr.mono fun r c h => by
    obtain ⟨u, rfl, h1, h2, h3⟩ := listK h
    exact ⟨⟨u, rfl, h1, h3⟩, h2⟩
  exact ⟨⟨rows, hv, hr'.mono fun _ _ h => h.1⟩, hl, fun l hl => by obtain ⟨r, h⟩ := rowsF_all hr' l hl; exact h.2⟩
abbrev rCut : (Nat → Option (List Value)) → List Value → Int × List Int → Prop := rP (rI .u16) (rS 1 (rI .u8))
theorem cuts_of {v : Value} {y : List (Int × List Int)} (h : rS 2 rCut F [v] y) : cutsD F v y ∧ y.length ≤ 140737488351232 ∧ ∀ c ∈ y, (0 ≤ c.1 ∧ c.1 < 65536) ∧ ∀ x ∈ c.2, 0 ≤ x ∧ x < 256 := by
  obtain ⟨v', rows, e, hv, hr, hl⟩ := h
  injection e with e _
  subst e
  have hr' : rowsF (fun r f => cutD F r f ∧ (0 ≤ f.1 ∧ f.1 < 65536) ∧ ∀ x ∈ f.2, 0 ≤ x ∧ x < 256) 2 rows y := hr.mono fun r f ⟨c1, c2, e, ⟨ha, hb⟩, hc⟩ => by
    obtain ⟨u, rfl, h1, h2, h3⟩ := listK hc
    exact ⟨⟨u, by rw [e, ha]; rfl, h1, h3⟩, wf_u16 hb, fun x hx => wf_u8 (h2 x hx)⟩
  exact ⟨⟨rows, hv, hr'.mono fun _ _ h => h.1⟩, hl, fun c hc => by obtain ⟨r, h⟩ := rowsF_all hr' c hc; exact h.2⟩
theorem TableSounds_true (v0 : Value) (a1 : Int) (v2 v3 v4 : Value) {y0 : List (List Int × Int × Int × Int × Int)} {y2 : List (Int × List Int)} {y3 : List (List Int)} {y4 : List Int} (W : World) (h0 : rS 5 rRow (F0 W) [v0] y0) (w1 : (Lit.int .i64 a1).wf = true) (h2 : rS 2 rCut (F0 W) [v2] y2) (h3 : rS 1 (rS 1 (rI .u16)) (F0 W) [v3] y3) (h4 : rS 1 (rI .i64) (F0 W) [v4] y4) :
    Calls Tryd.prog 3 #[v0, .int .i64 a1, v2, v3, v4] W fun e w' => e = .returned (.bool true) ∧ Below W.heap.size W w' :=
  have a := table_of h0
  have b := cuts_of h2
  have c := lists_of h3
  have d := list_of h4
  fin_true (tableSounds_c a.1 a.2.1 b.1 b.2.1 b.2.2 c.1 c.2.1 (fun l hl x hx => wf_u16 (c.2.2 l hl x hx)) d.1 d.2.2 (fun x hx => wf_i64 (d.2.1 x hx)) fun _ => rfl)
end Go.Proofs.YthpacapdaembpaaDoor.A
open Go Go.RowKit Go.Proofs.YthpacapdaembpaaDoor.K Go.Proofs.YthpacapdaembpaaDoor.T
set_option linter.unusedVariables false
set_option linter.unusedSimpArgs false
namespace Go.Proofs.YthpacapdaembpaaDoor.A
variable {F F' : Nat → Option (List Value)} {M M' : Nat → Option Chunk} {N N' : Nat} {K : Kont} {E : PanK}
theorem TableOrder_true (v0 v1 v2 : Value) (a3 : Int) {y0 : List (Int × List Int)} {y1 : List (List Int)} {y2 : List Int} (W : World) (h0 : rS 2 rCut (F0 W) [v0] y0) (h1 : rS 1 (rS 1 (rI .u16)) (F0 W) [v1] y1) (h2 : rS 1 (rI .i64) (F0 W) [v2] y2) (w3 : (Lit.int .i64 a3).wf = true) :
    Calls Tryd.prog 7 #[v0, v1, v2, .int .i64 a3] W fun e w' => e = .returned (.bool true) ∧ Below W.heap.size W w' :=
  have b := cuts_of h0
  have c := lists_of h1
  have d := list_of h2
  fin_true (tableOrder_c (wf_i64 w3) b.1 b.2.1 b.2.2 c.1 c.2.1 (fun l hl x hx => wf_u16 (c.2.2 l hl x hx)) d.1 d.2.2 (fun x hx => wf_i64 (d.2.1 x hx)) fun _ => rfl)
end Go.Proofs.YthpacapdaembpaaDoor.A
