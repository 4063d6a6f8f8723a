import Derived.Test.YthpacapdaembpaaDoorZ3
import Derived.Test.YthpacapdaembpaaDoorProg
import Derived.Test.YthpacapdaembpaaDoorZ1
import Derived.Test.YthpacapdaembpaaDoorZ2
open Go Go.RowKit Go.Proofs.YthpacapdaembpaaDoor.K Go.Proofs.YthpacapdaembpaaDoor.T
set_option linter.unusedVariables false
set_option linter.unusedSimpArgs false
namespace Go.Proofs.YthpacapdaembpaaDoor.A
variable {F F' : Nat → Option (List Value)} {M M' : Nat → Option Chunk} {N N' : Nat} {K : Kont} {E : PanK}
/-- slices.Grow of no rows. -/
theorem grow_c {n : Nat} (hm : clean M N) (hn : n ≤ 1000000000000) (k : ∀ v' M' N', own M' N 43 5 v' 0 [] → (∀ q, q < N → M' q = M q) → N ≤ N' → clean M' N' → (Hp.mk F M' N').wf → K v' ⟨F, M', N'⟩) :
    callv Tryd.prog (.func (.func 83) #[] #[]) #[.slice none 0 0, .int .i64 (n : Nat)] K E ⟨F, M, N⟩ := by
  refine callv_of_text mixed Tryd.func83 (by kernel_rfl) (t83 _ E _ _) (fun hw => ?_)
  refine lss_f (by omega) ?_
  try simp only [gdTT, gdFF, gdTF, gdFT, pvS, pickT, pickF, faP, lenS, capS, nilP, exA, exB, exC, notB, cndT, cndF, Bool.not_true, Bool.not_false, Nat.zero_add, Nat.add_zero]
  rw [t83_1_1]
  try simp only [gdTT, gdFF, gdTF, gdFT, pvS, pickT, pickF, faP, lenS, capS, nilP, exA, exB, exC, notB, cndT, cndF, Bool.not_true, Bool.not_false, Nat.zero_add, Nat.add_zero]
  refine sub_n (a := 0) (b := 0) (by omega) (by omega) ?_
  refine sub_n (a := n) (b := 0) (by omega) (by omega) ?_
  rw [Nat.sub_zero]
  refine gtr_r (fun h0 => ?_) (fun h0 => ?_)
  · try simp only [gdTT, gdFF, gdTF, gdFT, pvS, pickT, pickF, faP, lenS, capS, nilP, exA, exB, exC, notB, cndT, cndF, Bool.not_true, Bool.not_false, Nat.zero_add, Nat.add_zero]
    refine sl_r 0 0 0 (Nat.le_refl _) (Nat.le_refl _) (Nat.le_refl _) ?_
    refine ⟨none, 0, 0, [], n, .i64, rfl, rfl, ⟨by simp, .inl ⟨_, _, rfl, rfl⟩⟩, Nat.le_refl _, by omega, by omega, by simp [maxLen]; omega, fun b c hb0 hc hcm => ?_⟩
    have hb : N ≤ b := hb0
    try simp only [gdTT, gdFF, gdTF, gdFT, pvS, pickT, pickF, faP, lenS, capS, nilP, exA, exB, exC, notB, cndT, cndF, Bool.not_true, Bool.not_false, Nat.zero_add, Nat.add_zero]
    refine sl_pre 0 (Nat.zero_le _) ?_
    try simp only [gdTT, gdFF, gdTF, gdFT, pvS, pickT, pickF, faP, lenS, capS, nilP, exA, exB, exC, notB, cndT, cndF, Bool.not_true, Bool.not_false, Nat.zero_add, Nat.add_zero]
    rw [t83_1_1_1]
    refine fun hc' => ⟨_, wk_refl hc', fun hw' => k _ _ _ ⟨by simp, .inr ⟨b, c, _, rfl, Nat.zero_le _, hcm, hb, upd_same _ _ _⟩⟩ (fun q hq => upd_ne _ _ (by omega)) (Nat.le_succ_of_le hb) (hm.new hb _) hw'⟩
  · try simp only [gdTT, gdFF, gdTF, gdFT, pvS, pickT, pickF, faP, lenS, capS, nilP, exA, exB, exC, notB, cndT, cndF, Bool.not_true, Bool.not_false, Nat.zero_add, Nat.add_zero]
    rw [t83_1_1_1]
    exact fun hc' => ⟨_, wk_refl hc', fun hw' => k _ _ _ own.nil (fun _ _ => rfl) (Nat.le_refl _) hm hw'⟩
/-- Tables in a row. -/
def tblsD (F : Nat → Option (List Value)) (v : Value) (ts : List (List Rw)) : Prop := ∃ rows, sF F 1 v ts.length rows.flatten ∧ rowsF (fun r t => ∃ u, r = [u] ∧ tblD F u t ∧ t.length ≤ 140737488351232) 1 rows ts
theorem tblsD.mono {v : Value} {ts : List (List Rw)} (h : tblsD F v ts) (hF : subF F F') : tblsD F' v ts := let ⟨rows, h1, h2⟩ := h; ⟨rows, h1.mono hF, h2.mono fun _ _ ⟨u, e, h, l⟩ => ⟨u, e, h.mono hF, l⟩⟩
/-- ts[i] -/
theorem tbl_r {v : Value} {ts : List (List Rw)} {K : Value → Kont} (hv : tblsD F v ts) {i : Nat} (hi : i < ts.length) (k : ∀ p u, tblD F u ts[i] → ts[i].length ≤ 140737488351232 → K p u ⟨F, M, N⟩) : pv (iaV none 1 v (.int .i64 (i : Nat))) (fun p => ld false 1 p (K p)) ⟨F, M, N⟩ := by
  obtain ⟨rows, h1, h2⟩ := hv
  obtain ⟨b, o, c, cs, r, rfl, hF, _, ⟨u, rfl, hu, hul⟩, hl, _, hle, ht, hj⟩ := row_at h1 h2 (by decide) hi
  exact iaN_r hi (ld_r (ldV_c (row_F hF) (hj 0 (by decide))) (k _ _ hu hul))
theorem flat_take {α : Type} (l : List (List α)) {i : Nat} (h : i < l.length) : (l.take (i + 1)).flatten = (l.take i).flatten ++ l[i] := by
  rw [List.take_add_one, List.getElem?_eq_getElem h, Option.toList_some, List.flatten_append]; simp
/-- slices.Concat of tables. -/
theorem concat_c {v : Value} {ts : List (List Rw)} (hv : tblsD F v ts) (hl : ts.flatten.length ≤ 1000000000) (htl : ts.length ≤ 1000000000) (k : ∀ v' F' N', (Hp.mk F' M N').wf → subF F F' → N ≤ N' → tblD F' v' ts.flatten → K v' ⟨F', M, N'⟩) :
    callv Tryd.prog (.func (.func 55) #[] #[]) #[v] K E ⟨F, M, N⟩ := by
  refine callv_of_text mixed Tryd.func55 (by kernel_rfl) (t55 _ E _) (fun hw => ?_)
  have hm : clean M N := hw.m
  have hlv : lenV v = some (.int .i64 (ts.length : Nat)) := by obtain ⟨rows, h1, _⟩ := hv; obtain ⟨a, c, rfl, _⟩ := h1.form; rfl
  have hfl : ∀ i, i ≤ ts.length → (ts.take i).flatten.length ≤ ts.flatten.length := fun i hi => by
    have h := congrArg List.flatten (List.take_append_drop i ts)
    rw [List.flatten_append] at h
    have := congrArg List.length h
    rw [List.length_append] at this
    omega
  simp only [hlv]
  try simp only [gdTT, gdFF, gdTF, gdFT, pvS, pickT, pickF, faP, lenS, capS, nilP, exA, exB, exC, notB, cndT, cndF, Bool.not_true, Bool.not_false, Nat.zero_add, Nat.add_zero]
  refine l55_1_1_0_1_0_0 (σ := Nat) (fun i => .int .i64 ((ts.take i).flatten.length : Nat)) (fun i => .int .i64 (i : Nat)) (fun i h => h = ⟨F, M, N⟩ ∧ i ≤ ts.length) (fun i => ts.length - i) 0 rfl rfl
    (fun hw1 => ⟨_, wk_refl hw1, rfl, Nat.zero_le _⟩) (fun k1 i j h1 hI hw1 next => ?_)
  obtain ⟨rfl, hi⟩ := hI
  refine lss_r (fun hlt => ?_) (fun hge => ?_)
  · have h1 : i < ts.length := by omega
    try simp only [gdTT, gdFF, gdTF, gdFT, pvS, pickT, pickF, faP, lenS, capS, nilP, exA, exB, exC, notB, cndT, cndF, Bool.not_true, Bool.not_false, Nat.zero_add, Nat.add_zero]
    refine tbl_r hv h1 fun p u hu hul => ?_
    obtain ⟨a, c, rfl⟩ := hu.form
    have h2 := hfl (i + 1) h1
    have e := flat_take ts h1
    rw [e, List.length_append] at h2
    try simp only [gdTT, gdFF, gdTF, gdFT, pvS, pickT, pickF, faP, lenS, capS, nilP, exA, exB, exC, notB, cndT, cndF, Bool.not_true, Bool.not_false, Nat.zero_add, Nat.add_zero]
    refine add_n (by omega) (lss_f (by omega) ?_)
    try simp only [gdTT, gdFF, gdTF, gdFT, pvS, pickT, pickF, faP, lenS, capS, nilP, exA, exB, exC, notB, cndT, cndF, Bool.not_true, Bool.not_false, Nat.zero_add, Nat.add_zero]
    rw [t55_1_1_0_1_0_0_1_1_1]
    refine inc_r (by omega) ?_
    rw [← List.length_append, ← e]
    exact next (i + 1) _ _ (by omega) (fun hw2 => ⟨_, wk_refl hw2, rfl, h1⟩)
  · try simp only [gdTT, gdFF, gdTF, gdFT, pvS, pickT, pickF, faP, lenS, capS, nilP, exA, exB, exC, notB, cndT, cndF, Bool.not_true, Bool.not_false, Nat.zero_add, Nat.add_zero]
    rw [t55_1_1_1]
    rw [List.take_of_length_le (by omega)]
    refine grow_c hm (by omega) (fun u M1 N1 ho hM1 hN1 hm1 hw1 => ?_)
    simp only [hlv]
    try simp only [gdTT, gdFF, gdTF, gdFT, pvS, pickT, pickF, faP, lenS, capS, nilP, exA, exB, exC, notB, cndT, cndF, Bool.not_true, Bool.not_false, Nat.zero_add, Nat.add_zero]
    refine l55_1_1_1_1_0_1_0_0 (σ := Nat × Value) (fun s => s.2) (fun s => .int .i64 (s.1 : Nat))
      (fun s h => ∃ M' N' rows, h = ⟨F, M', N'⟩ ∧ N ≤ N' ∧ (∀ q, q < N → M' q = M q) ∧ clean M' N' ∧ s.1 ≤ ts.length ∧ own M' N 43 5 s.2 (ts.take s.1).flatten.length rows.flatten ∧ rowsF (rowD F) 5 rows (ts.take s.1).flatten) (fun s => ts.length - s.1) (0, u) rfl rfl
      (fun hw2 => ⟨_, wk_refl hw2, M1, N1, [], rfl, hN1, hM1, hm1, Nat.zero_le _, ho, rowsF.nil _ _⟩) (fun k1 s j h1 hI hw2 next => ?_)
    obtain ⟨M2, N2, rows, rfl, hN2, hM2, hm2, hi, ho2, hr2⟩ := hI
    refine lss_r (fun hlt => ?_) (fun hge => ?_)
    · have h1 : s.1 < ts.length := by omega
      try simp only [gdTT, gdFF, gdTF, gdFT, pvS, pickT, pickF, faP, lenS, capS, nilP, exA, exB, exC, notB, cndT, cndF, Bool.not_true, Bool.not_false, Nat.zero_add, Nat.add_zero]
      refine tbl_r hv h1 fun p w hwt hwl => ?_
      obtain ⟨rows3, hw3, hr3⟩ := hwt
      have h2 := hfl (s.1 + 1) h1
      have e := flat_take ts h1
      rw [e, List.length_append] at h2
      refine ho2.app hm2 hN2 hw3.sR hr3.f1 (by omega) (by unfold maxLen; omega) (fun w' M3 N3 h4 h5 h6 h7 => ?_)
      refine inc_r (by omega) ?_
      refine next (s.1 + 1, w') _ _ (by simp only; omega) (fun hw4 => ⟨_, wk_refl hw4, M3, N3, rows ++ rows3, rfl, by omega, fun q hq => ?_, h7, h1, ?_, ?_⟩)
      · have q1 : s.2.ownBlock ≠ some q := fun e => by have := (ho2.ge q e).1; omega
        exact ((h5 q q1 (by omega)).1).trans (hM2 q hq)
      · simp only
        rw [e, List.length_append, List.flatten_append]; exact h4
      · simp only
        rw [e]; exact rows_app hr2 hr3
    · try simp only [gdTT, gdFF, gdTF, gdFT, pvS, pickT, pickF, faP, lenS, capS, nilP, exA, exB, exC, notB, cndT, cndF, Bool.not_true, Bool.not_false, Nat.zero_add, Nat.add_zero]
      rw [t55_1_1_1_1_1]
      rw [List.take_of_length_le (by omega)] at ho2 hr2
      exact fun hc => ⟨_, frz_wf hm hM2 hc, fun hw' => k _ _ _ hw' (subF_frzAll hc) hN2 (tbl_frz hc ho2 hr2)⟩
theorem same_key_c {v : Value} {h : Hp} (k : h.wf → K v h) : callv Tryd.prog (.func (.func 56) #[] #[]) #[v] K E h := by
  obtain ⟨F, M, N⟩ := h
  exact callv_of_text mixed Tryd.func56 (by kernel_rfl) (t56 _ E _) (fun hw hc => ⟨_, wk_refl hc, k⟩)
/-- table.of; f tells what a key becomes. -/
theorem tof_c {v fv : Value} {l : List Rw} {f : List Int → List Int} (hv : tblD F v l) (hl : l.length ≤ 1000000000) (hk : ∀ r ∈ l, okK (f r.1))
    (hf : ∀ {K : Kont} (F1 : Nat → Option (List Value)) (M1 : Nat → Option Chunk) (N1 : Nat) (r : Rw) (kv : Value), r ∈ l → subF F F1 → (∀ q, q < N → M1 q = M q) → N ≤ N1 → clean M1 N1 → sF F1 1 kv r.1.length (ic r.1) → r.1.length ≤ 140737488351232 →
      (∀ v' F' N', (Hp.mk F' M1 N').wf → subF F1 F' → N1 ≤ N' → sF F' 1 v' (f r.1).length (ic (f r.1)) → K v' ⟨F', M1, N'⟩) → callv Tryd.prog fv #[kv] K E ⟨F1, M1, N1⟩)
    (k : ∀ v' F' N', (Hp.mk F' M N').wf → subF F F' → N ≤ N' → tblD F' v' (tab (l.map fun r => (f r.1, r.2))) → K v' ⟨F', M, N'⟩) :
    callv Tryd.prog (.func (.func 54) #[] #[]) #[v, fv] K E ⟨F, M, N⟩ := by
  refine callv_of_text mixed Tryd.func54 (by kernel_rfl) (t54 _ E _ _) (fun hw => ?_)
  have hm : clean M N := hw.m
  refine blank_c (fun g bm N1 hbm hg hN1 hw1 => ?_)
  obtain ⟨trs, hvs, hrs⟩ := hv
  refine lenF_r hvs ?_
  refine l54_1_1_0_1_0_0 (σ := Nat) (fun i => .int .i64 (i : Nat))
    (fun i h => ∃ F' M' N' v' rows, h = ⟨F', M', N'⟩ ∧ subF F F' ∧ N ≤ N' ∧ (∀ q, q < N → M' q = M q) ∧ clean M' N' ∧ i ≤ l.length ∧ isSheet F' M' N g bm v' rows (sheet ((l.take i).map fun r => (f r.1, r.2)))) (fun i => l.length - i) 0 rfl
    (fun hwx => ⟨_, wk_refl hwx, F, _, N1, .slice none 0 0, [], rfl, subF.refl _, by omega, fun q hq => (upd_ne _ _ (by omega)).trans (upd_ne _ _ (by omega)), hw1.m, Nat.zero_le _,
      ⟨upd_same _ _ _, by omega, hbm, ⟨#[], 0, (upd_ne _ _ (by omega)).trans (upd_same _ _ _), by simp [mapOK, sheet]⟩, own.nil, rowsF.nil _ _, .nil⟩⟩) (fun k1 i j h1 hI hwx next => ?_)
  obtain ⟨F1, M1, N2, v1, rows, rfl, hF1, hN2, hM1, hm1, hi, hS⟩ := hI
  have hsl : ∀ i, (sheet ((l.take i).map fun r => (f r.1, r.2))).length ≤ 1000000000 := fun i => by
    have : ∀ (m : List Rw) (s : List Rw), (m.foldl (fun t r => layP t r.1 r.2) s).length ≤ s.length + m.length := by
      intro m
      induction m with
      | nil => intro s; simp
      | cons r m ih => intro s; have := ih (layP s r.1 r.2); have h2 := layP_len s r.1 r.2; simp at this ⊢; omega
    have h3 := this ((l.take i).map fun r => (f r.1, r.2)) []
    unfold sheet
    rw [List.length_map, List.length_take] at h3
    simp at h3 ⊢; omega
  refine lss_r (fun hlt => ?_) (fun hge => ?_)
  · have hlt' : i < l.length := by omega
    refine cnd_t ?_
    refine row_r (hvs.mono hF1) (hrs.mono fun _ _ h => h.mono hF1) (by decide) hlt' (fun p r _ hR hrl hr1 => ?_)
    obtain ⟨kv, hre, hkv, hkl⟩ := hR
    subst hre
    refine nw_r (fun b1 hb1 => ?_)
    refine stM (cs' := kv :: l[i].2.cs) ?_ (upd_same _ _ _) rfl rfl hr1
    refine pv_r rfl (ldM (v := kv) (pv_r rfl (ldMa (vs := l[i].2.cs) ?_)))
    rw [upd_upd]
    refine hf F1 _ _ l[i] kv (List.getElem_mem _) hF1 (fun q hq => (upd_ne _ _ (by omega)).trans (hM1 q hq)) (by omega) (hm1.new hb1 _) hkv hkl (fun v2 F2 N3 hw3 hF2 hN3 hv2 => ?_)
    refine ⟨ldV_a (row_M (upd_same _ _ _)) (by exact Nat.le_of_ble_eq_true rfl) rfl, ?_⟩
    have hok := hk l[i] (List.getElem_mem _)
    refine lay_c (hS.keep hF2 (upd_keep hm1 hb1 _)) hw3.m (by omega) hv2 (Nat.le_trans hok.1 (by decide)) hok.2 (by have := hsl i; omega) (fun F4 M4 N4 v4 rows4 hF4 hN4 hS4 hM4 hm4 hw4 => ?_)
    refine inc_r (by omega) ?_
    refine next (i + 1) _ _ (by omega) (fun hw5 => ⟨_, wk_refl hw5, F4, M4, N4, v4, rows4, rfl, (hF1.trans hF2).trans hF4, by omega, fun q hq => (hM4 q hq).trans ((upd_ne _ _ (by omega)).trans (hM1 q hq)), hm4, by omega, ?_⟩)
    rw [List.take_add_one, List.getElem?_eq_getElem hlt', Option.toList_some, List.map_append, List.map_singleton, sheet_snoc]
    exact hS4
  · refine cnd_f ?_
    rw [t54_1_1_1]
    have e : l.take i = l := List.take_of_length_le (by omega)
    have hs2 := hsl i
    rw [e] at hS hs2
    refine sorted_c hS hm1 (by omega) (fun M4 N4 rows4 t' hN4 ho4 hr4 hp hs hM4 hm4 hw4 hc => ?_)
    rw [sheet_sorted hp hs] at ho4 hr4
    have hMM : ∀ q, q < N → M4 q = M q := fun q hq => (hM4 q hq).trans (hM1 q hq)
    exact ⟨_, frz_wf hm hMM hc, fun hw' => k v1 _ N4 hw' (hF1.trans (subF_frzAll hc)) (by omega) (tbl_frz hc ho4 hr4)⟩
end Go.Proofs.YthpacapdaembpaaDoor.A
open Go Go.RowKit Go.Proofs.YthpacapdaembpaaDoor.K Go.Proofs.YthpacapdaembpaaDoor.T
set_option linter.unusedVariables false
set_option linter.unusedSimpArgs false
namespace Go.Proofs.YthpacapdaembpaaDoor.A
variable {F F' : Nat → Option (List Value)} {M M' : Nat → Option Chunk} {N N' : Nat} {K : Kont} {E : PanK}
/-- An element more: its cells are built, then appended. -/
theorem push_r {B : Nat} {e : TypeId} {sz bytes n : Nat} {v : Value} {cs : List Value} {cells : Option (Array Value)} {new : List Value} {K : Value → Kont} (h : own M B e sz v n cs) (hm : clean M N) (hB : B ≤ N) (hc : cells = some new.toArray) (hl : new.length = sz) (h1 : ∀ c ∈ new, c.oneCell' = true) (hb : (n + 1) * bytes ≤ 140737488355328) (hn : n + 1 ≤ maxLen)
    (k : ∀ p v' M' N', own M' B e sz v' (n + 1) (cs ++ new) → fr M M' N v v' → N ≤ N' → clean M' N' → K p v' ⟨F, M', N'⟩) : nws e 1 cells (fun t => appX e sz bytes v t (K t)) ⟨F, M, N⟩ := by
  refine nws_r (cs := new) hc (fun b hb' => ?_)
  have hbne : v.ownBlock ≠ some b := fun e => by have := h.lt hm b e; omega
  have h2 : own (upd M b (some (.cells e new new.length))) B e sz v n cs := h.keep (fun q hq => upd_ne _ _ (fun e => hbne (e ▸ hq))) (Nat.le_refl _)
  refine h2.app (m := 1) (news := new) (hm.new hb' _) (by omega) ⟨by omega, .inr ⟨b, 0, 1, _, rfl, Nat.le_refl _, .inr ⟨_, _, upd_same _ _ _⟩, by rw [List.drop_zero, List.take_of_length_le (by omega)]⟩⟩ h1 hb hn (fun v' M' N' h3 h4 h5 h6 => ?_)
  exact k _ v' M' N' h3 (fun q hq hqN => ⟨((h4 q hq (by omega)).1).trans (upd_ne _ _ (by omega)), (h4 q hq (by omega)).2⟩) (by omega) h6
/-- table.Merge -/
theorem tmerge_c {u v : Value} {a b : List Rw} (hu : tblD F u a) (hv : tblD F v b) (hl : a.length + b.length ≤ 1000000000) (hk : ∀ r ∈ a ++ b, okK r.1)
    (k : ∀ v' F' N', (Hp.mk F' M N').wf → subF F F' → N ≤ N' → tblD F' v' (tab (a ++ b)) → K v' ⟨F', M, N'⟩) :
    callv Tryd.prog (.func (.func 27) #[] #[]) #[u, v] K E ⟨F, M, N⟩ := by
  refine callv_of_text mixed Tryd.func27 (by kernel_rfl) (t27 _ E _ _) (fun hw => ?_)
  have hm : clean M N := hw.m
  have hv' := hv; have hu' := hu
  obtain ⟨ua, uc, rfl⟩ := hu'.form
  obtain ⟨va, vc, rfl⟩ := hv'.form
  refine nws_r (cs := [.slice ua a.length uc, .slice va b.length vc]) (by kernel_rfl) (fun b1 hb1 => ?_)
  refine callv_go (fun hc => ⟨_, frz_wf hm (fun q hq => upd_ne _ _ (by omega)) hc, ?_⟩)
  have hs := subF_frzAll (N := N) hc
  have f1 := frz_at (F := F) (N := N) hb1 (upd_same M b1 (some (.cells 22 [.slice ua a.length uc, .slice va b.length vc] [Value.slice ua a.length uc, .slice va b.length vc].length)))
  have hts : tblsD (frzAll F (upd M b1 (some (.cells 22 [.slice ua a.length uc, .slice va b.length vc] [Value.slice ua a.length uc, .slice va b.length vc].length))) N) (.slice (some ⟨b1, 0, none⟩) 2 2) [a, b] := by
    refine ⟨[[.slice ua a.length uc], [.slice va b.length vc]], sF_lit f1 rfl (by decide), ?_⟩
    have h0 := rowsF.nil (fun (r : List Value) (t : List Rw) => ∃ u, r = [u] ∧ tblD (frzAll F (upd M b1 (some (.cells 22 [.slice ua a.length uc, .slice va b.length vc] [Value.slice ua a.length uc, .slice va b.length vc].length))) N) u t ∧ t.length ≤ 140737488351232) 1
    exact (h0.snoc rfl (List.all_eq_true.1 rfl) ⟨_, rfl, hu'.mono hs, by omega⟩).snoc rfl (List.all_eq_true.1 rfl) ⟨_, rfl, hv'.mono hs, by omega⟩
  have e : [a, b].flatten = a ++ b := by simp
  refine concat_c hts (by rw [e, List.length_append]; exact hl) (by simp) (fun w F2 N2 hw2 hF2 hN2 ht => ?_)
  rw [e] at ht
  refine tof_c (f := id) ht (by rw [List.length_append]; exact hl) (fun r hr => hk r hr) (fun F3 M3 N3 r kv _ _ _ _ hm3 hkv _ hK => same_key_c fun hw3 => hK kv F3 N3 hw3 (subF.refl _) (Nat.le_refl _) hkv) (fun v' F' N' hw' hF hN ht' hc => ⟨_, wk_refl hc, fun hw'' => k v' F' N' hw'' ((hs.trans hF2).trans hF) (by omega) ?_⟩)
  rw [show (fun r : Rw => (id r.1, r.2)) = id from rfl, List.map_id] at ht'; exact ht'
/-- TableMerges -/
theorem tableMerges_c {u v : Value} {a b : List Rw} (hu : tblD F u a) (hv : tblD F v b) (hla : a.length ≤ 140737488351232) (hlb : b.length ≤ 140737488351232) (hka : ∀ r ∈ a, ∀ x ∈ r.1, i64 x) (hkb : ∀ r ∈ b, ∀ x ∈ r.1, i64 x) (k : ∀ h, K (.bool true) h) :
    call Tryd.prog 6 #[u, v] K E ⟨F, M, N⟩ := by
  refine call_text mixed Tryd.func6 (by kernel_rfl) (t6 _ E _ _) (fun hw => ?_)
  have fcn : ∀ {F : Nat → Option (List Value)}, fctsD F (.slice none 0 0) [] := ⟨[], sF.nil _ _ _, rowsF.nil _ _⟩
  have kn : ∀ {M : Nat → Option Chunk} {F : Nat → Option (List Value)} {N : Nat}, callv Tryd.prog (.func (.func 18) #[] #[]) #[] (fun v h => h.wf → ∃ h', h.wk h' ∧ (h'.wf → K v h')) E ⟨F, M, N⟩ := known_c (fun F' N' _ _ _ hc => ⟨_, wk_refl hc, fun _ => k _⟩)
  refine heavy_c hu fcn hla (by decide) (fun r1 hr1 => ?_)
  cases r1 with
  | true => try simp only [gdTT, gdFF, gdTF, gdFT, pvS, pickT, pickF, faP, lenS, capS, nilP, exA, exB, exC, notB, cndT, cndF, Bool.not_true, Bool.not_false, Nat.zero_add, Nat.add_zero]; exact kn
  | false =>
  try simp only [gdTT, gdFF, gdTF, gdFT, pvS, pickT, pickF, faP, lenS, capS, nilP, exA, exB, exC, notB, cndT, cndF, Bool.not_true, Bool.not_false, Nat.zero_add, Nat.add_zero]
  refine heavy_c hv fcn hlb (by decide) (fun r2 hr2 => ?_)
  cases r2 with
  | true => try simp only [gdTT, gdFF, gdTF, gdFT, pvS, pickT, pickF, faP, lenS, capS, nilP, exA, exB, exC, notB, cndT, cndF, Bool.not_true, Bool.not_false, Nat.zero_add, Nat.add_zero]; exact kn
  | false =>
  obtain ⟨h1, _, h2⟩ := hr1 rfl
  obtain ⟨h3, _, h4⟩ := hr2 rfl
  have hok : ∀ r ∈ a ++ b, okK r.1 := fun r hr => by
    rcases List.mem_append.1 hr with hr | hr
    · exact ⟨by have := wt_mem (List.mem_map_of_mem (f := (·.1)) hr); omega, hka r hr⟩
    · exact ⟨by have := wt_mem (List.mem_map_of_mem (f := (·.1)) hr); omega, hkb r hr⟩
  try simp only [gdTT, gdFF, gdTF, gdFT, pvS, pickT, pickF, faP, lenS, capS, nilP, exA, exB, exC, notB, cndT, cndF, Bool.not_true, Bool.not_false, Nat.zero_add, Nat.add_zero]
  refine known_c (fun F1 N1 hF1 hN1 hw1 => ?_)
  try simp only [gdTT, gdFF, gdTF, gdFT, pvS, pickT, pickF, faP, lenS, capS, nilP, exA, exB, exC, notB, cndT, cndF, Bool.not_true, Bool.not_false, Nat.zero_add, Nat.add_zero]
  refine tmerge_c (hu.mono hF1) (hv.mono hF1) (by omega) hok (fun w F2 N2 hw2 hF2 hN2 hw => ?_)
  refine rMerge_c ((hu.mono hF1).mono hF2) ((hv.mono hF1).mono hF2) (by omega) (fun r hr => (hok r hr).1) (fun w' F3 N3 hw3 hF3 hN3 hw' => ?_)
  refine same_c (hw.mono hF3) hw' (by have := tab_len (a ++ b); simp at this; omega) ?_
  rw [decide_eq_true rfl]
  exact fun hc => ⟨_, wk_refl hc, fun _ => k _⟩
/-- All, of the reference -/
def allC (l : List Int) : CE := l.foldl (fun c x => c.rmerge (ofC x)) ⟨0, 0, 0, 0⟩
theorem rall_c {v : Value} {l : List Int} (hv : sF F 1 v l.length (ic l)) (hl : l.length ≤ 140737488351232) (k : ∀ N', N ≤ N' → (Hp.mk F M N').wf → K (.agg (allC l).cs.toArray) ⟨F, M, N'⟩) :
    callv Tryd.prog (.func (.func 26) #[] #[]) #[v] K E ⟨F, M, N⟩ := by
  refine callv_of_text mixed Tryd.func26 (by kernel_rfl) (t26 _ E _) (fun hw => ?_)
  have hm : clean M N := hw.m
  have hlv : lenV v = some (.int .i64 (l.length : Nat)) := by obtain ⟨a, c, rfl, _⟩ := hv.form; rfl
  refine nw_r (fun b1 hb1 => ?_)
  refine pv_r (v := .agg (CE.mk 0 0 0 0).cs.toArray) (by kernel_rfl) ?_
  refine nw_r (fun b2 hb2 => ?_)
  refine stM (cs' := (CE.mk 0 0 0 0).cs) ?_
  refine l26_1_1_0_1_0_0 (σ := Nat) (fun i => .int .i64 (i : Nat))
    (fun i h => ∃ N', h = ⟨F, upd (upd M b1 (some (.cells 41 (CE.mk 0 0 0 0).cs 4))) b2 (some (.cells 41 (allC (l.take i)).cs 4)), N'⟩ ∧ b2 < N' ∧ i ≤ l.length) (fun i => l.length - i) 0 rfl
    (fun hw1 => ⟨_, wk_refl hw1, _, by rw [upd_upd]; rfl, Nat.lt_succ_self _, Nat.zero_le _⟩) (fun k1 i j h1 hI hw1 next => ?_)
  obtain ⟨N1, rfl, hN1, hi⟩ := hI
  simp only [hlv]
  try simp only [gdTT, gdFF, gdTF, gdFT, pvS, pickT, pickF, faP, lenS, capS, nilP, exA, exB, exC, notB, cndT, cndF, Bool.not_true, Bool.not_false, Nat.zero_add, Nat.add_zero]
  refine lss_r (fun hlt => ?_) (fun hge => ?_)
  · have h1 : i < l.length := by omega
    try simp only [gdTT, gdFF, gdTF, gdFT, pvS, pickT, pickF, faP, lenS, capS, nilP, exA, exB, exC, notB, cndT, cndF, Bool.not_true, Bool.not_false, Nat.zero_add, Nat.add_zero]
    refine ldMa (vs := (allC (l.take i)).cs) ?_
    refine ixn_r hv h1 fun p => ?_
    refine rof_c (fun N2 hN2 hw2 => ?_)
    refine ⟨ldV_a (row_M (upd_same _ _ _)) (by exact Nat.le_of_ble_eq_true rfl) rfl, ?_⟩
    refine rmerge_c (a := allC (l.take i)) (b := ofC l[i]) (fun N3 hN3 hw3 => ?_)
    refine stM (cs' := ((allC (l.take i)).rmerge (ofC l[i])).cs) ?_
    refine inc_r (by omega) ?_
    rw [upd_upd]
    have e : allC (l.take (i + 1)) = (allC (l.take i)).rmerge (ofC l[i]) := by
      unfold allC
      rw [List.take_add_one, List.getElem?_eq_getElem h1, Option.toList_some, List.foldl_append]
      rfl
    exact next (i + 1) _ _ (by omega) (fun hw4 => ⟨_, wk_refl hw4, N3, by rw [e], by omega, h1⟩)
  · try simp only [gdTT, gdFF, gdTF, gdFT, pvS, pickT, pickF, faP, lenS, capS, nilP, exA, exB, exC, notB, cndT, cndF, Bool.not_true, Bool.not_false, Nat.zero_add, Nat.add_zero]
    rw [t26_1_1_1]
    rw [List.take_of_length_le (by omega)]
    refine ldMa (vs := (allC l).cs) ?_
    refine stM (cs' := (allC l).cs) ?_
    refine ldMa (vs := (allC l).cs) fun hc => ?_
    exact ⟨⟨F, M, N1⟩, wk_drop hc (subM_drop (subM_drop (subM_drop (subM_refl _) (hm _ (by omega))) (hm _ (by omega))) (hm _ (by omega))), fun hw' => k _ (by omega) hw'⟩
theorem tab_one (key : List Int) (l : List Int) (h : l ≠ []) : tab (l.map fun x => fr1 (key, x)) = [(key, allC l)] := by
  have step : ∀ (l : List Int) (c : CE), (l.map fun x => fr1 (key, x)).foldl (fun t r => layR t r.1 r.2) [(key, c)] = [(key, l.foldl (fun c x => c.rmerge (ofC x)) c)] := by
    intro l
    induction l with
    | nil => intro c; rfl
    | cons x l ih =>
      intro c
      simp only [List.map_cons, List.foldl_cons]
      have : layR [(key, c)] (fr1 (key, x)).1 (fr1 (key, x)).2 = [(key, c.rmerge (ofC x))] := by
        simp only [fr1, layR, kcmp_self, merge_eq]
        rw [if_neg (by decide), if_pos trivial]
      rw [this]; exact ih _
  cases l with
  | nil => exact absurd rfl h
  | cons x l =>
    unfold tab allC
    simp only [List.map_cons, List.foldl_cons]
    have e1 : layR [] (fr1 (key, x)).1 (fr1 (key, x)).2 = [(key, ofC x)] := rfl
    rw [e1, step l (ofC x)]
    rfl
end Go.Proofs.YthpacapdaembpaaDoor.A
open Go Go.RowKit Go.Proofs.YthpacapdaembpaaDoor.K Go.Proofs.YthpacapdaembpaaDoor.T
set_option linter.unusedVariables false
set_option linter.unusedSimpArgs false
namespace Go.Proofs.YthpacapdaembpaaDoor.A
variable {F F' : Nat → Option (List Value)} {M M' : Nat → Option Chunk} {N N' : Nat} {K : Kont} {E : PanK}
/-! ### Dimensions, facts by choices -/
/-- A dimension. -/
abbrev Dm := Int × List Int
def dimD (F : Nat → Option (List Value)) (cs : List Value) (d : Dm) : Prop := ∃ v, cs = [.int .i64 d.1, v] ∧ sF F 1 v d.2.length (ic d.2) ∧ d.2.length ≤ 140737488351232
theorem dimD.mono {cs : List Value} {d : Dm} (h : dimD F cs d) (hF : subF F F') : dimD F' cs d := let ⟨v, h1, h2, h3⟩ := h; ⟨v, h1, h2.mono hF, h3⟩
theorem dimD.one {cs : List Value} {d : Dm} (h : dimD F cs d) : cs.length = 2 ∧ ∀ c ∈ cs, c.oneCell' = true := by
  obtain ⟨v, rfl, hv, _⟩ := h
  obtain ⟨a, c, rfl, _⟩ := hv.form
  exact ⟨rfl, List.all_eq_true.1 rfl⟩
def dimsD (F : Nat → Option (List Value)) (v : Value) (l : List Dm) : Prop := ∃ rows, sF F 2 v l.length rows.flatten ∧ rowsF (dimD F) 2 rows l
theorem dimsD.mono {v : Value} {t : List Dm} (h : dimsD F v t) (hF : subF F F') : dimsD F' v t := let ⟨rows, h1, h2⟩ := h; ⟨rows, h1.mono hF, h2.mono fun _ _ hr => hr.mono hF⟩
theorem dimsD.form {v : Value} {t : List Dm} (h : dimsD F v t) : ∃ a c, v = .slice a t.length c := let ⟨rows, h1, _⟩ := h; let ⟨a, c, h2, _⟩ := h1.form; ⟨a, c, h2⟩
/-- Whole numbers of a kind. -/
def ick (k : IntKind) (l : List Int) : List Value := l.map (.int k)
/-- l[i], of whole numbers. -/
theorem ixk_r {k : IntKind} {v : Value} {l : List Int} (hv : sF F 1 v l.length (ick k l)) {i : Nat} {K : Value → Kont} (hi : i < l.length) (kk : ∀ p, K p (.int k l[i]) ⟨F, M, N⟩) :
    pv (iaV none 1 v (.int .i64 (i : Nat))) (fun p => ld false 1 p (K p)) ⟨F, M, N⟩ := by
  obtain ⟨b, o, c, rfl, cs, hF, _, hcs⟩ := hv.at (by decide) hi
  exact iaN_r hi (ld_r (ldV_c (row_F hF) (by rw [Nat.mul_one, hcs i (by omega)]; simp [ick, hi])) (kk _))
/-- a % b, of numbers that are none below 0 -/
theorem rem_n {e : EqK} {k : IntKind} {a b : Nat} {h : Hp} (hb : 0 < b) (kk : K (.int k ((a % b : Nat) : Int)) h) : pv (binV e .rem (.int k (a : Nat)) (.int k (b : Nat))) K h :=
  ⟨_, by rw [inV]; simp only [intV]; rw [if_neg (by omega)], by rw [show Int.tmod (a : Int) (b : Int) = ((a % b : Nat) : Int) from rfl]; exact kk⟩
theorem cv_i64 {k : IntKind} {a : Nat} {h : Hp} (h1 : a ≤ 9223372036854775807) (kk : K (.int .i64 (a : Nat)) h) : pv (cvV .i64 (.int k (a : Nat))) K h :=
  ⟨_, rfl, by rw [wrap_in (by omega) (by omega)]; exact kk⟩
theorem mul_n {e : EqK} {a b : Nat} {h : Hp} (h2 : a * b ≤ 9223372036854775807) (k : K (.int .i64 ((a * b : Nat) : Int)) h) : pv (binV e .mul (.int .i64 a) (.int .i64 b)) K h :=
  ⟨_, by rw [inV]; rfl, by rw [← Int.natCast_mul, wrap_in (by omega) (by omega)]; exact k⟩
/-- A key of members, as choices say: the places' sizes are above 0. -/
def keyOf (l : List Dm) (c : List Int) : List Int := l.mapIdx fun i d => (c.getD i 0) % d.1
theorem keyOf_len (l : List Dm) (c : List Int) : (keyOf l c).length = l.length := by simp [keyOf]
theorem keyOf_take (l : List Dm) (c : List Int) {i : Nat} (h : i < l.length) : keyOf (l.take (i + 1)) c = keyOf (l.take i) c ++ [(c.getD i 0) % l[i].1] := by
  unfold keyOf
  rw [List.take_add_one, List.getElem?_eq_getElem h, Option.toList_some, List.mapIdx_concat, List.length_take, Nat.min_eq_left (by omega)]
set_option maxRecDepth 10000 in
/-- Key, of stratumlaw03 -/
theorem key_c {u v : Value} {l : List Dm} {c : List Int} (hu : dimsD F u l) (hv : sF F 1 v c.length (ick .u16 c)) (hl : l.length ≤ 1000000) (hs : ∀ d ∈ l, 0 < d.1 ∧ d.1 ≤ 1000000) (hc : ∀ x ∈ c, 0 ≤ x ∧ x < 65536) (hcl : c.length ≤ 140737488351232)
    (k : ∀ v' F' N', (Hp.mk F' M N').wf → subF F F' → N ≤ N' → sF F' 1 v' (keyOf l c).length (ic (keyOf l c)) → K v' ⟨F', M, N'⟩) :
    callv Tryd.prog (.func (.func 48) #[] #[]) #[u, v] K E ⟨F, M, N⟩ := by
  refine callv_of_text mixed Tryd.func48 (by kernel_rfl) (t48 _ E _ _) (fun hw => ?_)
  have hm : clean M N := hw.m
  obtain ⟨rows, hu1, hu2⟩ := hu
  have hlu : lenV u = some (.int .i64 (l.length : Nat)) := by obtain ⟨a, c, rfl, _⟩ := hu1.form; rfl
  have hlv : lenV v = some (.int .i64 (c.length : Nat)) := by obtain ⟨a, c, rfl, _⟩ := hv.form; rfl
  refine l48_1_1_0_1_0_0 (σ := Nat × Value) (fun s => s.2) (fun s => .int .i64 (s.1 : Nat))
    (fun s h => ∃ M' N', h = ⟨F, M', N'⟩ ∧ N ≤ N' ∧ (∀ q, q < N → M' q = M q) ∧ clean M' N' ∧ s.1 ≤ l.length ∧ own M' N 3 1 s.2 s.1 (ic (keyOf (l.take s.1) c))) (fun s => l.length - s.1) (0, .slice none 0 0) rfl rfl
    (fun hw2 => ⟨_, wk_refl hw2, M, N, rfl, Nat.le_refl _, fun _ _ => rfl, hm, Nat.zero_le _, own.nil⟩) (fun k1 s j h1 hI hw2 next => ?_)
  obtain ⟨M2, N2, rfl, hN2, hM2, hm2, hi, ho2⟩ := hI
  simp only [hlu, hlv]
  try simp only [gdTT, gdFF, gdTF, gdFT, pvS, pickT, pickF, faP, lenS, capS, nilP, exA, exB, exC, notB, cndT, cndF, Bool.not_true, Bool.not_false, Nat.zero_add, Nat.add_zero]
  refine lss_r (fun hlt => ?_) (fun hge => ?_)
  · have h1 : s.1 < l.length := by omega
    obtain ⟨d1, d2⟩ := hs l[s.1] (List.getElem_mem _)
    try simp only [gdTT, gdFF, gdTF, gdFT, pvS, pickT, pickF, faP, lenS, capS, nilP, exA, exB, exC, notB, cndT, cndF, Bool.not_true, Bool.not_false, Nat.zero_add, Nat.add_zero]
    -- what is behind the choice
    have nat : ∀ x : Int, 0 ≤ x → x < 65536 → x = c.getD s.1 0 → ∃ n : Nat, x = n ∧ n < 65536 ∧ (c.getD s.1 0) % l[s.1].1 = ((n % l[s.1].1.toNat : Nat) : Int) := fun x h0 h1 e => ⟨x.toNat, by omega, by omega, by
      rw [← e, Int.natCast_emod, Int.toNat_of_nonneg h0, Int.toNat_of_nonneg (by omega)]⟩
    refine lss_r (fun hlt2 => ?_) (fun hge2 => ?_)
    have h2 : s.1 < c.length := by omega
    try simp only [gdTT, gdFF, gdTF, gdFT, pvS, pickT, pickF, faP, lenS, capS, nilP, exA, exB, exC, notB, cndT, cndF, Bool.not_true, Bool.not_false, Nat.zero_add, Nat.add_zero]
    refine ixk_r hv h2 fun p => ?_
    obtain ⟨x0, x1⟩ := hc c[s.1] (List.getElem_mem _)
    obtain ⟨n, hn, hn1, hn2⟩ := nat c[s.1] x0 x1 (by simp [List.getD_eq_getElem?_getD, h2])
    rw [hn]
    refine cv_i64 (a := n) (by omega) ?_
    rotate_left
    try simp only [gdTT, gdFF, gdTF, gdFT, pvS, pickT, pickF, faP, lenS, capS, nilP, exA, exB, exC, notB, cndT, cndF, Bool.not_true, Bool.not_false, Nat.zero_add, Nat.add_zero]
    have hg : c.getD s.1 0 = 0 := by rw [List.getD_eq_getElem?_getD, List.getElem?_eq_none (by omega)]; rfl
    obtain ⟨n, hn0, hn2⟩ : ∃ n : Nat, (.int .i64 0 : Value) = .int .i64 (n : Nat) ∧ (c.getD s.1 0) % l[s.1].1 = ((n % l[s.1].1.toNat : Nat) : Int) := ⟨0, rfl, by rw [hg]; simp⟩
    rw [hn0]
    all_goals
      rw [t48_1_1_0_1_0_0_1_0_0_1_1]
      refine fld_r hu1 hu2 (by decide) h1 (off := 0) (by decide) fun p q r x hR _ hx => ?_
      obtain ⟨kv, rfl, hkv', hkl⟩ := hR
      simp at hx
      subst hx
      rw [show l[s.1].1 = ((l[s.1].1.toNat : Nat) : Int) by omega]
      refine rem_n (by omega) ?_
      refine push_r (new := [.int .i64 ((n % l[s.1].1.toNat : Nat) : Int)]) ho2 hm2 hN2 (by kernel_rfl) rfl (List.all_eq_true.1 rfl) (by omega) (by unfold maxLen; omega) (fun p v' M3 N3 h4 h5 h6 h7 => ?_)
      rw [t48_1_1_0_1_0_0_1_1]
      refine inc_r (by omega) ?_
      refine next (s.1 + 1, v') _ _ (by simp only; omega) (fun hw3 => ⟨_, wk_refl hw3, M3, N3, rfl, by omega, fun q hq => ?_, h7, h1, ?_⟩)
      · exact ((h5 q (fun e => by have := (ho2.ge q e).1; omega) (by omega)).1).trans (hM2 q hq)
      · simp only
        rw [keyOf_take l c h1, hn2]
        simpa [ic] using h4
  · try simp only [gdTT, gdFF, gdTF, gdFT, pvS, pickT, pickF, faP, lenS, capS, nilP, exA, exB, exC, notB, cndT, cndF, Bool.not_true, Bool.not_false, Nat.zero_add, Nat.add_zero]
    rw [t48_1_1_1]
    rw [List.take_of_length_le (by omega)] at ho2
    refine fun hc' => ⟨_, frz_wf hm hM2 hc', fun hw' => k _ _ _ hw' (subF_frzAll hc') hN2 ?_⟩
    have := ho2.rd.frz hc' (fun b hb => .inl (ho2.ge b hb).1)
    rw [keyOf_len]
    rw [show s.1 = l.length by omega] at this
    exact this
end Go.Proofs.YthpacapdaembpaaDoor.A
open Go Go.RowKit Go.Proofs.YthpacapdaembpaaDoor.K Go.Proofs.YthpacapdaembpaaDoor.T
set_option linter.unusedVariables false
set_option linter.unusedSimpArgs false
namespace Go.Proofs.YthpacapdaembpaaDoor.A
variable {F F' : Nat → Option (List Value)} {M M' : Nat → Option Chunk} {N N' : Nat} {K : Kont} {E : PanK}
theorem own.box {B : Nat} {e : TypeId} {sz n : Nat} {v : Value} {cs : List Value} (h : own M B e sz v n cs) (hm : clean M N) {b : Nat} (hb : N ≤ b) (x : Option Chunk) : own (upd M b x) B e sz v n cs :=
  h.keep (fun q hq => upd_ne _ _ (fun e => by have := h.lt hm q hq; omega)) (Nat.le_refl _)
/-- Lists of choices. -/
def kksD (k : IntKind) (F : Nat → Option (List Value)) (v : Value) (ks : List (List Int)) : Prop := ∃ rows, sF F 1 v ks.length rows.flatten ∧ rowsF (fun r c => ∃ u, r = [u] ∧ sF F 1 u c.length (ick k c) ∧ c.length ≤ 140737488351232) 1 rows ks
theorem kksD.mono {k : IntKind} {v : Value} {ks : List (List Int)} (h : kksD k F v ks) (hF : subF F F') : kksD k F' v ks := let ⟨rows, h1, h2⟩ := h; ⟨rows, h1.mono hF, h2.mono fun _ _ ⟨u, e, h, l⟩ => ⟨u, e, h.mono hF, l⟩⟩
theorem kk_r {k : IntKind} {v : Value} {ts : List (List Int)} {K : Value → Kont} (hv : kksD k F v ts) {i : Nat} (hi : i < ts.length) (kk : ∀ p u, sF F 1 u ts[i].length (ick k ts[i]) → ts[i].length ≤ 140737488351232 → K p u ⟨F, M, N⟩) : pv (iaV none 1 v (.int .i64 (i : Nat))) (fun p => ld false 1 p (K p)) ⟨F, M, N⟩ := by
  obtain ⟨rows, h1, h2⟩ := hv
  obtain ⟨b, o, c, cs, r, rfl, hF, _, ⟨u, rfl, hu, hul⟩, hl, _, hle, ht, hj⟩ := row_at h1 h2 (by decide) hi
  exact iaN_r hi (ld_r (ldV_c (row_F hF) (hj 0 (by decide))) (kk _ _ hu hul))
/-- Facts at members, as choices say. -/
def factsOf (l : List Dm) (ks : List (List Int)) (v : List Int) : List Fc := (ks.take 200).mapIdx fun i c => (keyOf l c, v.getD (i % v.length) 0)
theorem factsOf_len (l : List Dm) (ks : List (List Int)) (v : List Int) : (factsOf l ks v).length = min 200 ks.length := by simp [factsOf]
theorem mapIdx_take {α β : Type} (f : Nat → α → β) (l : List α) {i : Nat} (h : i < l.length) : (l.take (i + 1)).mapIdx f = (l.take i).mapIdx f ++ [f i l[i]] := by
  rw [List.take_add_one, List.getElem?_eq_getElem h, Option.toList_some, List.mapIdx_concat, List.length_take, Nat.min_eq_left (by omega)]
theorem rowsF_snoc1 {α : Type} {R : List Value → α → Prop} {sz : Nat} {rows : List (List Value)} {xs : List α} (h : rowsF R sz rows xs) {r : List Value} {x : α} (h1 : r.length = sz ∧ ∀ c ∈ r, c.oneCell' = true) (hr : R r x) : rowsF R sz (rows ++ [r]) (xs ++ [x]) := h.snoc h1.1 h1.2 hr
set_option maxRecDepth 10000 in
/-- Facts, of stratumlaw04 -/
theorem facts_c {u v w : Value} {l : List Dm} {ks : List (List Int)} {c : List Int} (hu : dimsD F u l) (hv : kksD .u16 F v ks) (hw' : sF F 1 w c.length (ic c)) (hl : l.length ≤ 1000000) (hs : ∀ d ∈ l, 0 < d.1 ∧ d.1 ≤ 1000000) (hc : ∀ k ∈ ks, ∀ x ∈ k, 0 ≤ x ∧ x < 65536) (hkl : ks.length ≤ 140737488351232) (hcl : c.length ≤ 140737488351232)
    (k : ∀ v' F' N', (Hp.mk F' M N').wf → subF F F' → N ≤ N' → fctsD F' v' (factsOf l ks c) → K v' ⟨F', M, N'⟩) :
    callv Tryd.prog (.func (.func 21) #[] #[]) #[u, v, w] K E ⟨F, M, N⟩ := by
  refine callv_of_text mixed Tryd.func21 (by kernel_rfl) (t21 _ E _ _ _) (fun hw => ?_)
  have hm : clean M N := hw.m
  have hlv : lenV v = some (.int .i64 (ks.length : Nat)) := by obtain ⟨rows, h1, _⟩ := hv; obtain ⟨a, c, rfl, _⟩ := h1.form; rfl
  have hlw : lenV w = some (.int .i64 (c.length : Nat)) := by obtain ⟨a, c, rfl, _⟩ := hw'.form; rfl
  refine l21_1_1_0_1_0_0 (σ := Nat × Value) (fun s => s.2) (fun s => .int .i64 (s.1 : Nat))
    (fun s h => ∃ F' M' N' rows, h = ⟨F', M', N'⟩ ∧ subF F F' ∧ N ≤ N' ∧ (∀ q, q < N → M' q = M q) ∧ clean M' N' ∧ s.1 ≤ ks.length ∧ s.1 ≤ 200 ∧ own M' N 39 2 s.2 s.1 rows.flatten ∧ rowsF (fctD F') 2 rows ((ks.take s.1).mapIdx fun i k => (keyOf l k, c.getD (i % c.length) 0))) (fun s => 200 - s.1) (0, .slice none 0 0) rfl rfl
    (fun hw2 => ⟨_, wk_refl hw2, F, M, N, [], rfl, subF.refl _, Nat.le_refl _, fun _ _ => rfl, hm, Nat.zero_le _, Nat.zero_le _, own.nil, rowsF.nil _ _⟩) (fun k1 s j h1 hI hw2 next => ?_)
  obtain ⟨F2, M2, N2, rows, rfl, hF2, hN2, hM2, hm2, hi, hi2, ho2, hr2⟩ := hI
  have fin : (¬ s.1 < ks.length ∨ ¬ s.1 < 200) → ∀ h', h' = (⟨F2, M2, N2⟩ : Hp) → h'.wf → ∃ h'', h'.wk h'' ∧ (h''.wf → K s.2 h'') := fun hend h' e hc' => by
    subst e
    have e1 : ks.take s.1 = ks.take 200 := by
      rcases hend with h | h
      · rw [List.take_of_length_le (by omega), List.take_of_length_le (by omega)]
      · rw [show s.1 = 200 by omega]
    have e2 : s.1 = (factsOf l ks c).length := by
      rw [factsOf_len]
      rcases hend with h | h <;> omega
    refine ⟨_, frz_wf hm hM2 hc', fun hw' => k _ _ _ hw' (hF2.trans (subF_frzAll hc')) hN2 ⟨rows, ?_, ?_⟩⟩
    · have := ho2.rd.frz hc' (fun b hb => .inl (ho2.ge b hb).1)
      rw [← e2]; exact this
    · unfold factsOf
      rw [← e1]; exact hr2.mono fun _ _ h => h.mono (subF_frzAll hc')
  simp only [hlv]
  try simp only [gdTT, gdFF, gdTF, gdFT, pvS, pickT, pickF, faP, lenS, capS, nilP, exA, exB, exC, notB, cndT, cndF, Bool.not_true, Bool.not_false, Nat.zero_add, Nat.add_zero]
  refine lss_r (fun hlt => ?_) (fun hge => ?_)
  · try simp only [gdTT, gdFF, gdTF, gdFT, pvS, pickT, pickF, faP, lenS, capS, nilP, exA, exB, exC, notB, cndT, cndF, Bool.not_true, Bool.not_false, Nat.zero_add, Nat.add_zero]
    refine lss_r (fun hlt2 => ?_) (fun hge2 => ?_)
    · have h1 : s.1 < ks.length := by omega
      try simp only [gdTT, gdFF, gdTF, gdFT, pvS, pickT, pickF, faP, lenS, capS, nilP, exA, exB, exC, notB, cndT, cndF, Bool.not_true, Bool.not_false, Nat.zero_add, Nat.add_zero]
      refine kk_r (hv.mono hF2) h1 fun p kv hkv hkvl => ?_
      refine key_c (hu.mono hF2) hkv hl hs (hc _ (List.getElem_mem _)) hkvl (fun key F3 N3 hw3 hF3 hN3 hkey => ?_)
      obtain ⟨ka, kc, hkf, _⟩ := hkey.form
      refine pv_r (v := .agg #[key, .int .i64 0]) (by rw [hkf]; kernel_rfl) ?_
      refine nw_r (fun b1 hb1 => ?_)
      refine stM (cs' := [key, .int .i64 0]) ?_ (upd_same _ _ _) rfl rfl (by rw [hkf]; exact List.all_eq_true.1 rfl)
      rw [upd_upd]
      simp only [hlw]
      try simp only [gdTT, gdFF, gdTF, gdFT, pvS, pickT, pickF, faP, lenS, capS, nilP, exA, exB, exC, notB, cndT, cndF, Bool.not_true, Bool.not_false, Nat.zero_add, Nat.add_zero]
      have hm3 := hm2.up hN3
      have hb1 : ∀ x, own (upd M2 b1 x) N 39 2 s.2 s.1 rows.flatten := fun x => ho2.box hm3 (by omega) x
      refine gtr_r (fun h0 => ?_) (fun h0 => ?_)
      try simp only [gdTT, gdFF, gdTF, gdFT, pvS, pickT, pickF, faP, lenS, capS, nilP, exA, exB, exC, notB, cndT, cndF, Bool.not_true, Bool.not_false, Nat.zero_add, Nat.add_zero]
      refine rem_n (a := s.1) (b := c.length) (by omega) ?_
      have hmod : s.1 % c.length < c.length := Nat.mod_lt _ (by omega)
      refine ixn_r ((hw'.mono hF2).mono hF3) hmod fun p => ?_
      refine stM (cs' := [key, .int .i64 c[s.1 % c.length]]) ?_ (upd_same _ _ _) rfl rfl (List.all_eq_true.1 rfl) (by exact Nat.le_of_ble_eq_true rfl)
      rw [upd_upd]
      obtain ⟨n, hn, hn2⟩ : ∃ n, c[s.1 % c.length] = n ∧ n = c.getD (s.1 % c.length) 0 := ⟨_, rfl, by rw [List.getD_eq_getElem?_getD, List.getElem?_eq_getElem hmod]; rfl⟩
      rw [hn]
      rotate_left
      try simp only [gdTT, gdFF, gdTF, gdFT, pvS, pickT, pickF, faP, lenS, capS, nilP, exA, exB, exC, notB, cndT, cndF, Bool.not_true, Bool.not_false, Nat.zero_add, Nat.add_zero]
      obtain ⟨n, hn, hn2⟩ : ∃ n : Int, (0 : Int) = n ∧ n = c.getD (s.1 % c.length) 0 := ⟨_, rfl, by rw [List.getD_eq_getElem?_getD, List.getElem?_eq_none (by omega)]; rfl⟩
      rw [show ([key, .int .i64 0] : List Value) = [key, .int .i64 n] by rw [← hn]]
      all_goals
        rw [t21_1_1_0_1_0_0_1_0_0_1_1]
        refine ldMa (vs := [key, .int .i64 n]) ?_ (upd_same _ _ _)
        refine push_r (new := [key, .int .i64 n]) (hb1 _) (hm3.new (by omega) _) (by omega) (by rw [hkf]; kernel_rfl) rfl (by rw [hkf]; exact List.all_eq_true.1 rfl) (by omega) (by unfold maxLen; omega) (fun p v' M4 N4 h4 h5 h6 h7 => ?_)
        rw [t21_1_1_0_1_0_0_1_1]
        refine inc_r (by omega) ?_
        refine next (s.1 + 1, v') _ _ (by simp only; omega) (fun hw3 => ⟨_, wk_refl hw3, F3, M4, N4, rows ++ [[key, .int .i64 n]], rfl, hF2.trans hF3, by omega, fun q hq => ?_, h7, h1, by simp only; omega, ?_, ?_⟩)
        · exact ((h5 q (fun e => by have := (ho2.ge q e).1; omega) (by omega)).1).trans ((upd_ne _ _ (by omega)).trans (hM2 q hq))
        · simpa using h4
        · simp only
          rw [mapIdx_take _ ks h1]
          have hr1 : fctD F3 [key, .int .i64 n] (keyOf l ks[s.1], c.getD (s.1 % c.length) 0) := ⟨key, by rw [← hn2], hkey, by simp only; rw [keyOf_len]; omega⟩
          exact rowsF_snoc1 (hr2.mono fun _ _ h => h.mono hF3) hr1.one hr1
    · try simp only [gdTT, gdFF, gdTF, gdFT, pvS, pickT, pickF, faP, lenS, capS, nilP, exA, exB, exC, notB, cndT, cndF, Bool.not_true, Bool.not_false, Nat.zero_add, Nat.add_zero]
      rw [t21_1_1_1]
      exact fin (by omega) _ rfl
  · try simp only [gdTT, gdFF, gdTF, gdFT, pvS, pickT, pickF, faP, lenS, capS, nilP, exA, exB, exC, notB, cndT, cndF, Bool.not_true, Bool.not_false, Nat.zero_add, Nat.add_zero]
    rw [t21_1_1_1]
    exact fin (by omega) _ rfl
end Go.Proofs.YthpacapdaembpaaDoor.A
open Go Go.RowKit Go.Proofs.YthpacapdaembpaaDoor.K Go.Proofs.YthpacapdaembpaaDoor.T
set_option linter.unusedVariables false
set_option linter.unusedSimpArgs false
namespace Go.Proofs.YthpacapdaembpaaDoor.A
variable {F F' : Nat → Option (List Value)} {M M' : Nat → Option Chunk} {N N' : Nat} {K : Kont} {E : PanK}
/-- The rows of some blocks become such that nobody turns them. -/
noncomputable def frzP (F : Nat → Option (List Value)) (M : Nat → Option Chunk) (p : Nat → Prop) : Nat → Option (List Value) := fun b => open Classical in if p b then (match M b with | some (.cells _ cs _) => some cs | _ => F b) else F b
theorem subF_frzP {p : Nat → Prop} (hc : (Hp.mk F M N).wf) : subF F (frzP F M p) := fun b cs hb => by
  unfold frzP
  split
  · rw [show M b = none from hc.d b cs hb]; exact hb
  · exact hb
theorem wk_P {p : Nat → Prop} (hc : (Hp.mk F M N).wf) : (Hp.mk F M N).wk ⟨frzP F M p, keepM M (fun q => ¬ p q), N⟩ := by
  refine ⟨rfl, keepM_sub _ _, fun b cs hb => ?_, fun b cs hb => ?_⟩
  · simp only [frzP] at hb
    split at hb
    · rename_i hp
      split at hb
      · rename_i e cs' tot he; cases hb; exact .inr ⟨by simp [keepM, hp], e, cs, tot, he, List.prefix_refl _⟩
      · exact .inl hb
    · exact .inl hb
  · simp only [frzP] at hb
    split at hb
    · rename_i hp; simp [keepM, hp]
    · have : M b = none := hc.d b cs hb
      simp only [keepM, this]; split <;> rfl
theorem own.frzP {B : Nat} {e : TypeId} {sz n : Nat} {v : Value} {cs : List Value} {p : Nat → Prop} (h : own M B e sz v n cs) (hp : ∀ q, v.ownBlock = some q → p q) : sF (A.frzP F M p) sz v n cs := by
  refine ⟨h.1, ?_⟩
  rcases h.2 with ⟨rfl, rfl⟩ | ⟨b, c, rest, rfl, h2, h3, h4, h5⟩
  · exact .inl ⟨_, _, rfl, rfl⟩
  · refine .inr ⟨b, 0, c, cs ++ rest, rfl, h2, ?_, by rw [List.drop_zero, ← h.1, List.take_left]⟩
    have := hp b rfl
    simp [A.frzP, this, h5]
theorem own.far {B : Nat} {e : TypeId} {sz n : Nat} {u v v' : Value} {cs : List Value} (h : own M B e sz u n cs) (hf : fr M M' N v v') (hm : clean M N) (hne : ∀ q, u.ownBlock = some q → v.ownBlock ≠ some q) : own M' B e sz u n cs ∧ ∀ q, u.ownBlock = some q → v'.ownBlock ≠ some q :=
  ⟨h.keep (fun q hq => (hf q (hne q hq) (h.lt hm q hq)).1) (Nat.le_refl _), fun q hq => (hf q (hne q hq) (h.lt hm q hq)).2⟩
def divA : Nat → List Nat → Nat
  | a, [] => a
  | a, b :: l => divA (a * (2 + b % 4)) l
def divL : Nat → List Nat → List Nat
  | _, [] => []
  | a, b :: l => (a * (2 + b % 4)) :: divL (a * (2 + b % 4)) l
theorem divA_snoc (l : List Nat) (b : Nat) : ∀ a, divA a (l ++ [b]) = divA a l * (2 + b % 4) := by
  induction l with
  | nil => intro a; rfl
  | cons x l ih => intro a; exact ih _
theorem divL_snoc (l : List Nat) (b : Nat) : ∀ a, divL a (l ++ [b]) = divL a l ++ [divA a l * (2 + b % 4)] := by
  induction l with
  | nil => intro a; rfl
  | cons x l ih => intro a; simp only [List.cons_append, divL]; rw [ih]; rfl
theorem divA_le (l : List Nat) : ∀ a, divA a l ≤ a * 5 ^ l.length := by
  induction l with
  | nil => intro a; simp [divA]
  | cons x l ih =>
    intro a
    simp only [divA, List.length_cons]
    have h1 := ih (a * (2 + x % 4))
    have h2 : a * (2 + x % 4) ≤ a * 5 := Nat.mul_le_mul_left _ (by omega)
    have h3 : a * (2 + x % 4) * 5 ^ l.length ≤ a * 5 * 5 ^ l.length := Nat.mul_le_mul_right _ h2
    rw [Nat.pow_succ, Nat.mul_comm (5 ^ l.length) 5, ← Nat.mul_assoc]
    omega
theorem divL_len (l : List Nat) : ∀ a, (divL a l).length = l.length := by
  induction l with
  | nil => intro a; rfl
  | cons x l ih => intro a; simp [divL, ih]
/-- A dimension, as choices say. -/
def dimOf (c : Int × List Int) : Dm := (1 + c.1 % 200, (divL 1 ((c.2.take 4).map Int.toNat)).map (fun n : Nat => (n : Int)))
/-- Dimensions, as choices say. -/
def dimsOf (m : List (Int × List Int)) : List Dm := if m = [] then [(100, [10])] else (m.take 4).map dimOf
def cutD (F : Nat → Option (List Value)) (cs : List Value) (c : Int × List Int) : Prop := ∃ v, cs = [.int .u16 c.1, v] ∧ sF F 1 v c.2.length (ick .u8 c.2) ∧ c.2.length ≤ 140737488351232
theorem cutD.mono {cs : List Value} {d : Int × List Int} (h : cutD F cs d) (hF : subF F F') : cutD F' cs d := let ⟨v, h1, h2, h3⟩ := h; ⟨v, h1, h2.mono hF, h3⟩
def cutsD (F : Nat → Option (List Value)) (v : Value) (l : List (Int × List Int)) : Prop := ∃ rows, sF F 2 v l.length rows.flatten ∧ rowsF (cutD F) 2 rows l
theorem cutsD.mono {v : Value} {t : List (Int × List Int)} (h : cutsD F v t) (hF : subF F F') : cutsD F' v t := let ⟨rows, h1, h2⟩ := h; ⟨rows, h1.mono hF, h2.mono fun _ _ hr => hr.mono hF⟩
set_option maxRecDepth 10000 in
/-- Of, of stratumlaw03 -/
theorem dof_c {u : Value} {m : List (Int × List Int)} (hu : cutsD F u m) (hml : m.length ≤ 140737488351232) (hc : ∀ c ∈ m, (0 ≤ c.1 ∧ c.1 < 65536) ∧ ∀ x ∈ c.2, 0 ≤ x ∧ x < 256)
    (k : ∀ v' F' N', (Hp.mk F' M N').wf → subF F F' → N ≤ N' → dimsD F' v' (dimsOf m) → K v' ⟨F', M, N'⟩) :
    callv Tryd.prog (.func (.func 19) #[] #[]) #[u] K E ⟨F, M, N⟩ := by
  refine callv_of_text mixed Tryd.func19 (by kernel_rfl) (t19 _ E _) (fun hw => ?_)
  have hm : clean M N := hw.m
  obtain ⟨crows, hu1, hu2⟩ := hu
  have hlu : lenV u = some (.int .i64 (m.length : Nat)) := by obtain ⟨a, c, rfl, _⟩ := hu1.form; rfl
  refine l19_1_1_0_1_0_0 (σ := Nat × Value) (fun s => s.2) (fun s => .int .i64 (s.1 : Nat))
    (fun s h => ∃ F' M' N' rows, h = ⟨F', M', N'⟩ ∧ subF F F' ∧ N ≤ N' ∧ (∀ q, q < N → M' q = M q) ∧ clean M' N' ∧ s.1 ≤ m.length ∧ s.1 ≤ 4 ∧ own M' N 51 2 s.2 s.1 rows.flatten ∧ rowsF (dimD F') 2 rows ((m.take s.1).map dimOf)) (fun s => 4 - s.1) (0, .slice none 0 0) rfl rfl
    (fun hw2 => ⟨_, wk_refl hw2, F, M, N, [], rfl, subF.refl _, Nat.le_refl _, fun _ _ => rfl, hm, Nat.zero_le _, Nat.zero_le _, own.nil, rowsF.nil _ _⟩) (fun k1 s j h1 hI hw2 next => ?_)
  obtain ⟨F2, M2, N2, rows, rfl, hF2, hN2, hM2, hm2, hi, hi2, ho2, hr2⟩ := hI
  have hu1' := hu1.mono hF2
  have hu2' : rowsF (cutD F2) 2 crows m := hu2.mono fun _ _ h => h.mono hF2
  simp only [hlu]
  try simp only [gdTT, gdFF, gdTF, gdFT, pvS, pickT, pickF, faP, lenS, capS, nilP, exA, exB, exC, notB, cndT, cndF, Bool.not_true, Bool.not_false, Nat.zero_add, Nat.add_zero]
  by_cases hgo : s.1 < m.length ∧ s.1 < 4
  · obtain ⟨h1, h2⟩ := hgo
    refine lss_t (by omega) ?_
    try simp only [gdTT, gdFF, gdTF, gdFT, pvS, pickT, pickF, faP, lenS, capS, nilP, exA, exB, exC, notB, cndT, cndF, Bool.not_true, Bool.not_false, Nat.zero_add, Nat.add_zero]
    refine lss_t (by omega) ?_
    try simp only [gdTT, gdFF, gdTF, gdFT, pvS, pickT, pickF, faP, lenS, capS, nilP, exA, exB, exC, notB, cndT, cndF, Bool.not_true, Bool.not_false, Nat.zero_add, Nat.add_zero]
    obtain ⟨⟨c0, c1⟩, cb⟩ := hc m[s.1] (List.getElem_mem _)
    refine fld_r hu1' hu2' (by decide) h1 (off := 0) (by decide) fun p q r x hR _ hx => ?_
    obtain ⟨bv, rfl, hbv, hbl⟩ := hR
    simp at hx
    subst hx
    rw [show m[s.1].1 = ((m[s.1].1.toNat : Nat) : Int) by omega]
    refine rem_n (b := 200) (by decide) (cv_i64 (by omega) (add_n (a := 1) (by omega) ?_))
    obtain ⟨sz, hsz⟩ : ∃ sz : Int, ((1 + m[s.1].1.toNat % 200 : Nat) : Int) = sz := ⟨_, rfl⟩
    rw [hsz]
    refine pv_r (v := .agg #[.int .i64 sz, .slice none 0 0]) (by kernel_rfl) ?_
    refine nw_r (fun bx hbx => ?_)
    refine stM (cs' := [.int .i64 sz, .slice none 0 0]) ?_ (upd_same _ _ _)
    rw [upd_upd]
    have hs1 : (dimOf m[s.1]).1 = sz := by
      rw [← hsz]
      simp only [dimOf]
      omega
    refine l19_1_1_0_1_0_0_1_0_0_1_1_0_1_0_0 (σ := Nat × Nat) (fun s => .int .i64 (s.2 : Nat)) (fun s => .int .i64 (s.1 : Nat))
      (fun t h => ∃ M' N' dv, h = ⟨F2, M', N'⟩ ∧ bx < N' ∧ (∀ q, q < N → M' q = M q) ∧ clean M' N' ∧ t.1 ≤ m[s.1].2.length ∧ t.1 ≤ 4 ∧ t.2 = divA 1 ((m[s.1].2.take t.1).map Int.toNat) ∧ M' bx = some (.cells 51 [.int .i64 sz, dv] 2) ∧
        own M' N 3 1 dv t.1 (ic ((divL 1 ((m[s.1].2.take t.1).map Int.toNat)).map (fun n : Nat => (n : Int)))) ∧ own M' N 51 2 s.2 s.1 rows.flatten ∧ dv.ownBlock ≠ some bx ∧ s.2.ownBlock ≠ some bx ∧ (∀ q, s.2.ownBlock = some q → dv.ownBlock ≠ some q)) (fun t => 4 - t.1) (0, 1) rfl rfl
      (fun hw3 => ⟨_, wk_refl hw3, _, _, .slice none 0 0, rfl, Nat.lt_succ_self _, fun q hq => (upd_ne _ _ (by omega)).trans (hM2 q hq), hm2.new hbx _, Nat.zero_le _, Nat.zero_le _, by simp [divA], by rw [upd_same]; rfl, by simpa [divL, ic] using own.nil, ho2.box hm2 hbx _, by simp [Value.ownBlock], fun e => by have := ho2.lt hm2 bx e; omega, fun q _ => by simp [Value.ownBlock]⟩) (fun k2 t j2 h2' hI2 hw3 next2 => ?_)
    obtain ⟨M3, N3, dv, rfl, hbN, hM3, hm3, ht1, ht2, ht3, hbx3, hdv, hout, hd1, hd2, hd3⟩ := hI2
    obtain ⟨da, dc, hdf, _⟩ := hdv.form
    have hbl4 : t.1 < m[s.1].2.length → t.1 < 4 → ∀ x, x = t.2 → x ≤ 625 := fun _ _ x e => by
      rw [e, ht3]
      have h5 := divA_le ((m[s.1].2.take t.1).map Int.toNat) 1
      rw [List.length_map, List.length_take, Nat.min_eq_left ht1, Nat.one_mul] at h5
      exact Nat.le_trans h5 (Nat.le_trans (Nat.pow_le_pow_right (by decide) ht2) (by decide))
    refine fld_r hu1' hu2' (by decide) h1 (off := 1) (by decide) fun p q r x hR _ hx => ?_
    obtain ⟨bv, rfl, hbv, hbl⟩ := hR
    simp at hx
    subst hx
    refine lenF_r hbv ?_
    by_cases hgo2 : t.1 < m[s.1].2.length ∧ t.1 < 4
    · obtain ⟨h3, h4⟩ := hgo2
      have h625 := hbl4 h3 h4 t.2 rfl
      refine lss_t (by omega) ?_
      try simp only [gdTT, gdFF, gdTF, gdFT, pvS, pickT, pickF, faP, lenS, capS, nilP, exA, exB, exC, notB, cndT, cndF, Bool.not_true, Bool.not_false, Nat.zero_add, Nat.add_zero]
      refine lss_t (by omega) ?_
      try simp only [gdTT, gdFF, gdTF, gdFT, pvS, pickT, pickF, faP, lenS, capS, nilP, exA, exB, exC, notB, cndT, cndF, Bool.not_true, Bool.not_false, Nat.zero_add, Nat.add_zero]
      refine fld_r hu1' hu2' (by decide) h1 (off := 1) (by decide) fun p q r x hR _ hx => ?_
      obtain ⟨bv, rfl, hbv, hbl⟩ := hR
      simp at hx
      subst hx
      refine ixk_r hbv h3 fun p => ?_
      obtain ⟨b0, b1⟩ := cb m[s.1].2[t.1] (List.getElem_mem _)
      obtain ⟨bn, hbn, hbn2⟩ : ∃ n : Nat, m[s.1].2[t.1] = (n : Int) ∧ n < 256 := ⟨m[s.1].2[t.1].toNat, by omega, by omega⟩
      rw [hbn]
      refine rem_n (b := 4) (by decide) (cv_i64 (by omega) (add_n (a := 2) (by omega) ?_))
      have hmul : t.2 * (2 + bn % 4) ≤ 625 * 5 := Nat.mul_le_mul h625 (by omega)
      refine mul_n (by omega) ?_
      refine ldM (v := dv) ?_ hbx3
      have hlast : ((m[s.1].2.take (t.1 + 1)).map Int.toNat) = (m[s.1].2.take t.1).map Int.toNat ++ [bn] := by
        rw [List.take_add_one, List.getElem?_eq_getElem h3, Option.toList_some, List.map_append, hbn]; simp
      refine push_r (new := [.int .i64 ((t.2 * (2 + bn % 4) : Nat) : Int)]) hdv hm3 (by omega) (by kernel_rfl) rfl (List.all_eq_true.1 rfl) (by omega) (by unfold maxLen; omega) (fun p v' M4 N4 h4' h5 h6 h7 => ?_)
      obtain ⟨va, vc, hvf, _⟩ := h4'.form
      have hb4 : M4 bx = some (.cells 51 [.int .i64 sz, dv] 2) := ((h5 bx hd1 hbN).1).trans hbx3
      refine stM (cs' := [.int .i64 sz, v']) ?_ hb4 (by rw [hvf]; rfl) (by rw [hvf]; rfl) (by rw [hvf]; exact List.all_eq_true.1 rfl)
      refine inc_r (by omega) ?_
      obtain ⟨hout4, hne4⟩ := hout.far h5 hm3 hd3
      have hv'b := (h5 bx hd1 hbN).2
      refine next2 (t.1 + 1, t.2 * (2 + bn % 4)) _ _ (by simp only; omega) (fun hw4 => ⟨_, wk_refl hw4, _, N4, v', rfl, by omega, fun q hq => ?_, h7.set (by omega) _, h3, by simp only; omega, ?_, upd_same _ _ _, ?_, ?_, hv'b, hd2, hne4⟩)
      · exact (upd_ne _ _ (by omega)).trans (((h5 q (fun e => by have := (hdv.ge q e).1; omega) (by omega)).1).trans (hM3 q hq))
      · simp only
        rw [hlast, divA_snoc, ht3]
      · simp only
        rw [hlast, divL_snoc, List.map_append, ← ht3]
        have h8 := h4'.keep (M' := upd M4 bx (some (.cells 51 [.int .i64 sz, v'] 2))) (fun q hq => upd_ne _ _ (fun e => hv'b (e ▸ hq))) (Nat.le_refl _)
        simpa [ic] using h8
      · exact hout4.keep (fun q hq => upd_ne _ _ (fun e => hd2 (e ▸ hq))) (Nat.le_refl _)
    · have hend : t.1 = min m[s.1].2.length 4 := by omega
      have e1 : m[s.1].2.take t.1 = m[s.1].2.take 4 := by
        rcases Nat.lt_or_ge m[s.1].2.length 4 with h | h
        · rw [List.take_of_length_le (by omega), List.take_of_length_le (by omega)]
        · rw [show t.1 = 4 by omega]
      rw [e1] at hdv
      have hx5 : dimOf m[s.1] = (sz, (divL 1 ((m[s.1].2.take 4).map Int.toNat)).map (fun n : Nat => (n : Int))) := by rw [← hs1]; rfl
      have hdl : t.1 = (dimOf m[s.1]).2.length := by rw [hx5, ← e1]; simp [divL_len]; omega
      refine lss_r (fun hl1 => ?_) (fun hl1 => ?_)
      try simp only [gdTT, gdFF, gdTF, gdFT, pvS, pickT, pickF, faP, lenS, capS, nilP, exA, exB, exC, notB, cndT, cndF, Bool.not_true, Bool.not_false, Nat.zero_add, Nat.add_zero]
      refine lss_f (by omega) ?_
      all_goals
        try simp only [gdTT, gdFF, gdTF, gdFT, pvS, pickT, pickF, faP, lenS, capS, nilP, exA, exB, exC, notB, cndT, cndF, Bool.not_true, Bool.not_false, Nat.zero_add, Nat.add_zero]
        rw [t19_1_1_0_1_0_0_1_0_0_1_1_1]
        refine ldMa (vs := [.int .i64 sz, dv]) ?_ hbx3
        refine push_r (new := [.int .i64 sz, dv]) hout hm3 (by omega) (by rw [hdf]; kernel_rfl) rfl (by rw [hdf]; exact List.all_eq_true.1 rfl) (by omega) (by unfold maxLen; omega) (fun p v' M4 N4 h4' h5 h6 h7 => ?_)
        rw [t19_1_1_0_1_0_0_1_1]
        refine inc_r (by omega) ?_
        obtain ⟨hdv4, hne4⟩ := hdv.far h5 hm3 (fun q hq e => hd3 q e hq)
        refine next (s.1 + 1, v') _ _ (by simp only; omega) (fun hw4 => ⟨_, wk_P (p := fun q => N ≤ q ∧ v'.ownBlock ≠ some q) hw4, _, _, N4, rows ++ [[.int .i64 sz, dv]], rfl, hF2.trans (subF_frzP hw4), by omega, fun q hq => ?_, keepM_clean h7, h1, by simp only; omega, ?_, ?_⟩)
        · rw [keepM_in (by omega)]
          exact ((h5 q (fun e => by have := (hout.ge q e).1; omega) (by omega)).1).trans (hM3 q hq)
        · have h8 := h4'.keep (M' := keepM M4 (fun q => ¬ (N ≤ q ∧ v'.ownBlock ≠ some q))) (fun q hq => keepM_in (fun h => h.2 hq)) (Nat.le_refl _)
          simpa using h8
        · simp only
          rw [List.take_add_one, List.getElem?_eq_getElem h1, Option.toList_some, List.map_append, List.map_singleton]
          have hr1 : dimD (frzP F2 M4 (fun q => N ≤ q ∧ v'.ownBlock ≠ some q)) [.int .i64 sz, dv] (dimOf m[s.1]) := ⟨dv, by rw [hs1], by
            have h9 := hdv4.frzP (F := F2) (p := fun q => N ≤ q ∧ v'.ownBlock ≠ some q) (fun q hq => ⟨(hdv.ge q hq).1, hne4 q hq⟩)
            rw [← hdl]
            rw [hx5]; exact h9, by rw [← hdl]; omega⟩
          exact rowsF_snoc1 (hr2.mono fun _ _ h => h.mono (subF_frzP hw4)) hr1.one hr1
  · obtain ⟨oa, oc, hof, _⟩ := ho2.form
    have hlo : lenV s.2 = some (.int .i64 (s.1 : Nat)) := by rw [hof]; rfl
    have hend : s.1 = min m.length 4 := by omega
    have e1 : m.take s.1 = m.take 4 := by
      rcases Nat.lt_or_ge m.length 4 with h | h
      · rw [List.take_of_length_le (by omega), List.take_of_length_le (by omega)]
      · rw [show s.1 = 4 by omega]
    refine lss_r (fun hl1 => ?_) (fun hl1 => ?_)
    try simp only [gdTT, gdFF, gdTF, gdFT, pvS, pickT, pickF, faP, lenS, capS, nilP, exA, exB, exC, notB, cndT, cndF, Bool.not_true, Bool.not_false, Nat.zero_add, Nat.add_zero]
    refine lss_f (by omega) ?_
    all_goals
      try simp only [gdTT, gdFF, gdTF, gdFT, pvS, pickT, pickF, faP, lenS, capS, nilP, exA, exB, exC, notB, cndT, cndF, Bool.not_true, Bool.not_false, Nat.zero_add, Nat.add_zero]
      rw [t19_1_1_1]
      simp only [hlo]
      try simp only [gdTT, gdFF, gdTF, gdFT, pvS, pickT, pickF, faP, lenS, capS, nilP, exA, exB, exC, notB, cndT, cndF, Bool.not_true, Bool.not_false, Nat.zero_add, Nat.add_zero]
      by_cases h0 : s.1 = 0
      · have hm0 : m = [] := List.eq_nil_of_length_eq_zero (by omega)
        refine eql_t (by omega) ?_
        try simp only [gdTT, gdFF, gdTF, gdFT, pvS, pickT, pickF, faP, lenS, capS, nilP, exA, exB, exC, notB, cndT, cndF, Bool.not_true, Bool.not_false, Nat.zero_add, Nat.add_zero]
        refine nws_r (cs := [.int .i64 10]) (by kernel_rfl) (fun b1 hb1 => ?_)
        refine pv_r (v := .agg #[.int .i64 100, .slice (some ⟨b1, 0, none⟩) 1 1]) (by kernel_rfl) ?_
        have hb1v : s.2.ownBlock ≠ some b1 := fun e => by have := ho2.lt hm2 b1 e; omega
        refine push_r (new := [.int .i64 100, .slice (some ⟨b1, 0, none⟩) 1 1]) (ho2.box hm2 hb1 _) (hm2.new hb1 _) (by omega) (by kernel_rfl) rfl (List.all_eq_true.1 rfl) (by omega) (by unfold maxLen; omega) (fun p v' M4 N4 h4' h5 h6 h7 => ?_)
        rw [t19_1_1_1_1]
        have hMM : ∀ q, q < N → M4 q = M q := fun q hq => ((h5 q (fun e => by have := (ho2.ge q e).1; omega) (by omega)).1).trans ((upd_ne _ _ (by omega)).trans (hM2 q hq))
        have hb4 : M4 b1 = some (.cells 3 [.int .i64 10] 1) := ((h5 b1 hb1v (by omega)).1).trans (upd_same _ _ _)
        refine fun hc' => ⟨_, frz_wf hm hMM hc', fun hw' => k v' _ N4 hw' (hF2.trans (subF_frzAll hc')) (by omega) ⟨rows ++ [[.int .i64 100, .slice (some ⟨b1, 0, none⟩) 1 1]], ?_, ?_⟩⟩
        · have := h4'.rd.frz hc' (fun b hb => .inl (h4'.ge b hb).1)
          rw [hm0] at hr2 ⊢
          have hr0 : rows = [] := List.eq_nil_of_length_eq_zero (by have := hr2.all.1; simpa using this)
          subst hr0
          rw [h0] at this
          simpa [dimsOf] using this
        · rw [hm0] at hr2 ⊢
          have hr1 : dimD (frzAll F2 M4 N) [.int .i64 100, .slice (some ⟨b1, 0, none⟩) 1 1] (100, [10]) := ⟨_, rfl, sF_lit (frz_at (by omega) hb4) rfl (by decide), by decide⟩
          have hr0 : rows = [] := List.eq_nil_of_length_eq_zero (by have := hr2.all.1; simpa using this)
          subst hr0
          exact rowsF_snoc1 (rowsF.nil _ _) hr1.one hr1
      · refine eql_f (by omega) ?_
        try simp only [gdTT, gdFF, gdTF, gdFT, pvS, pickT, pickF, faP, lenS, capS, nilP, exA, exB, exC, notB, cndT, cndF, Bool.not_true, Bool.not_false, Nat.zero_add, Nat.add_zero]
        rw [t19_1_1_1_1]
        have hne : m ≠ [] := fun e => by rw [e] at hend; simp at hend; omega
        refine fun hc' => ⟨_, frz_wf hm hM2 hc', fun hw' => k s.2 _ N2 hw' (hF2.trans (subF_frzAll hc')) hN2 ⟨rows, ?_, ?_⟩⟩
        · have := ho2.rd.frz hc' (fun b hb => .inl (ho2.ge b hb).1)
          unfold dimsOf
          rw [if_neg hne, List.length_map, List.length_take, show min 4 m.length = s.1 by omega]; exact this
        · unfold dimsOf
          rw [if_neg hne, ← e1]; exact hr2.mono fun _ _ h => h.mono (subF_frzAll hc')
end Go.Proofs.YthpacapdaembpaaDoor.A
open Go Go.RowKit Go.Proofs.YthpacapdaembpaaDoor.K
set_option linter.unusedVariables false
set_option maxRecDepth 100000
namespace Go.Proofs.YthpacapdaembpaaDoor.T
theorem t31 (K : Kont) (E : PanK) (x0 x1 x2 x3 : Value)  : den Tryd.prog (sel (bodyOf Tryd.f31) []) (bodyQ Tryd.prog Tryd.f31.results.toList K E) #[x0, x1, x2, x3, undef, undef, undef, undef, undef, undef, undef, undef, undef, undef, undef, undef, undef, undef, undef, undef, undef, undef, undef, undef, undef, undef, undef, undef, undef] =
  nw 28 (Value.cells x0).toList fun t1 =>
  nw 37 (Value.cells x2).toList fun t2 =>
  nw 37 (Value.cells x3).toList fun t3 =>
  ld false 1 t1 fun t4 =>
  callv Tryd.prog (.func (.func 57) #[] #[]) #[t4] (fun t5 =>
  pv (unV .not t5) fun t6 =>
  cnd t6 (
    K (.tuple #[(.slice none 0 0), (.int .u16 30)])) (
    ld false 1 t1 fun t7 =>
    ld false 1 t2 fun t8 =>
    ld false 1 t3 fun t9 =>
    callv Tryd.prog (.func (.func 58) #[] #[]) #[t7, t8, t9] (fun t10 =>
    pv (unV .not t10) fun t11 =>
    cnd t11 (
      K (.tuple #[(.slice none 0 0), (.int .u16 40)])) (
      ld false 1 t1 fun t12 =>
      pv (lenV t12) fun t13 =>
      callv Tryd.prog (.func (.func 22) #[] #[]) #[x1, t13] (fun t14 =>
      pv (unV .not t14) fun t15 =>
      cnd t15 (
        K (.tuple #[(.slice none 0 0), (.int .u16 1)])) (
        callv Tryd.prog (.func (.func 54) #[] #[]) #[x1, (.func (.func 59) #[] #[t1, t2, t3])] (fun t16 =>
        K (.tuple #[t16, (.int .u16 0)])) E)) E)) E)) E := by kernel_rfl

theorem t32 (K : Kont) (E : PanK) (x0 x1 x2 x3 : Value)  : den Tryd.prog (sel (bodyOf Tryd.f32) []) (bodyQ Tryd.prog Tryd.f32.results.toList K E) #[x0, x1, x2, x3, undef, undef, undef, undef, undef, undef, undef, undef, undef, undef, undef, undef, undef, undef, undef, undef, undef, undef, undef, undef, undef, undef, undef, undef, undef, undef, undef, undef, undef, undef, undef, undef, undef, undef, undef, undef, undef, undef, undef, undef, undef, undef, undef, undef, undef] =
  callv Tryd.prog (.func (.func 61) #[] #[]) #[x0] (fun t1 =>
  pv (unV .not t1) fun t2 =>
  cnd t2 (
    K (.tuple #[(.slice none 0 0), (.int .i64 30)])) (
    callv Tryd.prog (.func (.func 62) #[] #[]) #[x0, x2, x3] (fun t3 =>
    pv (unV .not t3) fun t4 =>
    cnd t4 (
      K (.tuple #[(.slice none 0 0), (.int .i64 40)])) (
      pv (lenV x0) fun t5 =>
      callv Tryd.prog (.func (.func 23) #[] #[]) #[x1, t5] (fun t6 =>
      pv (unV .not t6) fun t7 =>
      cnd t7 (
        K (.tuple #[(.slice none 0 0), (.int .i64 1)])) (
        lp (fun k1 => den Tryd.prog (sel (bodyOf Tryd.f32) [1, 1, 1, 1, 1, 0, 1, 0, 0]) (thenD k1 (blk 0 (thenD (den Tryd.prog (sel (bodyOf Tryd.f32) [1, 1, 1, 1, 1, 1]) (bodyQ Tryd.prog Tryd.f32.results.toList K E)) (bodyQ Tryd.prog Tryd.f32.results.toList K E))))) #[x0, x1, x2, x3, undef, undef, undef, undef, (.slice none 0 0), (.int .i64 0), (.slice none 0 0), (.int .i64 0), x0, t1, t2, x0, x2, x3, t3, t4, x1, x0, t5, t6, t7, undef, undef, undef, undef, undef, undef, undef, undef, undef, undef, undef, undef, undef, undef, undef, undef, undef, undef, undef, undef, undef, undef, undef, undef])) E)) E)) E := by kernel_rfl
def m32_1_1_1_1_1_0_1_0_0 (x0 x1 x2 x3 x4 x5 x6 x7 x8 x9 x12 x13 x14 x15 x16 x17 x18 x19 x20 x21 x22 x23 x24 x48 : Value) (v10 v11 : Value) (j : Nat → Value) : Env := #[x0, x1, x2, x3, x4, x5, x6, x7, x8, x9, v10, v11, x12, x13, x14, x15, x16, x17, x18, x19, x20, x21, x22, x23, x24, (j 25), (j 26), (j 27), (j 28), (j 29), (j 30), (j 31), (j 32), (j 33), (j 34), (j 35), (j 36), (j 37), (j 38), (j 39), (j 40), (j 41), (j 42), (j 43), (j 44), (j 45), (j 46), (j 47), x48]
theorem t32_1_1_1_1_1_0_1_0_0 (K : Kont) (E : PanK) (k1 : Env → Hp → Prop) (x0 x1 x2 x3 x4 x5 x6 x7 x8 x9 x12 x13 x14 x15 x16 x17 x18 x19 x20 x21 x22 x23 x24 x48 v10 v11 : Value) (j : Nat → Value) : den Tryd.prog (sel (bodyOf Tryd.f32) [1, 1, 1, 1, 1, 0, 1, 0, 0]) (thenD k1 (blk 0 (thenD (den Tryd.prog (sel (bodyOf Tryd.f32) [1, 1, 1, 1, 1, 1]) (bodyQ Tryd.prog Tryd.f32.results.toList K E)) (bodyQ Tryd.prog Tryd.f32.results.toList K E)))) (m32_1_1_1_1_1_0_1_0_0 x0 x1 x2 x3 x4 x5 x6 x7 x8 x9 x12 x13 x14 x15 x16 x17 x18 x19 x20 x21 x22 x23 x24 x48 v10 v11 j) =
  pv (lenV x1) fun t1 =>
  pv (binV .none .lss v11 t1) fun t2 =>
  cnd t2 (
    pv (iaV none 5 x1 v11) fun t3 =>
    pv (faV 0 t3) fun t4 =>
    ld false 1 t4 fun t5 =>
    pv (iaV none 5 x1 v11) fun t6 =>
    pv (faV 1 t6) fun t7 =>
    ld true 4 t7 fun t8 =>
    callv Tryd.prog (.func (.func 63) #[] #[]) #[x0, x2, x3, t5] (fun t9 h10 => (ldV h10 true 4 t7 t8) ∧ (
      pv (bdC #[(.slice none 0 0), (.int .i64 0), (.int .i64 0), (.int .i64 0), (.int .i64 0)] [(0, 1), (1, 4)] #[(0, t9), (1, t8)]) fun t11 =>
      callv Tryd.prog (.func (.func 51) #[] #[]) #[v10, t11] (fun t12 =>
      pv (binV .none .add v11 (.int .i64 1)) fun t13 =>
      k1 (m32_1_1_1_1_1_0_1_0_0 x0 x1 x2 x3 x4 x5 x6 x7 x8 x9 x12 x13 x14 x15 x16 x17 x18 x19 x20 x21 x22 x23 x24 x48 t12 t13 (jf #[x0, x1, x2, x3, x4, x5, x6, x7, x8, x9, t12, t13, x12, x13, x14, x15, x16, x17, x18, x19, x20, x21, x22, x23, x24, v11, x1, t1, t2, v11, t13, v10, x0, x2, x3, x1, v11, t3, t4, t5, t9, x1, v11, t6, t7, t8, t11, t12, x48]))) E) h10) E) (
    den Tryd.prog (sel (bodyOf Tryd.f32) [1, 1, 1, 1, 1, 1]) (bodyQ Tryd.prog Tryd.f32.results.toList K E) #[x0, x1, x2, x3, x4, x5, x6, x7, x8, x9, v10, v11, x12, x13, x14, x15, x16, x17, x18, x19, x20, x21, x22, x23, x24, v11, x1, t1, t2, (j 29), (j 30), (j 31), (j 32), (j 33), (j 34), (j 35), (j 36), (j 37), (j 38), (j 39), (j 40), (j 41), (j 42), (j 43), (j 44), (j 45), (j 46), (j 47), x48]) := by kernel_rfl
theorem t32_1_1_1_1_1_1 (K : Kont) (E : PanK) (x0 x1 x2 x3 x4 x5 x6 x7 x8 x9 x10 x11 x12 x13 x14 x15 x16 x17 x18 x19 x20 x21 x22 x23 x24 x25 x26 x27 x28 x29 x30 x31 x32 x33 x34 x35 x36 x37 x38 x39 x40 x41 x42 x43 x44 x45 x46 x47 x48 : Value)  : den Tryd.prog (sel (bodyOf Tryd.f32) [1, 1, 1, 1, 1, 1]) (bodyQ Tryd.prog Tryd.f32.results.toList K E) #[x0, x1, x2, x3, x4, x5, x6, x7, x8, x9, x10, x11, x12, x13, x14, x15, x16, x17, x18, x19, x20, x21, x22, x23, x24, x25, x26, x27, x28, x29, x30, x31, x32, x33, x34, x35, x36, x37, x38, x39, x40, x41, x42, x43, x44, x45, x46, x47, x48] =
  K (.tuple #[x10, (.int .i64 0)]) := by kernel_rfl
theorem l32_1_1_1_1_1_0_1_0_0 {K : Kont} {E : PanK} {σ : Type} {x0 x1 x2 x3 x4 x5 x6 x7 x8 x9 x12 x13 x14 x15 x16 x17 x18 x19 x20 x21 x22 x23 x24 x48 v10 v11 y25 y26 y27 y28 y29 y30 y31 y32 y33 y34 y35 y36 y37 y38 y39 y40 y41 y42 y43 y44 y45 y46 y47 : Value} {h : Hp} (f10 f11 : σ → Value) (I : σ → Hp → Prop) (μ : σ → Nat) (s0 : σ) (e10 : v10 = f10 s0) (e11 : v11 = f11 s0) (h0 : h.wf → ∃ h', h.wk h' ∧ I s0 h')
  (round : ∀ (k1 : Env → Hp → Prop) (s : σ) (j : Nat → Value) (h : Hp), I s h → h.wf → (∀ s' j' h', μ s' < μ s → (h'.wf → ∃ h'', h'.wk h'' ∧ I s' h'') → k1 (m32_1_1_1_1_1_0_1_0_0 x0 x1 x2 x3 x4 x5 x6 x7 x8 x9 x12 x13 x14 x15 x16 x17 x18 x19 x20 x21 x22 x23 x24 x48 (f10 s') (f11 s') j') h') → (
  pv (lenV x1) fun t1 =>
  pv (binV .none .lss (f11 s) t1) fun t2 =>
  cnd t2 (
    pv (iaV none 5 x1 (f11 s)) fun t3 =>
    pv (faV 0 t3) fun t4 =>
    ld false 1 t4 fun t5 =>
    pv (iaV none 5 x1 (f11 s)) fun t6 =>
    pv (faV 1 t6) fun t7 =>
    ld true 4 t7 fun t8 =>
    callv Tryd.prog (.func (.func 63) #[] #[]) #[x0, x2, x3, t5] (fun t9 h10 => (ldV h10 true 4 t7 t8) ∧ (
      pv (bdC #[(.slice none 0 0), (.int .i64 0), (.int .i64 0), (.int .i64 0), (.int .i64 0)] [(0, 1), (1, 4)] #[(0, t9), (1, t8)]) fun t11 =>
      callv Tryd.prog (.func (.func 51) #[] #[]) #[(f10 s), t11] (fun t12 =>
      pv (binV .none .add (f11 s) (.int .i64 1)) fun t13 =>
      k1 (m32_1_1_1_1_1_0_1_0_0 x0 x1 x2 x3 x4 x5 x6 x7 x8 x9 x12 x13 x14 x15 x16 x17 x18 x19 x20 x21 x22 x23 x24 x48 t12 t13 (jf #[x0, x1, x2, x3, x4, x5, x6, x7, x8, x9, t12, t13, x12, x13, x14, x15, x16, x17, x18, x19, x20, x21, x22, x23, x24, (f11 s), x1, t1, t2, (f11 s), t13, (f10 s), x0, x2, x3, x1, (f11 s), t3, t4, t5, t9, x1, (f11 s), t6, t7, t8, t11, t12, x48]))) E) h10) E) (
    den Tryd.prog (sel (bodyOf Tryd.f32) [1, 1, 1, 1, 1, 1]) (bodyQ Tryd.prog Tryd.f32.results.toList K E) #[x0, x1, x2, x3, x4, x5, x6, x7, x8, x9, (f10 s), (f11 s), x12, x13, x14, x15, x16, x17, x18, x19, x20, x21, x22, x23, x24, (f11 s), x1, t1, t2, (j 29), (j 30), (j 31), (j 32), (j 33), (j 34), (j 35), (j 36), (j 37), (j 38), (j 39), (j 40), (j 41), (j 42), (j 43), (j 44), (j 45), (j 46), (j 47), x48])) h) :
  lp (fun k1 => den Tryd.prog (sel (bodyOf Tryd.f32) [1, 1, 1, 1, 1, 0, 1, 0, 0]) (thenD k1 (blk 0 (thenD (den Tryd.prog (sel (bodyOf Tryd.f32) [1, 1, 1, 1, 1, 1]) (bodyQ Tryd.prog Tryd.f32.results.toList K E)) (bodyQ Tryd.prog Tryd.f32.results.toList K E))))) #[x0, x1, x2, x3, x4, x5, x6, x7, x8, x9, v10, v11, x12, x13, x14, x15, x16, x17, x18, x19, x20, x21, x22, x23, x24, y25, y26, y27, y28, y29, y30, y31, y32, y33, y34, y35, y36, y37, y38, y39, y40, y41, y42, y43, y44, y45, y46, y47, x48] h := by
  subst e10
  subst e11
  have e : (#[x0, x1, x2, x3, x4, x5, x6, x7, x8, x9, (f10 s0), (f11 s0), x12, x13, x14, x15, x16, x17, x18, x19, x20, x21, x22, x23, x24, y25, y26, y27, y28, y29, y30, y31, y32, y33, y34, y35, y36, y37, y38, y39, y40, y41, y42, y43, y44, y45, y46, y47, x48] : Env) = m32_1_1_1_1_1_0_1_0_0 x0 x1 x2 x3 x4 x5 x6 x7 x8 x9 x12 x13 x14 x15 x16 x17 x18 x19 x20 x21 x22 x23 x24 x48 (f10 s0) (f11 s0) (jf #[x0, x1, x2, x3, x4, x5, x6, x7, x8, x9, (f10 s0), (f11 s0), x12, x13, x14, x15, x16, x17, x18, x19, x20, x21, x22, x23, x24, y25, y26, y27, y28, y29, y30, y31, y32, y33, y34, y35, y36, y37, y38, y39, y40, y41, y42, y43, y44, y45, y46, y47, x48]) := by kernel_rfl
  rw [e]
  exact loop_r (fun s j => m32_1_1_1_1_1_0_1_0_0 x0 x1 x2 x3 x4 x5 x6 x7 x8 x9 x12 x13 x14 x15 x16 x17 x18 x19 x20 x21 x22 x23 x24 x48 (f10 s) (f11 s) j) I μ (fun k s j h hI hw next => by rw [t32_1_1_1_1_1_0_1_0_0]; exact round k s j h hI hw next) s0 (jf #[x0, x1, x2, x3, x4, x5, x6, x7, x8, x9, (f10 s0), (f11 s0), x12, x13, x14, x15, x16, x17, x18, x19, x20, x21, x22, x23, x24, y25, y26, y27, y28, y29, y30, y31, y32, y33, y34, y35, y36, y37, y38, y39, y40, y41, y42, y43, y44, y45, y46, y47, x48]) h0

theorem t33 (K : Kont) (E : PanK) (x0 x1 x2 : Value)  : den Tryd.prog (sel (bodyOf Tryd.f33) []) (bodyQ Tryd.prog Tryd.f33.results.toList K E) #[x0, x1, x2, undef, undef, undef, undef, undef, undef, undef, undef, undef, undef, undef, undef, undef, undef, undef, undef, undef, undef, undef, undef, undef, undef, undef, undef, undef, undef, undef, undef, undef, undef, undef, undef, undef, undef, undef, undef, undef, undef, undef, undef, undef, undef, undef, undef, undef, undef, undef, undef] =
  lp (fun k1 => den Tryd.prog (sel (bodyOf Tryd.f33) [1, 1, 0, 1, 0, 0]) (thenD k1 (blk 0 (thenD (den Tryd.prog (sel (bodyOf Tryd.f33) [1, 1, 1]) (bodyQ Tryd.prog Tryd.f33.results.toList K E)) (bodyQ Tryd.prog Tryd.f33.results.toList K E))))) #[x0, x1, x2, undef, undef, undef, (.slice none 0 0), (.slice none 0 0), (.int .i64 0), undef, undef, undef, undef, undef, undef, undef, undef, undef, undef, undef, undef, undef, undef, undef, undef, undef, undef, undef, undef, undef, undef, undef, undef, undef, undef, undef, undef, undef, undef, undef, undef, undef, undef, undef, undef, undef, undef, undef, undef, undef, undef] := by kernel_rfl
def m33_1_1_0_1_0_0 (x0 x1 x2 x3 x4 x5 x6 x50 : Value) (v7 v8 : Value) (j : Nat → Value) : Env := #[x0, x1, x2, x3, x4, x5, x6, v7, v8, (j 9), (j 10), (j 11), (j 12), (j 13), (j 14), (j 15), (j 16), (j 17), (j 18), (j 19), (j 20), (j 21), (j 22), (j 23), (j 24), (j 25), (j 26), (j 27), (j 28), (j 29), (j 30), (j 31), (j 32), (j 33), (j 34), (j 35), (j 36), (j 37), (j 38), (j 39), (j 40), (j 41), (j 42), (j 43), (j 44), (j 45), (j 46), (j 47), (j 48), (j 49), x50]
theorem t33_1_1_0_1_0_0 (K : Kont) (E : PanK) (k1 : Env → Hp → Prop) (x0 x1 x2 x3 x4 x5 x6 x50 v7 v8 : Value) (j : Nat → Value) : den Tryd.prog (sel (bodyOf Tryd.f33) [1, 1, 0, 1, 0, 0]) (thenD k1 (blk 0 (thenD (den Tryd.prog (sel (bodyOf Tryd.f33) [1, 1, 1]) (bodyQ Tryd.prog Tryd.f33.results.toList K E)) (bodyQ Tryd.prog Tryd.f33.results.toList K E)))) (m33_1_1_0_1_0_0 x0 x1 x2 x3 x4 x5 x6 x50 v7 v8 j) =
  pv (lenV x0) fun t1 =>
  pv (binV .none .lss v8 t1) fun t2 =>
  cnd t2 (
    pv (lenV x1) fun t3 =>
    pv (binV .none .lss v8 t3) fun t4 =>
    cnd t4 (
      pv (iaV none 1 x1 v8) fun t5 =>
      ld false 1 t5 fun t6 =>
      pv (cvV .i64 t6) fun t7 =>
      den Tryd.prog (sel (bodyOf Tryd.f33) [1, 1, 0, 1, 0, 0, 1, 0, 0, 1, 1, 1]) (blk 1 (thenD (den Tryd.prog (sel (bodyOf Tryd.f33) [1, 1, 0, 1, 0, 0, 1, 1]) (thenD k1 (blk 0 (thenD (den Tryd.prog (sel (bodyOf Tryd.f33) [1, 1, 1]) (bodyQ Tryd.prog Tryd.f33.results.toList K E)) (bodyQ Tryd.prog Tryd.f33.results.toList K E))))) (thenD k1 (blk 0 (thenD (den Tryd.prog (sel (bodyOf Tryd.f33) [1, 1, 1]) (bodyQ Tryd.prog Tryd.f33.results.toList K E)) (bodyQ Tryd.prog Tryd.f33.results.toList K E)))))) #[x0, x1, x2, x3, x4, x5, x6, v7, v8, t7, (.int .i64 0), v8, x0, t1, t2, (j 15), (j 16), v8, x1, t3, t4, x1, v8, t5, t6, t7, (j 26), (j 27), (j 28), (j 29), (j 30), (j 31), (j 32), (j 33), (j 34), (j 35), (j 36), (j 37), (j 38), (j 39), (j 40), (j 41), (j 42), (j 43), (j 44), (j 45), (j 46), (j 47), (j 48), (j 49), x50]) (
      den Tryd.prog (sel (bodyOf Tryd.f33) [1, 1, 0, 1, 0, 0, 1, 0, 0, 1, 1, 1]) (blk 1 (thenD (den Tryd.prog (sel (bodyOf Tryd.f33) [1, 1, 0, 1, 0, 0, 1, 1]) (thenD k1 (blk 0 (thenD (den Tryd.prog (sel (bodyOf Tryd.f33) [1, 1, 1]) (bodyQ Tryd.prog Tryd.f33.results.toList K E)) (bodyQ Tryd.prog Tryd.f33.results.toList K E))))) (thenD k1 (blk 0 (thenD (den Tryd.prog (sel (bodyOf Tryd.f33) [1, 1, 1]) (bodyQ Tryd.prog Tryd.f33.results.toList K E)) (bodyQ Tryd.prog Tryd.f33.results.toList K E)))))) #[x0, x1, x2, x3, x4, x5, x6, v7, v8, (.int .i64 0), (.int .i64 0), v8, x0, t1, t2, (j 15), (j 16), v8, x1, t3, t4, (j 21), (j 22), (j 23), (j 24), (j 25), (j 26), (j 27), (j 28), (j 29), (j 30), (j 31), (j 32), (j 33), (j 34), (j 35), (j 36), (j 37), (j 38), (j 39), (j 40), (j 41), (j 42), (j 43), (j 44), (j 45), (j 46), (j 47), (j 48), (j 49), x50])) (
    den Tryd.prog (sel (bodyOf Tryd.f33) [1, 1, 1]) (bodyQ Tryd.prog Tryd.f33.results.toList K E) #[x0, x1, x2, x3, x4, x5, x6, v7, v8, (j 9), (j 10), v8, x0, t1, t2, (j 15), (j 16), (j 17), (j 18), (j 19), (j 20), (j 21), (j 22), (j 23), (j 24), (j 25), (j 26), (j 27), (j 28), (j 29), (j 30), (j 31), (j 32), (j 33), (j 34), (j 35), (j 36), (j 37), (j 38), (j 39), (j 40), (j 41), (j 42), (j 43), (j 44), (j 45), (j 46), (j 47), (j 48), (j 49), x50]) := by kernel_rfl
theorem t33_1_1_1 (K : Kont) (E : PanK) (x0 x1 x2 x3 x4 x5 x6 x7 x8 x9 x10 x11 x12 x13 x14 x15 x16 x17 x18 x19 x20 x21 x22 x23 x24 x25 x26 x27 x28 x29 x30 x31 x32 x33 x34 x35 x36 x37 x38 x39 x40 x41 x42 x43 x44 x45 x46 x47 x48 x49 x50 : Value)  : den Tryd.prog (sel (bodyOf Tryd.f33) [1, 1, 1]) (bodyQ Tryd.prog Tryd.f33.results.toList K E) #[x0, x1, x2, x3, x4, x5, x6, x7, x8, x9, x10, x11, x12, x13, x14, x15, x16, x17, x18, x19, x20, x21, x22, x23, x24, x25, x26, x27, x28, x29, x30, x31, x32, x33, x34, x35, x36, x37, x38, x39, x40, x41, x42, x43, x44, x45, x46, x47, x48, x49, x50] =
  K x7 := by kernel_rfl
theorem t33_1_1_0_1_0_0_1_0_0_1_1_1 (K : Kont) (E : PanK) (k1 : Env → Hp → Prop) (x0 x1 x2 x3 x4 x5 x6 x7 x8 x9 x10 x11 x12 x13 x14 x15 x16 x17 x18 x19 x20 x21 x22 x23 x24 x25 x26 x27 x28 x29 x30 x31 x32 x33 x34 x35 x36 x37 x38 x39 x40 x41 x42 x43 x44 x45 x46 x47 x48 x49 x50 : Value)  : den Tryd.prog (sel (bodyOf Tryd.f33) [1, 1, 0, 1, 0, 0, 1, 0, 0, 1, 1, 1]) (blk 1 (thenD (den Tryd.prog (sel (bodyOf Tryd.f33) [1, 1, 0, 1, 0, 0, 1, 1]) (thenD k1 (blk 0 (thenD (den Tryd.prog (sel (bodyOf Tryd.f33) [1, 1, 1]) (bodyQ Tryd.prog Tryd.f33.results.toList K E)) (bodyQ Tryd.prog Tryd.f33.results.toList K E))))) (thenD k1 (blk 0 (thenD (den Tryd.prog (sel (bodyOf Tryd.f33) [1, 1, 1]) (bodyQ Tryd.prog Tryd.f33.results.toList K E)) (bodyQ Tryd.prog Tryd.f33.results.toList K E)))))) #[x0, x1, x2, x3, x4, x5, x6, x7, x8, x9, x10, x11, x12, x13, x14, x15, x16, x17, x18, x19, x20, x21, x22, x23, x24, x25, x26, x27, x28, x29, x30, x31, x32, x33, x34, x35, x36, x37, x38, x39, x40, x41, x42, x43, x44, x45, x46, x47, x48, x49, x50] =
  pv (lenV x2) fun t1 =>
  pv (binV .none .lss x8 t1) fun t2 =>
  cnd t2 (
    pv (iaV none 1 x2 x8) fun t3 =>
    ld false 1 t3 fun t4 =>
    den Tryd.prog (sel (bodyOf Tryd.f33) [1, 1, 0, 1, 0, 0, 1, 0, 0, 1, 1, 1, 1]) (blk 1 (thenD (den Tryd.prog (sel (bodyOf Tryd.f33) [1, 1, 0, 1, 0, 0, 1, 1]) (thenD k1 (blk 0 (thenD (den Tryd.prog (sel (bodyOf Tryd.f33) [1, 1, 1]) (bodyQ Tryd.prog Tryd.f33.results.toList K E)) (bodyQ Tryd.prog Tryd.f33.results.toList K E))))) (thenD k1 (blk 0 (thenD (den Tryd.prog (sel (bodyOf Tryd.f33) [1, 1, 1]) (bodyQ Tryd.prog Tryd.f33.results.toList K E)) (bodyQ Tryd.prog Tryd.f33.results.toList K E)))))) #[x0, x1, x2, x3, x4, x5, x6, x7, x8, x9, t4, x11, x12, x13, x14, x15, x16, x17, x18, x19, x20, x21, x22, x23, x24, x25, x8, x2, t1, t2, x2, x8, t3, t4, x34, x35, x36, x37, x38, x39, x40, x41, x42, x43, x44, x45, x46, x47, x48, x49, x50]) (
    den Tryd.prog (sel (bodyOf Tryd.f33) [1, 1, 0, 1, 0, 0, 1, 0, 0, 1, 1, 1, 1]) (blk 1 (thenD (den Tryd.prog (sel (bodyOf Tryd.f33) [1, 1, 0, 1, 0, 0, 1, 1]) (thenD k1 (blk 0 (thenD (den Tryd.prog (sel (bodyOf Tryd.f33) [1, 1, 1]) (bodyQ Tryd.prog Tryd.f33.results.toList K E)) (bodyQ Tryd.prog Tryd.f33.results.toList K E))))) (thenD k1 (blk 0 (thenD (den Tryd.prog (sel (bodyOf Tryd.f33) [1, 1, 1]) (bodyQ Tryd.prog Tryd.f33.results.toList K E)) (bodyQ Tryd.prog Tryd.f33.results.toList K E)))))) #[x0, x1, x2, x3, x4, x5, x6, x7, x8, x9, x10, x11, x12, x13, x14, x15, x16, x17, x18, x19, x20, x21, x22, x23, x24, x25, x8, x2, t1, t2, x30, x31, x32, x33, x34, x35, x36, x37, x38, x39, x40, x41, x42, x43, x44, x45, x46, x47, x48, x49, x50]) := by kernel_rfl
theorem t33_1_1_0_1_0_0_1_0_0_1_1_1_1 (K : Kont) (E : PanK) (k1 : Env → Hp → Prop) (x0 x1 x2 x3 x4 x5 x6 x7 x8 x9 x10 x11 x12 x13 x14 x15 x16 x17 x18 x19 x20 x21 x22 x23 x24 x25 x26 x27 x28 x29 x30 x31 x32 x33 x34 x35 x36 x37 x38 x39 x40 x41 x42 x43 x44 x45 x46 x47 x48 x49 x50 : Value)  : den Tryd.prog (sel (bodyOf Tryd.f33) [1, 1, 0, 1, 0, 0, 1, 0, 0, 1, 1, 1, 1]) (blk 1 (thenD (den Tryd.prog (sel (bodyOf Tryd.f33) [1, 1, 0, 1, 0, 0, 1, 1]) (thenD k1 (blk 0 (thenD (den Tryd.prog (sel (bodyOf Tryd.f33) [1, 1, 1]) (bodyQ Tryd.prog Tryd.f33.results.toList K E)) (bodyQ Tryd.prog Tryd.f33.results.toList K E))))) (thenD k1 (blk 0 (thenD (den Tryd.prog (sel (bodyOf Tryd.f33) [1, 1, 1]) (bodyQ Tryd.prog Tryd.f33.results.toList K E)) (bodyQ Tryd.prog Tryd.f33.results.toList K E)))))) #[x0, x1, x2, x3, x4, x5, x6, x7, x8, x9, x10, x11, x12, x13, x14, x15, x16, x17, x18, x19, x20, x21, x22, x23, x24, x25, x26, x27, x28, x29, x30, x31, x32, x33, x34, x35, x36, x37, x38, x39, x40, x41, x42, x43, x44, x45, x46, x47, x48, x49, x50] =
  pv (iaV none 2 x0 x8) fun t1 =>
  pv (faV 1 t1) fun t2 =>
  ld false 1 t2 fun t3 =>
  pv (lenV t3) fun t4 =>
  pv (binV .none .add t4 (.int .i64 2)) fun t5 =>
  pv (binV .none .sub t5 x10) fun t6 =>
  pv (binV .none .rem x9 t6) fun t7 =>
  pv (binV .none .add x10 t7) fun t8 =>
  nws 3 1 (bsC #[(.int .i64 0)] 1 1 #[(0, t8)]) fun t9 =>
  appX 3 1 8 x7 t9 fun t10 =>
  den Tryd.prog (sel (bodyOf Tryd.f33) [1, 1, 0, 1, 0, 0, 1, 1]) (thenD k1 (blk 0 (thenD (den Tryd.prog (sel (bodyOf Tryd.f33) [1, 1, 1]) (bodyQ Tryd.prog Tryd.f33.results.toList K E)) (bodyQ Tryd.prog Tryd.f33.results.toList K E)))) #[x0, x1, x2, x3, x4, x5, x6, t10, x8, x9, x10, x11, x12, x13, x14, x15, x16, x17, x18, x19, x20, x21, x22, x23, x24, x25, x26, x27, x28, x29, x30, x31, x32, x33, x7, x10, x9, x0, x8, t1, t2, t3, t4, t5, x10, t6, t7, t8, t9, t10, x50] := by kernel_rfl
theorem t33_1_1_0_1_0_0_1_1 (K : Kont) (E : PanK) (k1 : Env → Hp → Prop) (x0 x1 x2 x3 x4 x5 x6 x7 x8 x9 x10 x11 x12 x13 x14 x15 x16 x17 x18 x19 x20 x21 x22 x23 x24 x25 x26 x27 x28 x29 x30 x31 x32 x33 x34 x35 x36 x37 x38 x39 x40 x41 x42 x43 x44 x45 x46 x47 x48 x49 x50 : Value)  : den Tryd.prog (sel (bodyOf Tryd.f33) [1, 1, 0, 1, 0, 0, 1, 1]) (thenD k1 (blk 0 (thenD (den Tryd.prog (sel (bodyOf Tryd.f33) [1, 1, 1]) (bodyQ Tryd.prog Tryd.f33.results.toList K E)) (bodyQ Tryd.prog Tryd.f33.results.toList K E)))) #[x0, x1, x2, x3, x4, x5, x6, x7, x8, x9, x10, x11, x12, x13, x14, x15, x16, x17, x18, x19, x20, x21, x22, x23, x24, x25, x26, x27, x28, x29, x30, x31, x32, x33, x34, x35, x36, x37, x38, x39, x40, x41, x42, x43, x44, x45, x46, x47, x48, x49, x50] =
  pv (binV .none .add x8 (.int .i64 1)) fun t1 =>
  k1 (m33_1_1_0_1_0_0 x0 x1 x2 x3 x4 x5 x6 x50 x7 t1 (jf #[x0, x1, x2, x3, x4, x5, x6, x7, t1, x9, x10, x11, x12, x13, x14, x8, t1, x17, x18, x19, x20, x21, x22, x23, x24, x25, x26, x27, x28, x29, x30, x31, x32, x33, x34, x35, x36, x37, x38, x39, x40, x41, x42, x43, x44, x45, x46, x47, x48, x49, x50])) := by kernel_rfl
theorem l33_1_1_0_1_0_0 {K : Kont} {E : PanK} {σ : Type} {x0 x1 x2 x3 x4 x5 x6 x50 v7 v8 y9 y10 y11 y12 y13 y14 y15 y16 y17 y18 y19 y20 y21 y22 y23 y24 y25 y26 y27 y28 y29 y30 y31 y32 y33 y34 y35 y36 y37 y38 y39 y40 y41 y42 y43 y44 y45 y46 y47 y48 y49 : Value} {h : Hp} (f7 f8 : σ → Value) (I : σ → Hp → Prop) (μ : σ → Nat) (s0 : σ) (e7 : v7 = f7 s0) (e8 : v8 = f8 s0) (h0 : h.wf → ∃ h', h.wk h' ∧ I s0 h')
  (round : ∀ (k1 : Env → Hp → Prop) (s : σ) (j : Nat → Value) (h : Hp), I s h → h.wf → (∀ s' j' h', μ s' < μ s → (h'.wf → ∃ h'', h'.wk h'' ∧ I s' h'') → k1 (m33_1_1_0_1_0_0 x0 x1 x2 x3 x4 x5 x6 x50 (f7 s') (f8 s') j') h') → (
  pv (lenV x0) fun t1 =>
  pv (binV .none .lss (f8 s) t1) fun t2 =>
  cnd t2 (
    pv (lenV x1) fun t3 =>
    pv (binV .none .lss (f8 s) t3) fun t4 =>
    cnd t4 (
      pv (iaV none 1 x1 (f8 s)) fun t5 =>
      ld false 1 t5 fun t6 =>
      pv (cvV .i64 t6) fun t7 =>
      den Tryd.prog (sel (bodyOf Tryd.f33) [1, 1, 0, 1, 0, 0, 1, 0, 0, 1, 1, 1]) (blk 1 (thenD (den Tryd.prog (sel (bodyOf Tryd.f33) [1, 1, 0, 1, 0, 0, 1, 1]) (thenD k1 (blk 0 (thenD (den Tryd.prog (sel (bodyOf Tryd.f33) [1, 1, 1]) (bodyQ Tryd.prog Tryd.f33.results.toList K E)) (bodyQ Tryd.prog Tryd.f33.results.toList K E))))) (thenD k1 (blk 0 (thenD (den Tryd.prog (sel (bodyOf Tryd.f33) [1, 1, 1]) (bodyQ Tryd.prog Tryd.f33.results.toList K E)) (bodyQ Tryd.prog Tryd.f33.results.toList K E)))))) #[x0, x1, x2, x3, x4, x5, x6, (f7 s), (f8 s), t7, (.int .i64 0), (f8 s), x0, t1, t2, (j 15), (j 16), (f8 s), x1, t3, t4, x1, (f8 s), t5, t6, t7, (j 26), (j 27), (j 28), (j 29), (j 30), (j 31), (j 32), (j 33), (j 34), (j 35), (j 36), (j 37), (j 38), (j 39), (j 40), (j 41), (j 42), (j 43), (j 44), (j 45), (j 46), (j 47), (j 48), (j 49), x50]) (
      den Tryd.prog (sel (bodyOf Tryd.f33) [1, 1, 0, 1, 0, 0, 1, 0, 0, 1, 1, 1]) (blk 1 (thenD (den Tryd.prog (sel (bodyOf Tryd.f33) [1, 1, 0, 1, 0, 0, 1, 1]) (thenD k1 (blk 0 (thenD (den Tryd.prog (sel (bodyOf Tryd.f33) [1, 1, 1]) (bodyQ Tryd.prog Tryd.f33.results.toList K E)) (bodyQ Tryd.prog Tryd.f33.results.toList K E))))) (thenD k1 (blk 0 (thenD (den Tryd.prog (sel (bodyOf Tryd.f33) [1, 1, 1]) (bodyQ Tryd.prog Tryd.f33.results.toList K E)) (bodyQ Tryd.prog Tryd.f33.results.toList K E)))))) #[x0, x1, x2, x3, x4, x5, x6, (f7 s), (f8 s), (.int .i64 0), (.int .i64 0), (f8 s), x0, t1, t2, (j 15), (j 16), (f8 s), x1, t3, t4, (j 21), (j 22), (j 23), (j 24), (j 25), (j 26), (j 27), (j 28), (j 29), (j 30), (j 31), (j 32), (j 33), (j 34), (j 35), (j 36), (j 37), (j 38), (j 39), (j 40), (j 41), (j 42), (j 43), (j 44), (j 45), (j 46), (j 47), (j 48), (j 49), x50])) (
    den Tryd.prog (sel (bodyOf Tryd.f33) [1, 1, 1]) (bodyQ Tryd.prog Tryd.f33.results.toList K E) #[x0, x1, x2, x3, x4, x5, x6, (f7 s), (f8 s), (j 9), (j 10), (f8 s), x0, t1, t2, (j 15), (j 16), (j 17), (j 18), (j 19), (j 20), (j 21), (j 22), (j 23), (j 24), (j 25), (j 26), (j 27), (j 28), (j 29), (j 30), (j 31), (j 32), (j 33), (j 34), (j 35), (j 36), (j 37), (j 38), (j 39), (j 40), (j 41), (j 42), (j 43), (j 44), (j 45), (j 46), (j 47), (j 48), (j 49), x50])) h) :
  lp (fun k1 => den Tryd.prog (sel (bodyOf Tryd.f33) [1, 1, 0, 1, 0, 0]) (thenD k1 (blk 0 (thenD (den Tryd.prog (sel (bodyOf Tryd.f33) [1, 1, 1]) (bodyQ Tryd.prog Tryd.f33.results.toList K E)) (bodyQ Tryd.prog Tryd.f33.results.toList K E))))) #[x0, x1, x2, x3, x4, x5, x6, v7, v8, y9, y10, y11, y12, y13, y14, y15, y16, y17, y18, y19, y20, y21, y22, y23, y24, y25, y26, y27, y28, y29, y30, y31, y32, y33, y34, y35, y36, y37, y38, y39, y40, y41, y42, y43, y44, y45, y46, y47, y48, y49, x50] h := by
  subst e7
  subst e8
  have e : (#[x0, x1, x2, x3, x4, x5, x6, (f7 s0), (f8 s0), y9, y10, y11, y12, y13, y14, y15, y16, y17, y18, y19, y20, y21, y22, y23, y24, y25, y26, y27, y28, y29, y30, y31, y32, y33, y34, y35, y36, y37, y38, y39, y40, y41, y42, y43, y44, y45, y46, y47, y48, y49, x50] : Env) = m33_1_1_0_1_0_0 x0 x1 x2 x3 x4 x5 x6 x50 (f7 s0) (f8 s0) (jf #[x0, x1, x2, x3, x4, x5, x6, (f7 s0), (f8 s0), y9, y10, y11, y12, y13, y14, y15, y16, y17, y18, y19, y20, y21, y22, y23, y24, y25, y26, y27, y28, y29, y30, y31, y32, y33, y34, y35, y36, y37, y38, y39, y40, y41, y42, y43, y44, y45, y46, y47, y48, y49, x50]) := by kernel_rfl
  rw [e]
  exact loop_r (fun s j => m33_1_1_0_1_0_0 x0 x1 x2 x3 x4 x5 x6 x50 (f7 s) (f8 s) j) I μ (fun k s j h hI hw next => by rw [t33_1_1_0_1_0_0]; exact round k s j h hI hw next) s0 (jf #[x0, x1, x2, x3, x4, x5, x6, (f7 s0), (f8 s0), y9, y10, y11, y12, y13, y14, y15, y16, y17, y18, y19, y20, y21, y22, y23, y24, y25, y26, y27, y28, y29, y30, y31, y32, y33, y34, y35, y36, y37, y38, y39, y40, y41, y42, y43, y44, y45, y46, y47, y48, y49, x50]) h0

theorem t57 (K : Kont) (E : PanK) (x0 : Value)  : den Tryd.prog (sel (bodyOf Tryd.f57) []) (bodyQ Tryd.prog Tryd.f57.results.toList K E) #[x0, undef, undef, undef, undef, undef, undef, undef, undef, undef, undef, undef, undef, undef, undef, undef] =
  pv (lenV x0) fun t1 =>
  pv (binV .none .gtr t1 (.int .i64 0)) fun t2 =>
  gdK t2 true (fun k => k x0) fun t3 =>
  gdK t2 true (fun k => pv (lenV t3) k) fun t4 =>
  gdK t2 true (fun k => pv (binV .none .leq t4 (.int .i64 4)) k) fun t5 =>
  pv (pickV t2 t5 (.bool false)) fun t6 =>
  gdK t6 true (fun k => k x0) fun t7 =>
  gdK t6 true (fun k => callv Tryd.prog (.func (.func 84) #[] #[]) #[t7, (.func (.func 85) #[] #[])] k E) fun t8 =>
  gdK t6 true (fun k => pv (unV .not t8) k) fun t9 =>
  pv (pickV t6 t9 (.bool false)) fun t10 =>
  K t10 := by kernel_rfl

theorem t58 (K : Kont) (E : PanK) (x0 x1 x2 : Value)  : den Tryd.prog (sel (bodyOf Tryd.f58) []) (bodyQ Tryd.prog Tryd.f58.results.toList K E) #[x0, x1, x2, undef, undef, undef, undef, undef, undef, undef, undef, undef, undef, undef, undef, undef, undef, undef, undef, undef, undef, undef, undef, undef, undef, undef, undef, undef, undef, undef, undef, undef, undef, undef, undef, undef, undef, undef, undef, undef, undef, undef, undef, undef, undef, undef, undef, undef, undef, undef, undef, undef, undef, undef] =
  pv (lenV x1) fun t1 =>
  pv (lenV x0) fun t2 =>
  pv (binV .none .neq t1 t2) fun t3 =>
  gdK t3 false (fun k => k x2) fun t4 =>
  gdK t3 false (fun k => pv (lenV t4) k) fun t5 =>
  gdK t3 false (fun k => k x0) fun t6 =>
  gdK t3 false (fun k => pv (lenV t6) k) fun t7 =>
  gdK t3 false (fun k => pv (binV .none .neq t5 t7) k) fun t8 =>
  pv (pickV t3 (.bool true) t8) fun t9 =>
  cnd t9 (
    K (.bool false)) (
    pv (lenV x0) fun t10 =>
    lp (fun k1 => den Tryd.prog (sel (bodyOf Tryd.f58) [1, 1, 0, 1, 0, 0]) (thenD k1 (blk 0 (thenD (den Tryd.prog (sel (bodyOf Tryd.f58) [1, 1, 1]) (bodyQ Tryd.prog Tryd.f58.results.toList K E)) (bodyQ Tryd.prog Tryd.f58.results.toList K E))))) #[x0, x1, x2, undef, undef, undef, (.bool false), undef, undef, x1, t1, x0, t2, t3, t3, t4, t5, t6, t7, t8, t9, x0, t10, (.int .i64 0), undef, undef, undef, undef, undef, undef, undef, undef, undef, undef, undef, undef, undef, undef, undef, undef, undef, undef, undef, undef, undef, undef, undef, undef, undef, undef, undef, undef, undef, undef]) := by kernel_rfl
def m58_1_1_0_1_0_0 (x0 x1 x2 x3 x4 x5 x9 x10 x11 x12 x13 x14 x15 x16 x17 x18 x19 x20 x21 x22 : Value) (v23 : Value) (j : Nat → Value) : Env := #[x0, x1, x2, x3, x4, x5, (j 6), (j 7), (j 8), x9, x10, x11, x12, x13, x14, x15, x16, x17, x18, x19, x20, x21, x22, v23, (j 24), (j 25), (j 26), (j 27), (j 28), (j 29), (j 30), (j 31), (j 32), (j 33), (j 34), (j 35), (j 36), (j 37), (j 38), (j 39), (j 40), (j 41), (j 42), (j 43), (j 44), (j 45), (j 46), (j 47), (j 48), (j 49), (j 50), (j 51), (j 52), (j 53)]
theorem t58_1_1_0_1_0_0 (K : Kont) (E : PanK) (k1 : Env → Hp → Prop) (x0 x1 x2 x3 x4 x5 x9 x10 x11 x12 x13 x14 x15 x16 x17 x18 x19 x20 x21 x22 v23 : Value) (j : Nat → Value) : den Tryd.prog (sel (bodyOf Tryd.f58) [1, 1, 0, 1, 0, 0]) (thenD k1 (blk 0 (thenD (den Tryd.prog (sel (bodyOf Tryd.f58) [1, 1, 1]) (bodyQ Tryd.prog Tryd.f58.results.toList K E)) (bodyQ Tryd.prog Tryd.f58.results.toList K E)))) (m58_1_1_0_1_0_0 x0 x1 x2 x3 x4 x5 x9 x10 x11 x12 x13 x14 x15 x16 x17 x18 x19 x20 x21 x22 v23 j) =
  pv (binV .none .lss v23 x22) fun t1 =>
  cnd t1 (
    pv (iaV none 2 x21 v23) fun t2 =>
    ld true 2 t2 fun t3 =>
    nw 51 [(.int .i64 0), (.slice none 0 0)] fun t4 =>
    st 2 t4 t3 fun _ =>
    pv (iaV none 1 x1 v23) fun t5 =>
    ld false 1 t5 fun t6 =>
    pv (binV .none .lss t6 (.int .i64 0)) fun t7 =>
    gdK t7 false (fun k => k x2) fun t8 =>
    gdK t7 false (fun k => k v23) fun t9 =>
    gdK t7 false (fun k => pv (iaV none 1 t8 t9) k) fun t10 =>
    gdK t7 false (fun k => ld false 1 t10 k) fun t11 =>
    gdK t7 false (fun k => k x1) fun t12 =>
    gdK t7 false (fun k => k v23) fun t13 =>
    gdK t7 false (fun k => pv (iaV none 1 t12 t13) k) fun t14 =>
    gdK t7 false (fun k => ld false 1 t14 k) fun t15 =>
    gdK t7 false (fun k => pv (binV .none .lss t11 t15) k) fun t16 =>
    pv (pickV t7 (.bool true) t16) fun t17 =>
    gdK t17 false (fun k => k x2) fun t18 =>
    gdK t17 false (fun k => k v23) fun t19 =>
    gdK t17 false (fun k => pv (iaV none 1 t18 t19) k) fun t20 =>
    gdK t17 false (fun k => ld false 1 t20 k) fun t21 =>
    gdK t17 false (fun k => ld true 2 t4 k) fun t22 =>
    gdK t17 false (fun k => callv Tryd.prog (.func (.func 68) #[] #[]) #[t22] k E) (fun t23 h24 => (isB t17 false = true → ldV h24 false 1 t20 t21) ∧ (
      gdK t17 false (fun k => pv (binV .none .geq t21 t23) k) fun t25 =>
      pv (pickV t17 (.bool true) t25) fun t26 =>
      cnd t26 (
        K (.bool false)) (
        pv (binV .none .add v23 (.int .i64 1)) fun t27 =>
        k1 (m58_1_1_0_1_0_0 x0 x1 x2 x3 x4 x5 x9 x10 x11 x12 x13 x14 x15 x16 x17 x18 x19 x20 x21 x22 t27 (jf #[x0, x1, x2, x3, x4, x5, (j 6), v23, t4, x9, x10, x11, x12, x13, x14, x15, x16, x17, x18, x19, x20, x21, x22, t27, t1, v23, t2, t3, x1, v23, t5, t6, t7, t7, t8, t9, t10, t11, t12, t13, t14, t15, t16, t17, t17, t18, t19, t20, t21, t22, t23, t25, t26, t27])))) h24)) (
    den Tryd.prog (sel (bodyOf Tryd.f58) [1, 1, 1]) (bodyQ Tryd.prog Tryd.f58.results.toList K E) #[x0, x1, x2, x3, x4, x5, (j 6), (j 7), (j 8), x9, x10, x11, x12, x13, x14, x15, x16, x17, x18, x19, x20, x21, x22, v23, t1, (j 25), (j 26), (j 27), (j 28), (j 29), (j 30), (j 31), (j 32), (j 33), (j 34), (j 35), (j 36), (j 37), (j 38), (j 39), (j 40), (j 41), (j 42), (j 43), (j 44), (j 45), (j 46), (j 47), (j 48), (j 49), (j 50), (j 51), (j 52), (j 53)]) := by kernel_rfl
theorem t58_1_1_1 (K : Kont) (E : PanK) (x0 x1 x2 x3 x4 x5 x6 x7 x8 x9 x10 x11 x12 x13 x14 x15 x16 x17 x18 x19 x20 x21 x22 x23 x24 x25 x26 x27 x28 x29 x30 x31 x32 x33 x34 x35 x36 x37 x38 x39 x40 x41 x42 x43 x44 x45 x46 x47 x48 x49 x50 x51 x52 x53 : Value)  : den Tryd.prog (sel (bodyOf Tryd.f58) [1, 1, 1]) (bodyQ Tryd.prog Tryd.f58.results.toList K E) #[x0, x1, x2, x3, x4, x5, x6, x7, x8, x9, x10, x11, x12, x13, x14, x15, x16, x17, x18, x19, x20, x21, x22, x23, x24, x25, x26, x27, x28, x29, x30, x31, x32, x33, x34, x35, x36, x37, x38, x39, x40, x41, x42, x43, x44, x45, x46, x47, x48, x49, x50, x51, x52, x53] =
  K (.bool true) := by kernel_rfl
theorem l58_1_1_0_1_0_0 {K : Kont} {E : PanK} {σ : Type} {x0 x1 x2 x3 x4 x5 x9 x10 x11 x12 x13 x14 x15 x16 x17 x18 x19 x20 x21 x22 v23 y6 y7 y8 y24 y25 y26 y27 y28 y29 y30 y31 y32 y33 y34 y35 y36 y37 y38 y39 y40 y41 y42 y43 y44 y45 y46 y47 y48 y49 y50 y51 y52 y53 : Value} {h : Hp} (f23 : σ → Value) (I : σ → Hp → Prop) (μ : σ → Nat) (s0 : σ) (e23 : v23 = f23 s0) (h0 : h.wf → ∃ h', h.wk h' ∧ I s0 h')
  (round : ∀ (k1 : Env → Hp → Prop) (s : σ) (j : Nat → Value) (h : Hp), I s h → h.wf → (∀ s' j' h', μ s' < μ s → (h'.wf → ∃ h'', h'.wk h'' ∧ I s' h'') → k1 (m58_1_1_0_1_0_0 x0 x1 x2 x3 x4 x5 x9 x10 x11 x12 x13 x14 x15 x16 x17 x18 x19 x20 x21 x22 (f23 s') j') h') → (
  pv (binV .none .lss (f23 s) x22) fun t1 =>
  cnd t1 (
    pv (iaV none 2 x21 (f23 s)) fun t2 =>
    ld true 2 t2 fun t3 =>
    nw 51 [(.int .i64 0), (.slice none 0 0)] fun t4 =>
    st 2 t4 t3 fun _ =>
    pv (iaV none 1 x1 (f23 s)) fun t5 =>
    ld false 1 t5 fun t6 =>
    pv (binV .none .lss t6 (.int .i64 0)) fun t7 =>
    gdK t7 false (fun k => k x2) fun t8 =>
    gdK t7 false (fun k => k (f23 s)) fun t9 =>
    gdK t7 false (fun k => pv (iaV none 1 t8 t9) k) fun t10 =>
    gdK t7 false (fun k => ld false 1 t10 k) fun t11 =>
    gdK t7 false (fun k => k x1) fun t12 =>
    gdK t7 false (fun k => k (f23 s)) fun t13 =>
    gdK t7 false (fun k => pv (iaV none 1 t12 t13) k) fun t14 =>
    gdK t7 false (fun k => ld false 1 t14 k) fun t15 =>
    gdK t7 false (fun k => pv (binV .none .lss t11 t15) k) fun t16 =>
    pv (pickV t7 (.bool true) t16) fun t17 =>
    gdK t17 false (fun k => k x2) fun t18 =>
    gdK t17 false (fun k => k (f23 s)) fun t19 =>
    gdK t17 false (fun k => pv (iaV none 1 t18 t19) k) fun t20 =>
    gdK t17 false (fun k => ld false 1 t20 k) fun t21 =>
    gdK t17 false (fun k => ld true 2 t4 k) fun t22 =>
    gdK t17 false (fun k => callv Tryd.prog (.func (.func 68) #[] #[]) #[t22] k E) (fun t23 h24 => (isB t17 false = true → ldV h24 false 1 t20 t21) ∧ (
      gdK t17 false (fun k => pv (binV .none .geq t21 t23) k) fun t25 =>
      pv (pickV t17 (.bool true) t25) fun t26 =>
      cnd t26 (
        K (.bool false)) (
        pv (binV .none .add (f23 s) (.int .i64 1)) fun t27 =>
        k1 (m58_1_1_0_1_0_0 x0 x1 x2 x3 x4 x5 x9 x10 x11 x12 x13 x14 x15 x16 x17 x18 x19 x20 x21 x22 t27 (jf #[x0, x1, x2, x3, x4, x5, (j 6), (f23 s), t4, x9, x10, x11, x12, x13, x14, x15, x16, x17, x18, x19, x20, x21, x22, t27, t1, (f23 s), t2, t3, x1, (f23 s), t5, t6, t7, t7, t8, t9, t10, t11, t12, t13, t14, t15, t16, t17, t17, t18, t19, t20, t21, t22, t23, t25, t26, t27])))) h24)) (
    den Tryd.prog (sel (bodyOf Tryd.f58) [1, 1, 1]) (bodyQ Tryd.prog Tryd.f58.results.toList K E) #[x0, x1, x2, x3, x4, x5, (j 6), (j 7), (j 8), x9, x10, x11, x12, x13, x14, x15, x16, x17, x18, x19, x20, x21, x22, (f23 s), t1, (j 25), (j 26), (j 27), (j 28), (j 29), (j 30), (j 31), (j 32), (j 33), (j 34), (j 35), (j 36), (j 37), (j 38), (j 39), (j 40), (j 41), (j 42), (j 43), (j 44), (j 45), (j 46), (j 47), (j 48), (j 49), (j 50), (j 51), (j 52), (j 53)])) h) :
  lp (fun k1 => den Tryd.prog (sel (bodyOf Tryd.f58) [1, 1, 0, 1, 0, 0]) (thenD k1 (blk 0 (thenD (den Tryd.prog (sel (bodyOf Tryd.f58) [1, 1, 1]) (bodyQ Tryd.prog Tryd.f58.results.toList K E)) (bodyQ Tryd.prog Tryd.f58.results.toList K E))))) #[x0, x1, x2, x3, x4, x5, y6, y7, y8, x9, x10, x11, x12, x13, x14, x15, x16, x17, x18, x19, x20, x21, x22, v23, y24, y25, y26, y27, y28, y29, y30, y31, y32, y33, y34, y35, y36, y37, y38, y39, y40, y41, y42, y43, y44, y45, y46, y47, y48, y49, y50, y51, y52, y53] h := by
  subst e23
  have e : (#[x0, x1, x2, x3, x4, x5, y6, y7, y8, x9, x10, x11, x12, x13, x14, x15, x16, x17, x18, x19, x20, x21, x22, (f23 s0), y24, y25, y26, y27, y28, y29, y30, y31, y32, y33, y34, y35, y36, y37, y38, y39, y40, y41, y42, y43, y44, y45, y46, y47, y48, y49, y50, y51, y52, y53] : Env) = m58_1_1_0_1_0_0 x0 x1 x2 x3 x4 x5 x9 x10 x11 x12 x13 x14 x15 x16 x17 x18 x19 x20 x21 x22 (f23 s0) (jf #[x0, x1, x2, x3, x4, x5, y6, y7, y8, x9, x10, x11, x12, x13, x14, x15, x16, x17, x18, x19, x20, x21, x22, (f23 s0), y24, y25, y26, y27, y28, y29, y30, y31, y32, y33, y34, y35, y36, y37, y38, y39, y40, y41, y42, y43, y44, y45, y46, y47, y48, y49, y50, y51, y52, y53]) := by kernel_rfl
  rw [e]
  exact loop_r (fun s j => m58_1_1_0_1_0_0 x0 x1 x2 x3 x4 x5 x9 x10 x11 x12 x13 x14 x15 x16 x17 x18 x19 x20 x21 x22 (f23 s) j) I μ (fun k s j h hI hw next => by rw [t58_1_1_0_1_0_0]; exact round k s j h hI hw next) s0 (jf #[x0, x1, x2, x3, x4, x5, y6, y7, y8, x9, x10, x11, x12, x13, x14, x15, x16, x17, x18, x19, x20, x21, x22, (f23 s0), y24, y25, y26, y27, y28, y29, y30, y31, y32, y33, y34, y35, y36, y37, y38, y39, y40, y41, y42, y43, y44, y45, y46, y47, y48, y49, y50, y51, y52, y53]) h0

theorem t59 (K : Kont) (E : PanK) (x0 x1 x2 x3 : Value)  : den Tryd.prog (sel (bodyOf Tryd.f59) []) (bodyQ Tryd.prog Tryd.f59.results.toList K E) #[x0, x1, x2, x3, undef, undef, undef, undef, undef, undef, undef] =
  ld false 1 x1 fun t1 =>
  ld false 1 x2 fun t2 =>
  ld false 1 x3 fun t3 =>
  callv Tryd.prog (.func (.func 60) #[] #[]) #[t1, t2, t3, x0] (fun t4 =>
  K t4) E := by kernel_rfl

theorem t60 (K : Kont) (E : PanK) (x0 x1 x2 x3 : Value)  : den Tryd.prog (sel (bodyOf Tryd.f60) []) (bodyQ Tryd.prog Tryd.f60.results.toList K E) #[x0, x1, x2, x3, undef, undef, undef, undef, undef, undef, undef, undef, undef, undef, undef, undef, undef, undef, undef, undef, undef, undef, undef, undef, undef, undef, undef, undef, undef, undef, undef, undef, undef, undef, undef, undef, undef, undef, undef, undef, undef, undef, undef, undef, undef, undef, undef, undef, undef, undef, undef, undef, undef, undef, undef, undef, undef, undef, undef, undef, undef, undef, undef, undef, undef] =
  callv Tryd.prog (.func (.func 57) #[] #[]) #[x0] (fun t1 =>
  pv (unV .not t1) fun t2 =>
  gdK t2 false (fun k => k x1) fun t3 =>
  gdK t2 false (fun k => pv (lenV t3) k) fun t4 =>
  gdK t2 false (fun k => k x0) fun t5 =>
  gdK t2 false (fun k => pv (lenV t5) k) fun t6 =>
  gdK t2 false (fun k => pv (binV .none .neq t4 t6) k) fun t7 =>
  pv (pickV t2 (.bool true) t7) fun t8 =>
  gdK t8 false (fun k => k x2) fun t9 =>
  gdK t8 false (fun k => pv (lenV t9) k) fun t10 =>
  gdK t8 false (fun k => k x0) fun t11 =>
  gdK t8 false (fun k => pv (lenV t11) k) fun t12 =>
  gdK t8 false (fun k => pv (binV .none .neq t10 t12) k) fun t13 =>
  pv (pickV t8 (.bool true) t13) fun t14 =>
  gdK t14 false (fun k => k x3) fun t15 =>
  gdK t14 false (fun k => pv (lenV t15) k) fun t16 =>
  gdK t14 false (fun k => k x0) fun t17 =>
  gdK t14 false (fun k => pv (lenV t17) k) fun t18 =>
  gdK t14 false (fun k => pv (binV .none .neq t16 t18) k) fun t19 =>
  pv (pickV t14 (.bool true) t19) fun t20 =>
  cnd t20 (
    K (.slice none 0 0)) (
    pv (lenV x0) fun t21 =>
    mks 3 [(.int .i64 0)] 1 8 t21 t21 fun t22 =>
    pv (lenV x0) fun t23 =>
    lp (fun k1 => den Tryd.prog (sel (bodyOf Tryd.f60) [1, 1, 1, 0, 1, 0, 0]) (thenD k1 (blk 0 (thenD (den Tryd.prog (sel (bodyOf Tryd.f60) [1, 1, 1, 1]) (bodyQ Tryd.prog Tryd.f60.results.toList K E)) (bodyQ Tryd.prog Tryd.f60.results.toList K E))))) #[x0, x1, x2, x3, undef, undef, undef, undef, (.slice none 0 0), t22, undef, undef, x0, t1, t2, t2, t3, t4, t5, t6, t7, t8, t8, t9, t10, t11, t12, t13, t14, t14, t15, t16, t17, t18, t19, t20, x0, t21, t22, x0, t23, (.int .i64 0), undef, undef, undef, undef, undef, undef, undef, undef, undef, undef, undef, undef, undef, undef, undef, undef, undef, undef, undef, undef, undef, undef, undef])) E := by kernel_rfl
def m60_1_1_1_0_1_0_0 (x0 x1 x2 x3 x4 x5 x6 x7 x8 x9 x12 x13 x14 x15 x16 x17 x18 x19 x20 x21 x22 x23 x24 x25 x26 x27 x28 x29 x30 x31 x32 x33 x34 x35 x36 x37 x38 x39 x40 x64 : Value) (v41 : Value) (j : Nat → Value) : Env := #[x0, x1, x2, x3, x4, x5, x6, x7, x8, x9, (j 10), (j 11), x12, x13, x14, x15, x16, x17, x18, x19, x20, x21, x22, x23, x24, x25, x26, x27, x28, x29, x30, x31, x32, x33, x34, x35, x36, x37, x38, x39, x40, v41, (j 42), (j 43), (j 44), (j 45), (j 46), (j 47), (j 48), (j 49), (j 50), (j 51), (j 52), (j 53), (j 54), (j 55), (j 56), (j 57), (j 58), (j 59), (j 60), (j 61), (j 62), (j 63), x64]
theorem t60_1_1_1_0_1_0_0 (K : Kont) (E : PanK) (k1 : Env → Hp → Prop) (x0 x1 x2 x3 x4 x5 x6 x7 x8 x9 x12 x13 x14 x15 x16 x17 x18 x19 x20 x21 x22 x23 x24 x25 x26 x27 x28 x29 x30 x31 x32 x33 x34 x35 x36 x37 x38 x39 x40 x64 v41 : Value) (j : Nat → Value) : den Tryd.prog (sel (bodyOf Tryd.f60) [1, 1, 1, 0, 1, 0, 0]) (thenD k1 (blk 0 (thenD (den Tryd.prog (sel (bodyOf Tryd.f60) [1, 1, 1, 1]) (bodyQ Tryd.prog Tryd.f60.results.toList K E)) (bodyQ Tryd.prog Tryd.f60.results.toList K E)))) (m60_1_1_1_0_1_0_0 x0 x1 x2 x3 x4 x5 x6 x7 x8 x9 x12 x13 x14 x15 x16 x17 x18 x19 x20 x21 x22 x23 x24 x25 x26 x27 x28 x29 x30 x31 x32 x33 x34 x35 x36 x37 x38 x39 x40 x64 v41 j) =
  pv (binV .none .lss v41 x40) fun t1 =>
  cnd t1 (
    pv (iaV none 2 x39 v41) fun t2 =>
    ld true 2 t2 fun t3 =>
    nw 51 [(.int .i64 0), (.slice none 0 0)] fun t4 =>
    st 2 t4 t3 fun _ =>
    ld true 2 t4 fun t5 =>
    pv (iaV none 1 x1 v41) fun t6 =>
    ld false 1 t6 fun t7 =>
    pv (iaV none 1 x2 v41) fun t8 =>
    ld false 1 t8 fun t9 =>
    pv (iaV none 1 x3 v41) fun t10 =>
    ld false 1 t10 fun t11 =>
    callv Tryd.prog (.func (.func 87) #[] #[]) #[t5, t7, t9, t11] (fun t12 =>
    pv (iaV none 1 x9 v41) fun t13 =>
    st 1 t13 t12 fun _ =>
    pv (binV .none .add v41 (.int .i64 1)) fun t14 =>
    k1 (m60_1_1_1_0_1_0_0 x0 x1 x2 x3 x4 x5 x6 x7 x8 x9 x12 x13 x14 x15 x16 x17 x18 x19 x20 x21 x22 x23 x24 x25 x26 x27 x28 x29 x30 x31 x32 x33 x34 x35 x36 x37 x38 x39 x40 x64 t14 (jf #[x0, x1, x2, x3, x4, x5, x6, x7, x8, x9, v41, t4, x12, x13, x14, x15, x16, x17, x18, x19, x20, x21, x22, x23, x24, x25, x26, x27, x28, x29, x30, x31, x32, x33, x34, x35, x36, x37, x38, x39, x40, t14, t1, v41, t2, t3, x9, v41, t5, x1, v41, t6, t7, x2, v41, t8, t9, x3, v41, t10, t11, t12, t13, t14, x64]))) E) (
    den Tryd.prog (sel (bodyOf Tryd.f60) [1, 1, 1, 1]) (bodyQ Tryd.prog Tryd.f60.results.toList K E) #[x0, x1, x2, x3, x4, x5, x6, x7, x8, x9, (j 10), (j 11), x12, x13, x14, x15, x16, x17, x18, x19, x20, x21, x22, x23, x24, x25, x26, x27, x28, x29, x30, x31, x32, x33, x34, x35, x36, x37, x38, x39, x40, v41, t1, (j 43), (j 44), (j 45), (j 46), (j 47), (j 48), (j 49), (j 50), (j 51), (j 52), (j 53), (j 54), (j 55), (j 56), (j 57), (j 58), (j 59), (j 60), (j 61), (j 62), (j 63), x64]) := by kernel_rfl
theorem t60_1_1_1_1 (K : Kont) (E : PanK) (x0 x1 x2 x3 x4 x5 x6 x7 x8 x9 x10 x11 x12 x13 x14 x15 x16 x17 x18 x19 x20 x21 x22 x23 x24 x25 x26 x27 x28 x29 x30 x31 x32 x33 x34 x35 x36 x37 x38 x39 x40 x41 x42 x43 x44 x45 x46 x47 x48 x49 x50 x51 x52 x53 x54 x55 x56 x57 x58 x59 x60 x61 x62 x63 x64 : Value)  : den Tryd.prog (sel (bodyOf Tryd.f60) [1, 1, 1, 1]) (bodyQ Tryd.prog Tryd.f60.results.toList K E) #[x0, x1, x2, x3, x4, x5, x6, x7, x8, x9, x10, x11, x12, x13, x14, x15, x16, x17, x18, x19, x20, x21, x22, x23, x24, x25, x26, x27, x28, x29, x30, x31, x32, x33, x34, x35, x36, x37, x38, x39, x40, x41, x42, x43, x44, x45, x46, x47, x48, x49, x50, x51, x52, x53, x54, x55, x56, x57, x58, x59, x60, x61, x62, x63, x64] =
  K x9 := by kernel_rfl
theorem l60_1_1_1_0_1_0_0 {K : Kont} {E : PanK} {σ : Type} {x0 x1 x2 x3 x4 x5 x6 x7 x8 x9 x12 x13 x14 x15 x16 x17 x18 x19 x20 x21 x22 x23 x24 x25 x26 x27 x28 x29 x30 x31 x32 x33 x34 x35 x36 x37 x38 x39 x40 x64 v41 y10 y11 y42 y43 y44 y45 y46 y47 y48 y49 y50 y51 y52 y53 y54 y55 y56 y57 y58 y59 y60 y61 y62 y63 : Value} {h : Hp} (f41 : σ → Value) (I : σ → Hp → Prop) (μ : σ → Nat) (s0 : σ) (e41 : v41 = f41 s0) (h0 : h.wf → ∃ h', h.wk h' ∧ I s0 h')
  (round : ∀ (k1 : Env → Hp → Prop) (s : σ) (j : Nat → Value) (h : Hp), I s h → h.wf → (∀ s' j' h', μ s' < μ s → (h'.wf → ∃ h'', h'.wk h'' ∧ I s' h'') → k1 (m60_1_1_1_0_1_0_0 x0 x1 x2 x3 x4 x5 x6 x7 x8 x9 x12 x13 x14 x15 x16 x17 x18 x19 x20 x21 x22 x23 x24 x25 x26 x27 x28 x29 x30 x31 x32 x33 x34 x35 x36 x37 x38 x39 x40 x64 (f41 s') j') h') → (
  pv (binV .none .lss (f41 s) x40) fun t1 =>
  cnd t1 (
    pv (iaV none 2 x39 (f41 s)) fun t2 =>
    ld true 2 t2 fun t3 =>
    nw 51 [(.int .i64 0), (.slice none 0 0)] fun t4 =>
    st 2 t4 t3 fun _ =>
    ld true 2 t4 fun t5 =>
    pv (iaV none 1 x1 (f41 s)) fun t6 =>
    ld false 1 t6 fun t7 =>
    pv (iaV none 1 x2 (f41 s)) fun t8 =>
    ld false 1 t8 fun t9 =>
    pv (iaV none 1 x3 (f41 s)) fun t10 =>
    ld false 1 t10 fun t11 =>
    callv Tryd.prog (.func (.func 87) #[] #[]) #[t5, t7, t9, t11] (fun t12 =>
    pv (iaV none 1 x9 (f41 s)) fun t13 =>
    st 1 t13 t12 fun _ =>
    pv (binV .none .add (f41 s) (.int .i64 1)) fun t14 =>
    k1 (m60_1_1_1_0_1_0_0 x0 x1 x2 x3 x4 x5 x6 x7 x8 x9 x12 x13 x14 x15 x16 x17 x18 x19 x20 x21 x22 x23 x24 x25 x26 x27 x28 x29 x30 x31 x32 x33 x34 x35 x36 x37 x38 x39 x40 x64 t14 (jf #[x0, x1, x2, x3, x4, x5, x6, x7, x8, x9, (f41 s), t4, x12, x13, x14, x15, x16, x17, x18, x19, x20, x21, x22, x23, x24, x25, x26, x27, x28, x29, x30, x31, x32, x33, x34, x35, x36, x37, x38, x39, x40, t14, t1, (f41 s), t2, t3, x9, (f41 s), t5, x1, (f41 s), t6, t7, x2, (f41 s), t8, t9, x3, (f41 s), t10, t11, t12, t13, t14, x64]))) E) (
    den Tryd.prog (sel (bodyOf Tryd.f60) [1, 1, 1, 1]) (bodyQ Tryd.prog Tryd.f60.results.toList K E) #[x0, x1, x2, x3, x4, x5, x6, x7, x8, x9, (j 10), (j 11), x12, x13, x14, x15, x16, x17, x18, x19, x20, x21, x22, x23, x24, x25, x26, x27, x28, x29, x30, x31, x32, x33, x34, x35, x36, x37, x38, x39, x40, (f41 s), t1, (j 43), (j 44), (j 45), (j 46), (j 47), (j 48), (j 49), (j 50), (j 51), (j 52), (j 53), (j 54), (j 55), (j 56), (j 57), (j 58), (j 59), (j 60), (j 61), (j 62), (j 63), x64])) h) :
  lp (fun k1 => den Tryd.prog (sel (bodyOf Tryd.f60) [1, 1, 1, 0, 1, 0, 0]) (thenD k1 (blk 0 (thenD (den Tryd.prog (sel (bodyOf Tryd.f60) [1, 1, 1, 1]) (bodyQ Tryd.prog Tryd.f60.results.toList K E)) (bodyQ Tryd.prog Tryd.f60.results.toList K E))))) #[x0, x1, x2, x3, x4, x5, x6, x7, x8, x9, y10, y11, x12, x13, x14, x15, x16, x17, x18, x19, x20, x21, x22, x23, x24, x25, x26, x27, x28, x29, x30, x31, x32, x33, x34, x35, x36, x37, x38, x39, x40, v41, y42, y43, y44, y45, y46, y47, y48, y49, y50, y51, y52, y53, y54, y55, y56, y57, y58, y59, y60, y61, y62, y63, x64] h := by
  subst e41
  have e : (#[x0, x1, x2, x3, x4, x5, x6, x7, x8, x9, y10, y11, x12, x13, x14, x15, x16, x17, x18, x19, x20, x21, x22, x23, x24, x25, x26, x27, x28, x29, x30, x31, x32, x33, x34, x35, x36, x37, x38, x39, x40, (f41 s0), y42, y43, y44, y45, y46, y47, y48, y49, y50, y51, y52, y53, y54, y55, y56, y57, y58, y59, y60, y61, y62, y63, x64] : Env) = m60_1_1_1_0_1_0_0 x0 x1 x2 x3 x4 x5 x6 x7 x8 x9 x12 x13 x14 x15 x16 x17 x18 x19 x20 x21 x22 x23 x24 x25 x26 x27 x28 x29 x30 x31 x32 x33 x34 x35 x36 x37 x38 x39 x40 x64 (f41 s0) (jf #[x0, x1, x2, x3, x4, x5, x6, x7, x8, x9, y10, y11, x12, x13, x14, x15, x16, x17, x18, x19, x20, x21, x22, x23, x24, x25, x26, x27, x28, x29, x30, x31, x32, x33, x34, x35, x36, x37, x38, x39, x40, (f41 s0), y42, y43, y44, y45, y46, y47, y48, y49, y50, y51, y52, y53, y54, y55, y56, y57, y58, y59, y60, y61, y62, y63, x64]) := by kernel_rfl
  rw [e]
  exact loop_r (fun s j => m60_1_1_1_0_1_0_0 x0 x1 x2 x3 x4 x5 x6 x7 x8 x9 x12 x13 x14 x15 x16 x17 x18 x19 x20 x21 x22 x23 x24 x25 x26 x27 x28 x29 x30 x31 x32 x33 x34 x35 x36 x37 x38 x39 x40 x64 (f41 s) j) I μ (fun k s j h hI hw next => by rw [t60_1_1_1_0_1_0_0]; exact round k s j h hI hw next) s0 (jf #[x0, x1, x2, x3, x4, x5, x6, x7, x8, x9, y10, y11, x12, x13, x14, x15, x16, x17, x18, x19, x20, x21, x22, x23, x24, x25, x26, x27, x28, x29, x30, x31, x32, x33, x34, x35, x36, x37, x38, x39, x40, (f41 s0), y42, y43, y44, y45, y46, y47, y48, y49, y50, y51, y52, y53, y54, y55, y56, y57, y58, y59, y60, y61, y62, y63, x64]) h0

theorem t61 (K : Kont) (E : PanK) (x0 : Value)  : den Tryd.prog (sel (bodyOf Tryd.f61) []) (bodyQ Tryd.prog Tryd.f61.results.toList K E) #[x0, undef, undef, undef, undef, undef, undef, undef, undef, undef, undef, undef, undef, undef, undef, undef, undef, undef, undef, undef, undef, undef, undef, undef] =
  lp (fun k1 => den Tryd.prog (sel (bodyOf Tryd.f61) [1, 0, 1, 0, 0]) (thenD k1 (blk 0 (thenD (den Tryd.prog (sel (bodyOf Tryd.f61) [1, 1]) (bodyQ Tryd.prog Tryd.f61.results.toList K E)) (bodyQ Tryd.prog Tryd.f61.results.toList K E))))) #[x0, undef, (.bool false), (.int .i64 0), undef, undef, undef, undef, undef, undef, undef, undef, undef, undef, undef, undef, undef, undef, undef, undef, undef, undef, undef, undef] := by kernel_rfl
def m61_1_0_1_0_0 (x0 x1 x16 x17 x18 x19 x20 x21 x22 x23 : Value) (v3 : Value) (j : Nat → Value) : Env := #[x0, x1, (j 2), v3, (j 4), (j 5), (j 6), (j 7), (j 8), (j 9), (j 10), (j 11), (j 12), (j 13), (j 14), (j 15), x16, x17, x18, x19, x20, x21, x22, x23]
theorem t61_1_0_1_0_0 (K : Kont) (E : PanK) (k1 : Env → Hp → Prop) (x0 x1 x16 x17 x18 x19 x20 x21 x22 x23 v3 : Value) (j : Nat → Value) : den Tryd.prog (sel (bodyOf Tryd.f61) [1, 0, 1, 0, 0]) (thenD k1 (blk 0 (thenD (den Tryd.prog (sel (bodyOf Tryd.f61) [1, 1]) (bodyQ Tryd.prog Tryd.f61.results.toList K E)) (bodyQ Tryd.prog Tryd.f61.results.toList K E)))) (m61_1_0_1_0_0 x0 x1 x16 x17 x18 x19 x20 x21 x22 x23 v3 j) =
  pv (lenV x0) fun t1 =>
  pv (binV .none .lss v3 t1) fun t2 =>
  cnd t2 (
    pv (iaV none 2 x0 v3) fun t3 =>
    ld true 2 t3 fun t4 =>
    callv Tryd.prog (.func (.func 88) #[] #[]) #[t4] (fun t5 =>
    pv (unV .not t5) fun t6 =>
    cnd t6 (
      K (.bool false)) (
      pv (binV .none .add v3 (.int .i64 1)) fun t7 =>
      k1 (m61_1_0_1_0_0 x0 x1 x16 x17 x18 x19 x20 x21 x22 x23 t7 (jf #[x0, x1, (j 2), t7, v3, x0, t1, t2, v3, t7, x0, v3, t3, t4, t5, t6, x16, x17, x18, x19, x20, x21, x22, x23])))) E) (
    den Tryd.prog (sel (bodyOf Tryd.f61) [1, 1]) (bodyQ Tryd.prog Tryd.f61.results.toList K E) #[x0, x1, (j 2), v3, v3, x0, t1, t2, (j 8), (j 9), (j 10), (j 11), (j 12), (j 13), (j 14), (j 15), x16, x17, x18, x19, x20, x21, x22, x23]) := by kernel_rfl
theorem t61_1_1 (K : Kont) (E : PanK) (x0 x1 x2 x3 x4 x5 x6 x7 x8 x9 x10 x11 x12 x13 x14 x15 x16 x17 x18 x19 x20 x21 x22 x23 : Value)  : den Tryd.prog (sel (bodyOf Tryd.f61) [1, 1]) (bodyQ Tryd.prog Tryd.f61.results.toList K E) #[x0, x1, x2, x3, x4, x5, x6, x7, x8, x9, x10, x11, x12, x13, x14, x15, x16, x17, x18, x19, x20, x21, x22, x23] =
  pv (lenV x0) fun t1 =>
  pv (binV .none .geq t1 (.int .i64 1)) fun t2 =>
  gdK t2 true (fun k => k x0) fun t3 =>
  gdK t2 true (fun k => pv (lenV t3) k) fun t4 =>
  gdK t2 true (fun k => pv (binV .none .leq t4 (.int .i64 4)) k) fun t5 =>
  pv (pickV t2 t5 (.bool false)) fun t6 =>
  K t6 := by kernel_rfl
theorem l61_1_0_1_0_0 {K : Kont} {E : PanK} {σ : Type} {x0 x1 x16 x17 x18 x19 x20 x21 x22 x23 v3 y2 y4 y5 y6 y7 y8 y9 y10 y11 y12 y13 y14 y15 : Value} {h : Hp} (f3 : σ → Value) (I : σ → Hp → Prop) (μ : σ → Nat) (s0 : σ) (e3 : v3 = f3 s0) (h0 : h.wf → ∃ h', h.wk h' ∧ I s0 h')
  (round : ∀ (k1 : Env → Hp → Prop) (s : σ) (j : Nat → Value) (h : Hp), I s h → h.wf → (∀ s' j' h', μ s' < μ s → (h'.wf → ∃ h'', h'.wk h'' ∧ I s' h'') → k1 (m61_1_0_1_0_0 x0 x1 x16 x17 x18 x19 x20 x21 x22 x23 (f3 s') j') h') → (
  pv (lenV x0) fun t1 =>
  pv (binV .none .lss (f3 s) t1) fun t2 =>
  cnd t2 (
    pv (iaV none 2 x0 (f3 s)) fun t3 =>
    ld true 2 t3 fun t4 =>
    callv Tryd.prog (.func (.func 88) #[] #[]) #[t4] (fun t5 =>
    pv (unV .not t5) fun t6 =>
    cnd t6 (
      K (.bool false)) (
      pv (binV .none .add (f3 s) (.int .i64 1)) fun t7 =>
      k1 (m61_1_0_1_0_0 x0 x1 x16 x17 x18 x19 x20 x21 x22 x23 t7 (jf #[x0, x1, (j 2), t7, (f3 s), x0, t1, t2, (f3 s), t7, x0, (f3 s), t3, t4, t5, t6, x16, x17, x18, x19, x20, x21, x22, x23])))) E) (
    den Tryd.prog (sel (bodyOf Tryd.f61) [1, 1]) (bodyQ Tryd.prog Tryd.f61.results.toList K E) #[x0, x1, (j 2), (f3 s), (f3 s), x0, t1, t2, (j 8), (j 9), (j 10), (j 11), (j 12), (j 13), (j 14), (j 15), x16, x17, x18, x19, x20, x21, x22, x23])) h) :
  lp (fun k1 => den Tryd.prog (sel (bodyOf Tryd.f61) [1, 0, 1, 0, 0]) (thenD k1 (blk 0 (thenD (den Tryd.prog (sel (bodyOf Tryd.f61) [1, 1]) (bodyQ Tryd.prog Tryd.f61.results.toList K E)) (bodyQ Tryd.prog Tryd.f61.results.toList K E))))) #[x0, x1, y2, v3, y4, y5, y6, y7, y8, y9, y10, y11, y12, y13, y14, y15, x16, x17, x18, x19, x20, x21, x22, x23] h := by
  subst e3
  have e : (#[x0, x1, y2, (f3 s0), y4, y5, y6, y7, y8, y9, y10, y11, y12, y13, y14, y15, x16, x17, x18, x19, x20, x21, x22, x23] : Env) = m61_1_0_1_0_0 x0 x1 x16 x17 x18 x19 x20 x21 x22 x23 (f3 s0) (jf #[x0, x1, y2, (f3 s0), y4, y5, y6, y7, y8, y9, y10, y11, y12, y13, y14, y15, x16, x17, x18, x19, x20, x21, x22, x23]) := by kernel_rfl
  rw [e]
  exact loop_r (fun s j => m61_1_0_1_0_0 x0 x1 x16 x17 x18 x19 x20 x21 x22 x23 (f3 s) j) I μ (fun k s j h hI hw next => by rw [t61_1_0_1_0_0]; exact round k s j h hI hw next) s0 (jf #[x0, x1, y2, (f3 s0), y4, y5, y6, y7, y8, y9, y10, y11, y12, y13, y14, y15, x16, x17, x18, x19, x20, x21, x22, x23]) h0

theorem t62 (K : Kont) (E : PanK) (x0 x1 x2 : Value)  : den Tryd.prog (sel (bodyOf Tryd.f62) []) (bodyQ Tryd.prog Tryd.f62.results.toList K E) #[x0, x1, x2, undef, undef, undef, undef, undef, undef, undef, undef, undef, undef, undef, undef, undef, undef, undef, undef, undef, undef, undef, undef, undef, undef, undef, undef, undef, undef, undef, undef, undef, undef, undef, undef, undef, undef, undef, undef, undef, undef, undef, undef, undef, undef, undef, undef, undef, undef, undef, undef, undef, undef, undef] =
  pv (lenV x1) fun t1 =>
  pv (lenV x0) fun t2 =>
  pv (binV .none .neq t1 t2) fun t3 =>
  gdK t3 false (fun k => k x2) fun t4 =>
  gdK t3 false (fun k => pv (lenV t4) k) fun t5 =>
  gdK t3 false (fun k => k x0) fun t6 =>
  gdK t3 false (fun k => pv (lenV t6) k) fun t7 =>
  gdK t3 false (fun k => pv (binV .none .neq t5 t7) k) fun t8 =>
  pv (pickV t3 (.bool true) t8) fun t9 =>
  cnd t9 (
    K (.bool false)) (
    lp (fun k1 => den Tryd.prog (sel (bodyOf Tryd.f62) [1, 1, 0, 1, 0, 0]) (thenD k1 (blk 0 (thenD (den Tryd.prog (sel (bodyOf Tryd.f62) [1, 1, 1]) (bodyQ Tryd.prog Tryd.f62.results.toList K E)) (bodyQ Tryd.prog Tryd.f62.results.toList K E))))) #[x0, x1, x2, undef, undef, undef, (.bool false), (.int .i64 0), x1, t1, x0, t2, t3, t3, t4, t5, t6, t7, t8, t9, undef, undef, undef, undef, undef, undef, undef, undef, undef, undef, undef, undef, undef, undef, undef, undef, undef, undef, undef, undef, undef, undef, undef, undef, undef, undef, undef, undef, undef, undef, undef, undef, undef, undef]) := by kernel_rfl
def m62_1_1_0_1_0_0 (x0 x1 x2 x3 x4 x5 x8 x9 x10 x11 x12 x13 x14 x15 x16 x17 x18 x19 : Value) (v7 : Value) (j : Nat → Value) : Env := #[x0, x1, x2, x3, x4, x5, (j 6), v7, x8, x9, x10, x11, x12, x13, x14, x15, x16, x17, x18, x19, (j 20), (j 21), (j 22), (j 23), (j 24), (j 25), (j 26), (j 27), (j 28), (j 29), (j 30), (j 31), (j 32), (j 33), (j 34), (j 35), (j 36), (j 37), (j 38), (j 39), (j 40), (j 41), (j 42), (j 43), (j 44), (j 45), (j 46), (j 47), (j 48), (j 49), (j 50), (j 51), (j 52), (j 53)]
theorem t62_1_1_0_1_0_0 (K : Kont) (E : PanK) (k1 : Env → Hp → Prop) (x0 x1 x2 x3 x4 x5 x8 x9 x10 x11 x12 x13 x14 x15 x16 x17 x18 x19 v7 : Value) (j : Nat → Value) : den Tryd.prog (sel (bodyOf Tryd.f62) [1, 1, 0, 1, 0, 0]) (thenD k1 (blk 0 (thenD (den Tryd.prog (sel (bodyOf Tryd.f62) [1, 1, 1]) (bodyQ Tryd.prog Tryd.f62.results.toList K E)) (bodyQ Tryd.prog Tryd.f62.results.toList K E)))) (m62_1_1_0_1_0_0 x0 x1 x2 x3 x4 x5 x8 x9 x10 x11 x12 x13 x14 x15 x16 x17 x18 x19 v7 j) =
  pv (lenV x0) fun t1 =>
  pv (binV .none .lss v7 t1) fun t2 =>
  cnd t2 (
    pv (iaV none 1 x1 v7) fun t3 =>
    ld false 1 t3 fun t4 =>
    pv (binV .none .lss t4 (.int .i64 0)) fun t5 =>
    gdK t5 false (fun k => k x2) fun t6 =>
    gdK t5 false (fun k => k v7) fun t7 =>
    gdK t5 false (fun k => pv (iaV none 1 t6 t7) k) fun t8 =>
    gdK t5 false (fun k => ld false 1 t8 k) fun t9 =>
    gdK t5 false (fun k => k x1) fun t10 =>
    gdK t5 false (fun k => k v7) fun t11 =>
    gdK t5 false (fun k => pv (iaV none 1 t10 t11) k) fun t12 =>
    gdK t5 false (fun k => ld false 1 t12 k) fun t13 =>
    gdK t5 false (fun k => pv (binV .none .lss t9 t13) k) fun t14 =>
    pv (pickV t5 (.bool true) t14) fun t15 =>
    gdK t15 false (fun k => k x2) fun t16 =>
    gdK t15 false (fun k => k v7) fun t17 =>
    gdK t15 false (fun k => pv (iaV none 1 t16 t17) k) fun t18 =>
    gdK t15 false (fun k => ld false 1 t18 k) fun t19 =>
    gdK t15 false (fun k => k x0) fun t20 =>
    gdK t15 false (fun k => k v7) fun t21 =>
    gdK t15 false (fun k => pv (iaV none 2 t20 t21) k) fun t22 =>
    gdK t15 false (fun k => ld true 2 t22 k) fun t23 =>
    gdK t15 false (fun k => callv Tryd.prog (.func (.func 71) #[] #[]) #[t23] k E) (fun t24 h25 => (isB t15 false = true → ldV h25 false 1 t18 t19) ∧ (
      gdK t15 false (fun k => pv (binV .none .geq t19 t24) k) fun t26 =>
      pv (pickV t15 (.bool true) t26) fun t27 =>
      cnd t27 (
        K (.bool false)) (
        pv (binV .none .add v7 (.int .i64 1)) fun t28 =>
        k1 (m62_1_1_0_1_0_0 x0 x1 x2 x3 x4 x5 x8 x9 x10 x11 x12 x13 x14 x15 x16 x17 x18 x19 t28 (jf #[x0, x1, x2, x3, x4, x5, (j 6), t28, x8, x9, x10, x11, x12, x13, x14, x15, x16, x17, x18, x19, v7, x0, t1, t2, v7, t28, x1, v7, t3, t4, t5, t5, t6, t7, t8, t9, t10, t11, t12, t13, t14, t15, t15, t16, t17, t18, t19, t20, t21, t22, t23, t24, t26, t27])))) h25)) (
    den Tryd.prog (sel (bodyOf Tryd.f62) [1, 1, 1]) (bodyQ Tryd.prog Tryd.f62.results.toList K E) #[x0, x1, x2, x3, x4, x5, (j 6), v7, x8, x9, x10, x11, x12, x13, x14, x15, x16, x17, x18, x19, v7, x0, t1, t2, (j 24), (j 25), (j 26), (j 27), (j 28), (j 29), (j 30), (j 31), (j 32), (j 33), (j 34), (j 35), (j 36), (j 37), (j 38), (j 39), (j 40), (j 41), (j 42), (j 43), (j 44), (j 45), (j 46), (j 47), (j 48), (j 49), (j 50), (j 51), (j 52), (j 53)]) := by kernel_rfl
theorem t62_1_1_1 (K : Kont) (E : PanK) (x0 x1 x2 x3 x4 x5 x6 x7 x8 x9 x10 x11 x12 x13 x14 x15 x16 x17 x18 x19 x20 x21 x22 x23 x24 x25 x26 x27 x28 x29 x30 x31 x32 x33 x34 x35 x36 x37 x38 x39 x40 x41 x42 x43 x44 x45 x46 x47 x48 x49 x50 x51 x52 x53 : Value)  : den Tryd.prog (sel (bodyOf Tryd.f62) [1, 1, 1]) (bodyQ Tryd.prog Tryd.f62.results.toList K E) #[x0, x1, x2, x3, x4, x5, x6, x7, x8, x9, x10, x11, x12, x13, x14, x15, x16, x17, x18, x19, x20, x21, x22, x23, x24, x25, x26, x27, x28, x29, x30, x31, x32, x33, x34, x35, x36, x37, x38, x39, x40, x41, x42, x43, x44, x45, x46, x47, x48, x49, x50, x51, x52, x53] =
  K (.bool true) := by kernel_rfl
theorem l62_1_1_0_1_0_0 {K : Kont} {E : PanK} {σ : Type} {x0 x1 x2 x3 x4 x5 x8 x9 x10 x11 x12 x13 x14 x15 x16 x17 x18 x19 v7 y6 y20 y21 y22 y23 y24 y25 y26 y27 y28 y29 y30 y31 y32 y33 y34 y35 y36 y37 y38 y39 y40 y41 y42 y43 y44 y45 y46 y47 y48 y49 y50 y51 y52 y53 : Value} {h : Hp} (f7 : σ → Value) (I : σ → Hp → Prop) (μ : σ → Nat) (s0 : σ) (e7 : v7 = f7 s0) (h0 : h.wf → ∃ h', h.wk h' ∧ I s0 h')
  (round : ∀ (k1 : Env → Hp → Prop) (s : σ) (j : Nat → Value) (h : Hp), I s h → h.wf → (∀ s' j' h', μ s' < μ s → (h'.wf → ∃ h'', h'.wk h'' ∧ I s' h'') → k1 (m62_1_1_0_1_0_0 x0 x1 x2 x3 x4 x5 x8 x9 x10 x11 x12 x13 x14 x15 x16 x17 x18 x19 (f7 s') j') h') → (
  pv (lenV x0) fun t1 =>
  pv (binV .none .lss (f7 s) t1) fun t2 =>
  cnd t2 (
    pv (iaV none 1 x1 (f7 s)) fun t3 =>
    ld false 1 t3 fun t4 =>
    pv (binV .none .lss t4 (.int .i64 0)) fun t5 =>
    gdK t5 false (fun k => k x2) fun t6 =>
    gdK t5 false (fun k => k (f7 s)) fun t7 =>
    gdK t5 false (fun k => pv (iaV none 1 t6 t7) k) fun t8 =>
    gdK t5 false (fun k => ld false 1 t8 k) fun t9 =>
    gdK t5 false (fun k => k x1) fun t10 =>
    gdK t5 false (fun k => k (f7 s)) fun t11 =>
    gdK t5 false (fun k => pv (iaV none 1 t10 t11) k) fun t12 =>
    gdK t5 false (fun k => ld false 1 t12 k) fun t13 =>
    gdK t5 false (fun k => pv (binV .none .lss t9 t13) k) fun t14 =>
    pv (pickV t5 (.bool true) t14) fun t15 =>
    gdK t15 false (fun k => k x2) fun t16 =>
    gdK t15 false (fun k => k (f7 s)) fun t17 =>
    gdK t15 false (fun k => pv (iaV none 1 t16 t17) k) fun t18 =>
    gdK t15 false (fun k => ld false 1 t18 k) fun t19 =>
    gdK t15 false (fun k => k x0) fun t20 =>
    gdK t15 false (fun k => k (f7 s)) fun t21 =>
    gdK t15 false (fun k => pv (iaV none 2 t20 t21) k) fun t22 =>
    gdK t15 false (fun k => ld true 2 t22 k) fun t23 =>
    gdK t15 false (fun k => callv Tryd.prog (.func (.func 71) #[] #[]) #[t23] k E) (fun t24 h25 => (isB t15 false = true → ldV h25 false 1 t18 t19) ∧ (
      gdK t15 false (fun k => pv (binV .none .geq t19 t24) k) fun t26 =>
      pv (pickV t15 (.bool true) t26) fun t27 =>
      cnd t27 (
        K (.bool false)) (
        pv (binV .none .add (f7 s) (.int .i64 1)) fun t28 =>
        k1 (m62_1_1_0_1_0_0 x0 x1 x2 x3 x4 x5 x8 x9 x10 x11 x12 x13 x14 x15 x16 x17 x18 x19 t28 (jf #[x0, x1, x2, x3, x4, x5, (j 6), t28, x8, x9, x10, x11, x12, x13, x14, x15, x16, x17, x18, x19, (f7 s), x0, t1, t2, (f7 s), t28, x1, (f7 s), t3, t4, t5, t5, t6, t7, t8, t9, t10, t11, t12, t13, t14, t15, t15, t16, t17, t18, t19, t20, t21, t22, t23, t24, t26, t27])))) h25)) (
    den Tryd.prog (sel (bodyOf Tryd.f62) [1, 1, 1]) (bodyQ Tryd.prog Tryd.f62.results.toList K E) #[x0, x1, x2, x3, x4, x5, (j 6), (f7 s), x8, x9, x10, x11, x12, x13, x14, x15, x16, x17, x18, x19, (f7 s), x0, t1, t2, (j 24), (j 25), (j 26), (j 27), (j 28), (j 29), (j 30), (j 31), (j 32), (j 33), (j 34), (j 35), (j 36), (j 37), (j 38), (j 39), (j 40), (j 41), (j 42), (j 43), (j 44), (j 45), (j 46), (j 47), (j 48), (j 49), (j 50), (j 51), (j 52), (j 53)])) h) :
  lp (fun k1 => den Tryd.prog (sel (bodyOf Tryd.f62) [1, 1, 0, 1, 0, 0]) (thenD k1 (blk 0 (thenD (den Tryd.prog (sel (bodyOf Tryd.f62) [1, 1, 1]) (bodyQ Tryd.prog Tryd.f62.results.toList K E)) (bodyQ Tryd.prog Tryd.f62.results.toList K E))))) #[x0, x1, x2, x3, x4, x5, y6, v7, x8, x9, x10, x11, x12, x13, x14, x15, x16, x17, x18, x19, y20, y21, y22, y23, y24, y25, y26, y27, y28, y29, y30, y31, y32, y33, y34, y35, y36, y37, y38, y39, y40, y41, y42, y43, y44, y45, y46, y47, y48, y49, y50, y51, y52, y53] h := by
  subst e7
  have e : (#[x0, x1, x2, x3, x4, x5, y6, (f7 s0), x8, x9, x10, x11, x12, x13, x14, x15, x16, x17, x18, x19, y20, y21, y22, y23, y24, y25, y26, y27, y28, y29, y30, y31, y32, y33, y34, y35, y36, y37, y38, y39, y40, y41, y42, y43, y44, y45, y46, y47, y48, y49, y50, y51, y52, y53] : Env) = m62_1_1_0_1_0_0 x0 x1 x2 x3 x4 x5 x8 x9 x10 x11 x12 x13 x14 x15 x16 x17 x18 x19 (f7 s0) (jf #[x0, x1, x2, x3, x4, x5, y6, (f7 s0), x8, x9, x10, x11, x12, x13, x14, x15, x16, x17, x18, x19, y20, y21, y22, y23, y24, y25, y26, y27, y28, y29, y30, y31, y32, y33, y34, y35, y36, y37, y38, y39, y40, y41, y42, y43, y44, y45, y46, y47, y48, y49, y50, y51, y52, y53]) := by kernel_rfl
  rw [e]
  exact loop_r (fun s j => m62_1_1_0_1_0_0 x0 x1 x2 x3 x4 x5 x8 x9 x10 x11 x12 x13 x14 x15 x16 x17 x18 x19 (f7 s) j) I μ (fun k s j h hI hw next => by rw [t62_1_1_0_1_0_0]; exact round k s j h hI hw next) s0 (jf #[x0, x1, x2, x3, x4, x5, y6, (f7 s0), x8, x9, x10, x11, x12, x13, x14, x15, x16, x17, x18, x19, y20, y21, y22, y23, y24, y25, y26, y27, y28, y29, y30, y31, y32, y33, y34, y35, y36, y37, y38, y39, y40, y41, y42, y43, y44, y45, y46, y47, y48, y49, y50, y51, y52, y53]) h0

theorem t63 (K : Kont) (E : PanK) (x0 x1 x2 x3 : Value)  : den Tryd.prog (sel (bodyOf Tryd.f63) []) (bodyQ Tryd.prog Tryd.f63.results.toList K E) #[x0, x1, x2, x3, undef, undef, undef, undef, undef, undef, undef, undef, undef, undef, undef, undef, undef, undef, undef, undef, undef, undef, undef, undef, undef, undef, undef, undef, undef, undef, undef, undef, undef, undef, undef, undef, undef, undef, undef, undef, undef, undef, undef, undef, undef, undef, undef, undef, undef, undef, undef, undef, undef, undef, undef, undef, undef, undef, undef, undef, undef, undef, undef] =
  callv Tryd.prog (.func (.func 61) #[] #[]) #[x0] (fun t1 =>
  pv (unV .not t1) fun t2 =>
  gdK t2 false (fun k => k x1) fun t3 =>
  gdK t2 false (fun k => pv (lenV t3) k) fun t4 =>
  gdK t2 false (fun k => k x0) fun t5 =>
  gdK t2 false (fun k => pv (lenV t5) k) fun t6 =>
  gdK t2 false (fun k => pv (binV .none .neq t4 t6) k) fun t7 =>
  pv (pickV t2 (.bool true) t7) fun t8 =>
  gdK t8 false (fun k => k x2) fun t9 =>
  gdK t8 false (fun k => pv (lenV t9) k) fun t10 =>
  gdK t8 false (fun k => k x0) fun t11 =>
  gdK t8 false (fun k => pv (lenV t11) k) fun t12 =>
  gdK t8 false (fun k => pv (binV .none .neq t10 t12) k) fun t13 =>
  pv (pickV t8 (.bool true) t13) fun t14 =>
  gdK t14 false (fun k => k x3) fun t15 =>
  gdK t14 false (fun k => pv (lenV t15) k) fun t16 =>
  gdK t14 false (fun k => k x0) fun t17 =>
  gdK t14 false (fun k => pv (lenV t17) k) fun t18 =>
  gdK t14 false (fun k => pv (binV .none .neq t16 t18) k) fun t19 =>
  pv (pickV t14 (.bool true) t19) fun t20 =>
  cnd t20 (
    K (.slice none 0 0)) (
    lp (fun k1 => den Tryd.prog (sel (bodyOf Tryd.f63) [1, 1, 1, 0, 1, 0, 0]) (thenD k1 (blk 0 (thenD (den Tryd.prog (sel (bodyOf Tryd.f63) [1, 1, 1, 1]) (bodyQ Tryd.prog Tryd.f63.results.toList K E)) (bodyQ Tryd.prog Tryd.f63.results.toList K E))))) #[x0, x1, x2, x3, undef, undef, undef, undef, (.slice none 0 0), (.slice none 0 0), (.int .i64 0), x0, t1, t2, t2, t3, t4, t5, t6, t7, t8, t8, t9, t10, t11, t12, t13, t14, t14, t15, t16, t17, t18, t19, t20, undef, undef, undef, undef, undef, undef, undef, undef, undef, undef, undef, undef, undef, undef, undef, undef, undef, undef, undef, undef, undef, undef, undef, undef, undef, undef, undef, undef])) E := by kernel_rfl
def m63_1_1_1_0_1_0_0 (x0 x1 x2 x3 x4 x5 x6 x7 x8 x11 x12 x13 x14 x15 x16 x17 x18 x19 x20 x21 x22 x23 x24 x25 x26 x27 x28 x29 x30 x31 x32 x33 x34 x35 x62 : Value) (v9 v10 : Value) (j : Nat → Value) : Env := #[x0, x1, x2, x3, x4, x5, x6, x7, x8, v9, v10, x11, x12, x13, x14, x15, x16, x17, x18, x19, x20, x21, x22, x23, x24, x25, x26, x27, x28, x29, x30, x31, x32, x33, x34, x35, (j 36), (j 37), (j 38), (j 39), (j 40), (j 41), (j 42), (j 43), (j 44), (j 45), (j 46), (j 47), (j 48), (j 49), (j 50), (j 51), (j 52), (j 53), (j 54), (j 55), (j 56), (j 57), (j 58), (j 59), (j 60), (j 61), x62]
theorem t63_1_1_1_0_1_0_0 (K : Kont) (E : PanK) (k1 : Env → Hp → Prop) (x0 x1 x2 x3 x4 x5 x6 x7 x8 x11 x12 x13 x14 x15 x16 x17 x18 x19 x20 x21 x22 x23 x24 x25 x26 x27 x28 x29 x30 x31 x32 x33 x34 x35 x62 v9 v10 : Value) (j : Nat → Value) : den Tryd.prog (sel (bodyOf Tryd.f63) [1, 1, 1, 0, 1, 0, 0]) (thenD k1 (blk 0 (thenD (den Tryd.prog (sel (bodyOf Tryd.f63) [1, 1, 1, 1]) (bodyQ Tryd.prog Tryd.f63.results.toList K E)) (bodyQ Tryd.prog Tryd.f63.results.toList K E)))) (m63_1_1_1_0_1_0_0 x0 x1 x2 x3 x4 x5 x6 x7 x8 x11 x12 x13 x14 x15 x16 x17 x18 x19 x20 x21 x22 x23 x24 x25 x26 x27 x28 x29 x30 x31 x32 x33 x34 x35 x62 v9 v10 j) =
  pv (lenV x0) fun t1 =>
  pv (binV .none .lss v10 t1) fun t2 =>
  cnd t2 (
    pv (iaV none 2 x0 v10) fun t3 =>
    ld true 2 t3 fun t4 =>
    pv (iaV none 1 x1 v10) fun t5 =>
    ld false 1 t5 fun t6 =>
    pv (iaV none 1 x2 v10) fun t7 =>
    ld false 1 t7 fun t8 =>
    pv (iaV none 1 x3 v10) fun t9 =>
    ld false 1 t9 fun t10 =>
    callv Tryd.prog (.func (.func 89) #[] #[]) #[t4, t6, t8, t10] (fun t11 =>
    nws 3 1 (bsC #[(.int .i64 0)] 1 1 #[(0, t11)]) fun t12 =>
    appX 3 1 8 v9 t12 fun t13 =>
    pv (binV .none .add v10 (.int .i64 1)) fun t14 =>
    k1 (m63_1_1_1_0_1_0_0 x0 x1 x2 x3 x4 x5 x6 x7 x8 x11 x12 x13 x14 x15 x16 x17 x18 x19 x20 x21 x22 x23 x24 x25 x26 x27 x28 x29 x30 x31 x32 x33 x34 x35 x62 t13 t14 (jf #[x0, x1, x2, x3, x4, x5, x6, x7, x8, t13, t14, x11, x12, x13, x14, x15, x16, x17, x18, x19, x20, x21, x22, x23, x24, x25, x26, x27, x28, x29, x30, x31, x32, x33, x34, x35, v10, x0, t1, t2, v10, t14, v9, x0, v10, t3, t4, x1, v10, t5, t6, x2, v10, t7, t8, x3, v10, t9, t10, t11, t12, t13, x62]))) E) (
    den Tryd.prog (sel (bodyOf Tryd.f63) [1, 1, 1, 1]) (bodyQ Tryd.prog Tryd.f63.results.toList K E) #[x0, x1, x2, x3, x4, x5, x6, x7, x8, v9, v10, x11, x12, x13, x14, x15, x16, x17, x18, x19, x20, x21, x22, x23, x24, x25, x26, x27, x28, x29, x30, x31, x32, x33, x34, x35, v10, x0, t1, t2, (j 40), (j 41), (j 42), (j 43), (j 44), (j 45), (j 46), (j 47), (j 48), (j 49), (j 50), (j 51), (j 52), (j 53), (j 54), (j 55), (j 56), (j 57), (j 58), (j 59), (j 60), (j 61), x62]) := by kernel_rfl
theorem t63_1_1_1_1 (K : Kont) (E : PanK) (x0 x1 x2 x3 x4 x5 x6 x7 x8 x9 x10 x11 x12 x13 x14 x15 x16 x17 x18 x19 x20 x21 x22 x23 x24 x25 x26 x27 x28 x29 x30 x31 x32 x33 x34 x35 x36 x37 x38 x39 x40 x41 x42 x43 x44 x45 x46 x47 x48 x49 x50 x51 x52 x53 x54 x55 x56 x57 x58 x59 x60 x61 x62 : Value)  : den Tryd.prog (sel (bodyOf Tryd.f63) [1, 1, 1, 1]) (bodyQ Tryd.prog Tryd.f63.results.toList K E) #[x0, x1, x2, x3, x4, x5, x6, x7, x8, x9, x10, x11, x12, x13, x14, x15, x16, x17, x18, x19, x20, x21, x22, x23, x24, x25, x26, x27, x28, x29, x30, x31, x32, x33, x34, x35, x36, x37, x38, x39, x40, x41, x42, x43, x44, x45, x46, x47, x48, x49, x50, x51, x52, x53, x54, x55, x56, x57, x58, x59, x60, x61, x62] =
  K x9 := by kernel_rfl
theorem l63_1_1_1_0_1_0_0 {K : Kont} {E : PanK} {σ : Type} {x0 x1 x2 x3 x4 x5 x6 x7 x8 x11 x12 x13 x14 x15 x16 x17 x18 x19 x20 x21 x22 x23 x24 x25 x26 x27 x28 x29 x30 x31 x32 x33 x34 x35 x62 v9 v10 y36 y37 y38 y39 y40 y41 y42 y43 y44 y45 y46 y47 y48 y49 y50 y51 y52 y53 y54 y55 y56 y57 y58 y59 y60 y61 : Value} {h : Hp} (f9 f10 : σ → Value) (I : σ → Hp → Prop) (μ : σ → Nat) (s0 : σ) (e9 : v9 = f9 s0) (e10 : v10 = f10 s0) (h0 : h.wf → ∃ h', h.wk h' ∧ I s0 h')
  (round : ∀ (k1 : Env → Hp → Prop) (s : σ) (j : Nat → Value) (h : Hp), I s h → h.wf → (∀ s' j' h', μ s' < μ s → (h'.wf → ∃ h'', h'.wk h'' ∧ I s' h'') → k1 (m63_1_1_1_0_1_0_0 x0 x1 x2 x3 x4 x5 x6 x7 x8 x11 x12 x13 x14 x15 x16 x17 x18 x19 x20 x21 x22 x23 x24 x25 x26 x27 x28 x29 x30 x31 x32 x33 x34 x35 x62 (f9 s') (f10 s') j') h') → (
  pv (lenV x0) fun t1 =>
  pv (binV .none .lss (f10 s) t1) fun t2 =>
  cnd t2 (
    pv (iaV none 2 x0 (f10 s)) fun t3 =>
    ld true 2 t3 fun t4 =>
    pv (iaV none 1 x1 (f10 s)) fun t5 =>
    ld false 1 t5 fun t6 =>
    pv (iaV none 1 x2 (f10 s)) fun t7 =>
    ld false 1 t7 fun t8 =>
    pv (iaV none 1 x3 (f10 s)) fun t9 =>
    ld false 1 t9 fun t10 =>
    callv Tryd.prog (.func (.func 89) #[] #[]) #[t4, t6, t8, t10] (fun t11 =>
    nws 3 1 (bsC #[(.int .i64 0)] 1 1 #[(0, t11)]) fun t12 =>
    appX 3 1 8 (f9 s) t12 fun t13 =>
    pv (binV .none .add (f10 s) (.int .i64 1)) fun t14 =>
    k1 (m63_1_1_1_0_1_0_0 x0 x1 x2 x3 x4 x5 x6 x7 x8 x11 x12 x13 x14 x15 x16 x17 x18 x19 x20 x21 x22 x23 x24 x25 x26 x27 x28 x29 x30 x31 x32 x33 x34 x35 x62 t13 t14 (jf #[x0, x1, x2, x3, x4, x5, x6, x7, x8, t13, t14, x11, x12, x13, x14, x15, x16, x17, x18, x19, x20, x21, x22, x23, x24, x25, x26, x27, x28, x29, x30, x31, x32, x33, x34, x35, (f10 s), x0, t1, t2, (f10 s), t14, (f9 s), x0, (f10 s), t3, t4, x1, (f10 s), t5, t6, x2, (f10 s), t7, t8, x3, (f10 s), t9, t10, t11, t12, t13, x62]))) E) (
    den Tryd.prog (sel (bodyOf Tryd.f63) [1, 1, 1, 1]) (bodyQ Tryd.prog Tryd.f63.results.toList K E) #[x0, x1, x2, x3, x4, x5, x6, x7, x8, (f9 s), (f10 s), x11, x12, x13, x14, x15, x16, x17, x18, x19, x20, x21, x22, x23, x24, x25, x26, x27, x28, x29, x30, x31, x32, x33, x34, x35, (f10 s), x0, t1, t2, (j 40), (j 41), (j 42), (j 43), (j 44), (j 45), (j 46), (j 47), (j 48), (j 49), (j 50), (j 51), (j 52), (j 53), (j 54), (j 55), (j 56), (j 57), (j 58), (j 59), (j 60), (j 61), x62])) h) :
  lp (fun k1 => den Tryd.prog (sel (bodyOf Tryd.f63) [1, 1, 1, 0, 1, 0, 0]) (thenD k1 (blk 0 (thenD (den Tryd.prog (sel (bodyOf Tryd.f63) [1, 1, 1, 1]) (bodyQ Tryd.prog Tryd.f63.results.toList K E)) (bodyQ Tryd.prog Tryd.f63.results.toList K E))))) #[x0, x1, x2, x3, x4, x5, x6, x7, x8, v9, v10, x11, x12, x13, x14, x15, x16, x17, x18, x19, x20, x21, x22, x23, x24, x25, x26, x27, x28, x29, x30, x31, x32, x33, x34, x35, y36, y37, y38, y39, y40, y41, y42, y43, y44, y45, y46, y47, y48, y49, y50, y51, y52, y53, y54, y55, y56, y57, y58, y59, y60, y61, x62] h := by
  subst e9
  subst e10
  have e : (#[x0, x1, x2, x3, x4, x5, x6, x7, x8, (f9 s0), (f10 s0), x11, x12, x13, x14, x15, x16, x17, x18, x19, x20, x21, x22, x23, x24, x25, x26, x27, x28, x29, x30, x31, x32, x33, x34, x35, y36, y37, y38, y39, y40, y41, y42, y43, y44, y45, y46, y47, y48, y49, y50, y51, y52, y53, y54, y55, y56, y57, y58, y59, y60, y61, x62] : Env) = m63_1_1_1_0_1_0_0 x0 x1 x2 x3 x4 x5 x6 x7 x8 x11 x12 x13 x14 x15 x16 x17 x18 x19 x20 x21 x22 x23 x24 x25 x26 x27 x28 x29 x30 x31 x32 x33 x34 x35 x62 (f9 s0) (f10 s0) (jf #[x0, x1, x2, x3, x4, x5, x6, x7, x8, (f9 s0), (f10 s0), x11, x12, x13, x14, x15, x16, x17, x18, x19, x20, x21, x22, x23, x24, x25, x26, x27, x28, x29, x30, x31, x32, x33, x34, x35, y36, y37, y38, y39, y40, y41, y42, y43, y44, y45, y46, y47, y48, y49, y50, y51, y52, y53, y54, y55, y56, y57, y58, y59, y60, y61, x62]) := by kernel_rfl
  rw [e]
  exact loop_r (fun s j => m63_1_1_1_0_1_0_0 x0 x1 x2 x3 x4 x5 x6 x7 x8 x11 x12 x13 x14 x15 x16 x17 x18 x19 x20 x21 x22 x23 x24 x25 x26 x27 x28 x29 x30 x31 x32 x33 x34 x35 x62 (f9 s) (f10 s) j) I μ (fun k s j h hI hw next => by rw [t63_1_1_1_0_1_0_0]; exact round k s j h hI hw next) s0 (jf #[x0, x1, x2, x3, x4, x5, x6, x7, x8, (f9 s0), (f10 s0), x11, x12, x13, x14, x15, x16, x17, x18, x19, x20, x21, x22, x23, x24, x25, x26, x27, x28, x29, x30, x31, x32, x33, x34, x35, y36, y37, y38, y39, y40, y41, y42, y43, y44, y45, y46, y47, y48, y49, y50, y51, y52, y53, y54, y55, y56, y57, y58, y59, y60, y61, x62]) h0

theorem t68 (K : Kont) (E : PanK) (x0 : Value)  : den Tryd.prog (sel (bodyOf Tryd.f68) []) (bodyQ Tryd.prog Tryd.f68.results.toList K E) #[x0, undef, undef, undef, undef, undef, undef] =
  nw 51 (Value.cells x0).toList fun t1 =>
  pv (faV 1 t1) fun t2 =>
  ld false 1 t2 fun t3 =>
  pv (lenV t3) fun t4 =>
  pv (binV .none .add t4 (.int .i64 2)) fun t5 =>
  K t5 := by kernel_rfl

theorem t71 (K : Kont) (E : PanK) (x0 : Value)  : den Tryd.prog (sel (bodyOf Tryd.f71) []) (bodyQ Tryd.prog Tryd.f71.results.toList K E) #[x0, undef, undef, undef, undef, undef, undef] =
  nw 51 (Value.cells x0).toList fun t1 =>
  pv (faV 1 t1) fun t2 =>
  ld false 1 t2 fun t3 =>
  pv (lenV t3) fun t4 =>
  pv (binV .none .add t4 (.int .i64 2)) fun t5 =>
  K t5 := by kernel_rfl

theorem t84 (K : Kont) (E : PanK) (x0 x1 : Value)  : den Tryd.prog (sel (bodyOf Tryd.f84) []) (bodyQ Tryd.prog Tryd.f84.results.toList K E) #[x0, x1, undef, undef, undef, undef, undef, undef, undef] =
  callv Tryd.prog (.func (.func 100) #[] #[]) #[x0, x1] (fun t1 =>
  pv (binV .none .geq t1 (.int .i64 0)) fun t2 =>
  K t2) E := by kernel_rfl

theorem t85 (K : Kont) (E : PanK) (x0 : Value)  : den Tryd.prog (sel (bodyOf Tryd.f85) []) (bodyQ Tryd.prog Tryd.f85.results.toList K E) #[x0, undef, undef, undef, undef, undef] =
  nw 51 (Value.cells x0).toList fun t1 =>
  ld true 2 t1 fun t2 =>
  callv Tryd.prog (.func (.func 86) #[] #[]) #[t2] (fun t3 =>
  pv (unV .not t3) fun t4 =>
  K t4) E := by kernel_rfl

theorem t86 (K : Kont) (E : PanK) (x0 : Value)  : den Tryd.prog (sel (bodyOf Tryd.f86) []) (bodyQ Tryd.prog Tryd.f86.results.toList K E) #[x0, undef, undef, undef, undef, undef, undef, undef, undef, undef, undef, undef, undef, undef, undef, undef, undef, undef, undef, undef, undef, undef, undef, undef, undef, undef, undef, undef, undef, undef, undef, undef, undef, undef, undef, undef, undef, undef, undef, undef, undef, undef] =
  nw 51 (Value.cells x0).toList fun t1 =>
  pv (faV 0 t1) fun t2 =>
  ld false 1 t2 fun t3 =>
  pv (binV .none .lss t3 (.int .i64 1)) fun t4 =>
  gdK t4 false (fun k => pv (faV 0 t1) k) fun t5 =>
  gdK t4 false (fun k => ld false 1 t5 k) fun t6 =>
  gdK t4 false (fun k => pv (binV .none .gtr t6 (.int .i64 10000)) k) fun t7 =>
  pv (pickV t4 (.bool true) t7) fun t8 =>
  gdK t8 false (fun k => pv (faV 1 t1) k) fun t9 =>
  gdK t8 false (fun k => ld false 1 t9 k) fun t10 =>
  gdK t8 false (fun k => pv (lenV t10) k) fun t11 =>
  gdK t8 false (fun k => pv (binV .none .gtr t11 (.int .i64 4)) k) fun t12 =>
  pv (pickV t8 (.bool true) t12) fun t13 =>
  cnd t13 (
    K (.bool false)) (
    pv (faV 1 t1) fun t14 =>
    ld false 1 t14 fun t15 =>
    pv (lenV t15) fun t16 =>
    lp (fun k1 => den Tryd.prog (sel (bodyOf Tryd.f86) [1, 1, 1, 0, 1, 0, 0]) (thenD k1 (blk 0 (thenD (den Tryd.prog (sel (bodyOf Tryd.f86) [1, 1, 1, 1]) (bodyQ Tryd.prog Tryd.f86.results.toList K E)) (bodyQ Tryd.prog Tryd.f86.results.toList K E))))) #[x0, t1, (.bool false), (.int .i64 1), undef, undef, t2, t3, t4, t4, t5, t6, t7, t8, t8, t9, t10, t11, t12, t13, t14, t15, t16, (.int .i64 0), undef, undef, undef, undef, undef, undef, undef, undef, undef, undef, undef, undef, undef, undef, undef, undef, undef, undef]) := by kernel_rfl
def m86_1_1_1_0_1_0_0 (x0 x1 x4 x6 x7 x8 x9 x10 x11 x12 x13 x14 x15 x16 x17 x18 x19 x20 x21 x22 : Value) (v3 v23 : Value) (j : Nat → Value) : Env := #[x0, x1, (j 2), v3, x4, (j 5), x6, x7, x8, x9, x10, x11, x12, x13, x14, x15, x16, x17, x18, x19, x20, x21, x22, v23, (j 24), (j 25), (j 26), (j 27), (j 28), (j 29), (j 30), (j 31), (j 32), (j 33), (j 34), (j 35), (j 36), (j 37), (j 38), (j 39), (j 40), (j 41)]
theorem t86_1_1_1_0_1_0_0 (K : Kont) (E : PanK) (k1 : Env → Hp → Prop) (x0 x1 x4 x6 x7 x8 x9 x10 x11 x12 x13 x14 x15 x16 x17 x18 x19 x20 x21 x22 v3 v23 : Value) (j : Nat → Value) : den Tryd.prog (sel (bodyOf Tryd.f86) [1, 1, 1, 0, 1, 0, 0]) (thenD k1 (blk 0 (thenD (den Tryd.prog (sel (bodyOf Tryd.f86) [1, 1, 1, 1]) (bodyQ Tryd.prog Tryd.f86.results.toList K E)) (bodyQ Tryd.prog Tryd.f86.results.toList K E)))) (m86_1_1_1_0_1_0_0 x0 x1 x4 x6 x7 x8 x9 x10 x11 x12 x13 x14 x15 x16 x17 x18 x19 x20 x21 x22 v3 v23 j) =
  pv (binV .none .lss v23 x22) fun t1 =>
  cnd t1 (
    pv (iaV none 1 x21 v23) fun t2 =>
    ld false 1 t2 fun t3 =>
    pv (binV .none .leq t3 v3) fun t4 =>
    gdK t4 false (fun k => k t3) fun t5 =>
    gdK t4 false (fun k => pv (binV .none .gtr t5 (.int .i64 10000)) k) fun t6 =>
    pv (pickV t4 (.bool true) t6) fun t7 =>
    gdK t7 false (fun k => k t3) fun t8 =>
    gdK t7 false (fun k => k v3) fun t9 =>
    gdK t7 false (fun k => pv (binV .none .rem t8 t9) k) fun t10 =>
    gdK t7 false (fun k => pv (binV .none .neq t10 (.int .i64 0)) k) fun t11 =>
    pv (pickV t7 (.bool true) t11) fun t12 =>
    cnd t12 (
      K (.bool false)) (
      pv (binV .none .add v23 (.int .i64 1)) fun t13 =>
      k1 (m86_1_1_1_0_1_0_0 x0 x1 x4 x6 x7 x8 x9 x10 x11 x12 x13 x14 x15 x16 x17 x18 x19 x20 x21 x22 t3 t13 (jf #[x0, x1, (j 2), t3, x4, t3, x6, x7, x8, x9, x10, x11, x12, x13, x14, x15, x16, x17, x18, x19, x20, x21, x22, t13, t1, t2, t3, t3, v3, t4, t4, t5, t6, t7, t7, t8, t9, t10, t11, t12, t3, t13])))) (
    den Tryd.prog (sel (bodyOf Tryd.f86) [1, 1, 1, 1]) (bodyQ Tryd.prog Tryd.f86.results.toList K E) #[x0, x1, (j 2), v3, x4, (j 5), x6, x7, x8, x9, x10, x11, x12, x13, x14, x15, x16, x17, x18, x19, x20, x21, x22, v23, t1, (j 25), (j 26), (j 27), (j 28), (j 29), (j 30), (j 31), (j 32), (j 33), (j 34), (j 35), (j 36), (j 37), (j 38), (j 39), (j 40), (j 41)]) := by kernel_rfl
theorem t86_1_1_1_1 (K : Kont) (E : PanK) (x0 x1 x2 x3 x4 x5 x6 x7 x8 x9 x10 x11 x12 x13 x14 x15 x16 x17 x18 x19 x20 x21 x22 x23 x24 x25 x26 x27 x28 x29 x30 x31 x32 x33 x34 x35 x36 x37 x38 x39 x40 x41 : Value)  : den Tryd.prog (sel (bodyOf Tryd.f86) [1, 1, 1, 1]) (bodyQ Tryd.prog Tryd.f86.results.toList K E) #[x0, x1, x2, x3, x4, x5, x6, x7, x8, x9, x10, x11, x12, x13, x14, x15, x16, x17, x18, x19, x20, x21, x22, x23, x24, x25, x26, x27, x28, x29, x30, x31, x32, x33, x34, x35, x36, x37, x38, x39, x40, x41] =
  K (.bool true) := by kernel_rfl
theorem l86_1_1_1_0_1_0_0 {K : Kont} {E : PanK} {σ : Type} {x0 x1 x4 x6 x7 x8 x9 x10 x11 x12 x13 x14 x15 x16 x17 x18 x19 x20 x21 x22 v3 v23 y2 y5 y24 y25 y26 y27 y28 y29 y30 y31 y32 y33 y34 y35 y36 y37 y38 y39 y40 y41 : Value} {h : Hp} (f3 f23 : σ → Value) (I : σ → Hp → Prop) (μ : σ → Nat) (s0 : σ) (e3 : v3 = f3 s0) (e23 : v23 = f23 s0) (h0 : h.wf → ∃ h', h.wk h' ∧ I s0 h')
  (round : ∀ (k1 : Env → Hp → Prop) (s : σ) (j : Nat → Value) (h : Hp), I s h → h.wf → (∀ s' j' h', μ s' < μ s → (h'.wf → ∃ h'', h'.wk h'' ∧ I s' h'') → k1 (m86_1_1_1_0_1_0_0 x0 x1 x4 x6 x7 x8 x9 x10 x11 x12 x13 x14 x15 x16 x17 x18 x19 x20 x21 x22 (f3 s') (f23 s') j') h') → (
  pv (binV .none .lss (f23 s) x22) fun t1 =>
  cnd t1 (
    pv (iaV none 1 x21 (f23 s)) fun t2 =>
    ld false 1 t2 fun t3 =>
    pv (binV .none .leq t3 (f3 s)) fun t4 =>
    gdK t4 false (fun k => k t3) fun t5 =>
    gdK t4 false (fun k => pv (binV .none .gtr t5 (.int .i64 10000)) k) fun t6 =>
    pv (pickV t4 (.bool true) t6) fun t7 =>
    gdK t7 false (fun k => k t3) fun t8 =>
    gdK t7 false (fun k => k (f3 s)) fun t9 =>
    gdK t7 false (fun k => pv (binV .none .rem t8 t9) k) fun t10 =>
    gdK t7 false (fun k => pv (binV .none .neq t10 (.int .i64 0)) k) fun t11 =>
    pv (pickV t7 (.bool true) t11) fun t12 =>
    cnd t12 (
      K (.bool false)) (
      pv (binV .none .add (f23 s) (.int .i64 1)) fun t13 =>
      k1 (m86_1_1_1_0_1_0_0 x0 x1 x4 x6 x7 x8 x9 x10 x11 x12 x13 x14 x15 x16 x17 x18 x19 x20 x21 x22 t3 t13 (jf #[x0, x1, (j 2), t3, x4, t3, x6, x7, x8, x9, x10, x11, x12, x13, x14, x15, x16, x17, x18, x19, x20, x21, x22, t13, t1, t2, t3, t3, (f3 s), t4, t4, t5, t6, t7, t7, t8, t9, t10, t11, t12, t3, t13])))) (
    den Tryd.prog (sel (bodyOf Tryd.f86) [1, 1, 1, 1]) (bodyQ Tryd.prog Tryd.f86.results.toList K E) #[x0, x1, (j 2), (f3 s), x4, (j 5), x6, x7, x8, x9, x10, x11, x12, x13, x14, x15, x16, x17, x18, x19, x20, x21, x22, (f23 s), t1, (j 25), (j 26), (j 27), (j 28), (j 29), (j 30), (j 31), (j 32), (j 33), (j 34), (j 35), (j 36), (j 37), (j 38), (j 39), (j 40), (j 41)])) h) :
  lp (fun k1 => den Tryd.prog (sel (bodyOf Tryd.f86) [1, 1, 1, 0, 1, 0, 0]) (thenD k1 (blk 0 (thenD (den Tryd.prog (sel (bodyOf Tryd.f86) [1, 1, 1, 1]) (bodyQ Tryd.prog Tryd.f86.results.toList K E)) (bodyQ Tryd.prog Tryd.f86.results.toList K E))))) #[x0, x1, y2, v3, x4, y5, x6, x7, x8, x9, x10, x11, x12, x13, x14, x15, x16, x17, x18, x19, x20, x21, x22, v23, y24, y25, y26, y27, y28, y29, y30, y31, y32, y33, y34, y35, y36, y37, y38, y39, y40, y41] h := by
  subst e3
  subst e23
  have e : (#[x0, x1, y2, (f3 s0), x4, y5, x6, x7, x8, x9, x10, x11, x12, x13, x14, x15, x16, x17, x18, x19, x20, x21, x22, (f23 s0), y24, y25, y26, y27, y28, y29, y30, y31, y32, y33, y34, y35, y36, y37, y38, y39, y40, y41] : Env) = m86_1_1_1_0_1_0_0 x0 x1 x4 x6 x7 x8 x9 x10 x11 x12 x13 x14 x15 x16 x17 x18 x19 x20 x21 x22 (f3 s0) (f23 s0) (jf #[x0, x1, y2, (f3 s0), x4, y5, x6, x7, x8, x9, x10, x11, x12, x13, x14, x15, x16, x17, x18, x19, x20, x21, x22, (f23 s0), y24, y25, y26, y27, y28, y29, y30, y31, y32, y33, y34, y35, y36, y37, y38, y39, y40, y41]) := by kernel_rfl
  rw [e]
  exact loop_r (fun s j => m86_1_1_1_0_1_0_0 x0 x1 x4 x6 x7 x8 x9 x10 x11 x12 x13 x14 x15 x16 x17 x18 x19 x20 x21 x22 (f3 s) (f23 s) j) I μ (fun k s j h hI hw next => by rw [t86_1_1_1_0_1_0_0]; exact round k s j h hI hw next) s0 (jf #[x0, x1, y2, (f3 s0), x4, y5, x6, x7, x8, x9, x10, x11, x12, x13, x14, x15, x16, x17, x18, x19, x20, x21, x22, (f23 s0), y24, y25, y26, y27, y28, y29, y30, y31, y32, y33, y34, y35, y36, y37, y38, y39, y40, y41]) h0

theorem t87 (K : Kont) (E : PanK) (x0 x1 x2 x3 : Value)  : den Tryd.prog (sel (bodyOf Tryd.f87) []) (bodyQ Tryd.prog Tryd.f87.results.toList K E) #[x0, x1, x2, x3, undef, undef, undef, undef, undef, undef, undef, undef, undef, undef, undef, undef, undef, undef, undef, undef, undef, undef, undef, undef, undef, undef, undef, undef, undef, undef, undef, undef, undef, undef, undef, undef, undef, undef, undef, undef, undef, undef, undef, undef, undef, undef, undef, undef, undef, undef] =
  nw 51 (Value.cells x0).toList fun t1 =>
  ld true 2 t1 fun t2 =>
  callv Tryd.prog (.func (.func 86) #[] #[]) #[t2] (fun t3 =>
  pv (unV .not t3) fun t4 =>
  gdK t4 false (fun k => k x1) fun t5 =>
  gdK t4 false (fun k => pv (binV .none .lss t5 (.int .i64 0)) k) fun t6 =>
  pv (pickV t4 (.bool true) t6) fun t7 =>
  gdK t7 false (fun k => k x2) fun t8 =>
  gdK t7 false (fun k => k x1) fun t9 =>
  gdK t7 false (fun k => pv (binV .none .lss t8 t9) k) fun t10 =>
  pv (pickV t7 (.bool true) t10) fun t11 =>
  gdK t11 false (fun k => k x2) fun t12 =>
  gdK t11 false (fun k => ld true 2 t1 k) fun t13 =>
  gdK t11 false (fun k => callv Tryd.prog (.func (.func 68) #[] #[]) #[t13] k E) fun t14 =>
  gdK t11 false (fun k => pv (binV .none .geq t12 t14) k) fun t15 =>
  pv (pickV t11 (.bool true) t15) fun t16 =>
  gdK t16 false (fun k => k x3) fun t17 =>
  gdK t16 false (fun k => pv (binV .none .lss t17 (.int .i64 0)) k) fun t18 =>
  pv (pickV t16 (.bool true) t18) fun t19 =>
  cnd t19 (
    K (.int .i64 (-1))) (
    ld true 2 t1 fun t20 =>
    callv Tryd.prog (.func (.func 101) #[] #[]) #[t20, x2] (fun t21 =>
    pv (binV .none .eql x1 x2) fun t22 =>
    cnd t22 (
      K x3) (
      pv (binV .none .eql t21 (.int .i64 0)) fun t23 =>
      cnd t23 (
        K (.int .i64 0)) (
        ld true 2 t1 fun t24 =>
        callv Tryd.prog (.func (.func 101) #[] #[]) #[t24, x1] (fun t25 =>
        pv (binV .none .quo t21 t25) fun t26 =>
        pv (binV .none .quo x3 t26) fun t27 =>
        K t27) E))) E)) E := by kernel_rfl

theorem t88 (K : Kont) (E : PanK) (x0 : Value)  : den Tryd.prog (sel (bodyOf Tryd.f88) []) (bodyQ Tryd.prog Tryd.f88.results.toList K E) #[x0, undef, undef, undef, undef, undef, undef, undef, undef, undef, undef, undef, undef, undef, undef, undef, undef, undef, undef, undef, undef, undef, undef, undef, undef, undef, undef, undef, undef, undef, undef, undef, undef, undef, undef, undef, undef, undef, undef, undef, undef, undef, undef, undef, undef, undef, undef, undef, undef, undef, undef, undef, undef, undef, undef, undef, undef, undef, undef, undef, undef, undef, undef, undef, undef, undef, undef, undef, undef, undef, undef, undef] =
  nw 51 (Value.cells x0).toList fun t1 =>
  lp (fun k1 => den Tryd.prog (sel (bodyOf Tryd.f88) [1, 0, 1, 0, 0]) (thenD k1 (blk 0 (thenD (den Tryd.prog (sel (bodyOf Tryd.f88) [1, 1]) (bodyQ Tryd.prog Tryd.f88.results.toList K E)) (bodyQ Tryd.prog Tryd.f88.results.toList K E))))) #[x0, t1, (.bool false), (.int .i64 0), undef, undef, undef, undef, undef, undef, undef, undef, undef, undef, undef, undef, undef, undef, undef, undef, undef, undef, undef, undef, undef, undef, undef, undef, undef, undef, undef, undef, undef, undef, undef, undef, undef, undef, undef, undef, undef, undef, undef, undef, undef, undef, undef, undef, undef, undef, undef, undef, undef, undef, undef, undef, undef, undef, undef, undef, undef, undef, undef, undef, undef, undef, undef, undef, undef, undef, undef, undef] := by kernel_rfl
def m88_1_0_1_0_0 (x0 x1 x58 x59 x60 x61 x62 x63 x64 x65 x66 x67 x68 x69 x70 x71 : Value) (v3 : Value) (j : Nat → Value) : Env := #[x0, x1, (j 2), v3, (j 4), (j 5), (j 6), (j 7), (j 8), (j 9), (j 10), (j 11), (j 12), (j 13), (j 14), (j 15), (j 16), (j 17), (j 18), (j 19), (j 20), (j 21), (j 22), (j 23), (j 24), (j 25), (j 26), (j 27), (j 28), (j 29), (j 30), (j 31), (j 32), (j 33), (j 34), (j 35), (j 36), (j 37), (j 38), (j 39), (j 40), (j 41), (j 42), (j 43), (j 44), (j 45), (j 46), (j 47), (j 48), (j 49), (j 50), (j 51), (j 52), (j 53), (j 54), (j 55), (j 56), (j 57), x58, x59, x60, x61, x62, x63, x64, x65, x66, x67, x68, x69, x70, x71]
theorem t88_1_0_1_0_0 (K : Kont) (E : PanK) (k1 : Env → Hp → Prop) (x0 x1 x58 x59 x60 x61 x62 x63 x64 x65 x66 x67 x68 x69 x70 x71 v3 : Value) (j : Nat → Value) : den Tryd.prog (sel (bodyOf Tryd.f88) [1, 0, 1, 0, 0]) (thenD k1 (blk 0 (thenD (den Tryd.prog (sel (bodyOf Tryd.f88) [1, 1]) (bodyQ Tryd.prog Tryd.f88.results.toList K E)) (bodyQ Tryd.prog Tryd.f88.results.toList K E)))) (m88_1_0_1_0_0 x0 x1 x58 x59 x60 x61 x62 x63 x64 x65 x66 x67 x68 x69 x70 x71 v3 j) =
  pv (faV 1 x1) fun t1 =>
  ld false 1 t1 fun t2 =>
  pv (lenV t2) fun t3 =>
  pv (binV .none .lss v3 t3) fun t4 =>
  cnd t4 (
    pv (faV 1 x1) fun t5 =>
    ld false 1 t5 fun t6 =>
    pv (iaV none 1 t6 v3) fun t7 =>
    ld false 1 t7 fun t8 =>
    pv (binV .none .lss t8 (.int .i64 2)) fun t9 =>
    gdK t9 false (fun k => pv (faV 1 x1) k) fun t10 =>
    gdK t9 false (fun k => ld false 1 t10 k) fun t11 =>
    gdK t9 false (fun k => k v3) fun t12 =>
    gdK t9 false (fun k => pv (iaV none 1 t11 t12) k) fun t13 =>
    gdK t9 false (fun k => ld false 1 t13 k) fun t14 =>
    gdK t9 false (fun k => pv (binV .none .gtr t14 (.int .i64 10000)) k) fun t15 =>
    pv (pickV t9 (.bool true) t15) fun t16 =>
    gdK t16 false (fun k => k v3) fun t17 =>
    gdK t16 false (fun k => pv (binV .none .gtr t17 (.int .i64 0)) k) fun t18 =>
    gdK t16 false (fun k => k t18) fun t19 =>
    gdK t19 true (fun k => pv (faV 1 x1) k) fun t20 =>
    gdK t19 true (fun k => ld false 1 t20 k) fun t21 =>
    gdK t19 true (fun k => k v3) fun t22 =>
    gdK t19 true (fun k => pv (iaV none 1 t21 t22) k) fun t23 =>
    gdK t19 true (fun k => ld false 1 t23 k) fun t24 =>
    gdK t19 true (fun k => pv (faV 1 x1) k) fun t25 =>
    gdK t19 true (fun k => ld false 1 t25 k) fun t26 =>
    gdK t19 true (fun k => k v3) fun t27 =>
    gdK t19 true (fun k => pv (binV .none .sub t27 (.int .i64 1)) k) fun t28 =>
    gdK t19 true (fun k => pv (iaV none 1 t26 t28) k) fun t29 =>
    gdK t19 true (fun k => ld false 1 t29 k) fun t30 =>
    gdK t19 true (fun k => pv (binV .none .leq t24 t30) k) fun t31 =>
    gdK t19 true (fun k => k t31) fun t32 =>
    gdK t32 false (fun k => pv (faV 1 x1) k) fun t33 =>
    gdK t32 false (fun k => ld false 1 t33 k) fun t34 =>
    gdK t32 false (fun k => k v3) fun t35 =>
    gdK t32 false (fun k => pv (iaV none 1 t34 t35) k) fun t36 =>
    gdK t32 false (fun k => ld false 1 t36 k) fun t37 =>
    gdK t32 false (fun k => pv (faV 1 x1) k) fun t38 =>
    gdK t32 false (fun k => ld false 1 t38 k) fun t39 =>
    gdK t32 false (fun k => k v3) fun t40 =>
    gdK t32 false (fun k => pv (binV .none .sub t40 (.int .i64 1)) k) fun t41 =>
    gdK t32 false (fun k => pv (iaV none 1 t39 t41) k) fun t42 =>
    gdK t32 false (fun k => ld false 1 t42 k) fun t43 =>
    gdK t32 false (fun k => pv (binV .none .rem t37 t43) k) fun t44 =>
    gdK t32 false (fun k => pv (binV .none .neq t44 (.int .i64 0)) k) fun t45 =>
    gdK t19 true (fun k => pv (pickV t32 (.bool true) t45) k) fun t46 =>
    gdK t16 false (fun k => pv (pickV t19 t46 (.bool false)) k) fun t47 =>
    pv (pickV t16 (.bool true) t47) fun t48 =>
    cnd t48 (
      K (.bool false)) (
      pv (binV .none .add v3 (.int .i64 1)) fun t49 =>
      k1 (m88_1_0_1_0_0 x0 x1 x58 x59 x60 x61 x62 x63 x64 x65 x66 x67 x68 x69 x70 x71 t49 (jf #[x0, x1, (j 2), t49, v3, t1, t2, t3, t4, v3, t49, t5, t6, v3, t7, t8, t9, t9, t10, t11, t12, t13, t14, t15, t16, t16, t17, t18, t19, t20, t21, t22, t23, t24, t25, t26, t27, t28, t29, t30, t31, t32, t33, t34, t35, t36, t37, t38, t39, t40, t41, t42, t43, t44, t45, t46, t47, t48, x58, x59, x60, x61, x62, x63, x64, x65, x66, x67, x68, x69, x70, x71])))) (
    den Tryd.prog (sel (bodyOf Tryd.f88) [1, 1]) (bodyQ Tryd.prog Tryd.f88.results.toList K E) #[x0, x1, (j 2), v3, v3, t1, t2, t3, t4, (j 9), (j 10), (j 11), (j 12), (j 13), (j 14), (j 15), (j 16), (j 17), (j 18), (j 19), (j 20), (j 21), (j 22), (j 23), (j 24), (j 25), (j 26), (j 27), (j 28), (j 29), (j 30), (j 31), (j 32), (j 33), (j 34), (j 35), (j 36), (j 37), (j 38), (j 39), (j 40), (j 41), (j 42), (j 43), (j 44), (j 45), (j 46), (j 47), (j 48), (j 49), (j 50), (j 51), (j 52), (j 53), (j 54), (j 55), (j 56), (j 57), x58, x59, x60, x61, x62, x63, x64, x65, x66, x67, x68, x69, x70, x71]) := by kernel_rfl
theorem t88_1_1 (K : Kont) (E : PanK) (x0 x1 x2 x3 x4 x5 x6 x7 x8 x9 x10 x11 x12 x13 x14 x15 x16 x17 x18 x19 x20 x21 x22 x23 x24 x25 x26 x27 x28 x29 x30 x31 x32 x33 x34 x35 x36 x37 x38 x39 x40 x41 x42 x43 x44 x45 x46 x47 x48 x49 x50 x51 x52 x53 x54 x55 x56 x57 x58 x59 x60 x61 x62 x63 x64 x65 x66 x67 x68 x69 x70 x71 : Value)  : den Tryd.prog (sel (bodyOf Tryd.f88) [1, 1]) (bodyQ Tryd.prog Tryd.f88.results.toList K E) #[x0, x1, x2, x3, x4, x5, x6, x7, x8, x9, x10, x11, x12, x13, x14, x15, x16, x17, x18, x19, x20, x21, x22, x23, x24, x25, x26, x27, x28, x29, x30, x31, x32, x33, x34, x35, x36, x37, x38, x39, x40, x41, x42, x43, x44, x45, x46, x47, x48, x49, x50, x51, x52, x53, x54, x55, x56, x57, x58, x59, x60, x61, x62, x63, x64, x65, x66, x67, x68, x69, x70, x71] =
  pv (faV 0 x1) fun t1 =>
  ld false 1 t1 fun t2 =>
  pv (binV .none .geq t2 (.int .i64 1)) fun t3 =>
  gdK t3 true (fun k => pv (faV 0 x1) k) fun t4 =>
  gdK t3 true (fun k => ld false 1 t4 k) fun t5 =>
  gdK t3 true (fun k => pv (binV .none .leq t5 (.int .i64 10000)) k) fun t6 =>
  pv (pickV t3 t6 (.bool false)) fun t7 =>
  gdK t7 true (fun k => pv (faV 1 x1) k) fun t8 =>
  gdK t7 true (fun k => ld false 1 t8 k) fun t9 =>
  gdK t7 true (fun k => pv (lenV t9) k) fun t10 =>
  gdK t7 true (fun k => pv (binV .none .leq t10 (.int .i64 4)) k) fun t11 =>
  pv (pickV t7 t11 (.bool false)) fun t12 =>
  K t12 := by kernel_rfl
theorem l88_1_0_1_0_0 {K : Kont} {E : PanK} {σ : Type} {x0 x1 x58 x59 x60 x61 x62 x63 x64 x65 x66 x67 x68 x69 x70 x71 v3 y2 y4 y5 y6 y7 y8 y9 y10 y11 y12 y13 y14 y15 y16 y17 y18 y19 y20 y21 y22 y23 y24 y25 y26 y27 y28 y29 y30 y31 y32 y33 y34 y35 y36 y37 y38 y39 y40 y41 y42 y43 y44 y45 y46 y47 y48 y49 y50 y51 y52 y53 y54 y55 y56 y57 : Value} {h : Hp} (f3 : σ → Value) (I : σ → Hp → Prop) (μ : σ → Nat) (s0 : σ) (e3 : v3 = f3 s0) (h0 : h.wf → ∃ h', h.wk h' ∧ I s0 h')
  (round : ∀ (k1 : Env → Hp → Prop) (s : σ) (j : Nat → Value) (h : Hp), I s h → h.wf → (∀ s' j' h', μ s' < μ s → (h'.wf → ∃ h'', h'.wk h'' ∧ I s' h'') → k1 (m88_1_0_1_0_0 x0 x1 x58 x59 x60 x61 x62 x63 x64 x65 x66 x67 x68 x69 x70 x71 (f3 s') j') h') → (
  pv (faV 1 x1) fun t1 =>
  ld false 1 t1 fun t2 =>
  pv (lenV t2) fun t3 =>
  pv (binV .none .lss (f3 s) t3) fun t4 =>
  cnd t4 (
    pv (faV 1 x1) fun t5 =>
    ld false 1 t5 fun t6 =>
    pv (iaV none 1 t6 (f3 s)) fun t7 =>
    ld false 1 t7 fun t8 =>
    pv (binV .none .lss t8 (.int .i64 2)) fun t9 =>
    gdK t9 false (fun k => pv (faV 1 x1) k) fun t10 =>
    gdK t9 false (fun k => ld false 1 t10 k) fun t11 =>
    gdK t9 false (fun k => k (f3 s)) fun t12 =>
    gdK t9 false (fun k => pv (iaV none 1 t11 t12) k) fun t13 =>
    gdK t9 false (fun k => ld false 1 t13 k) fun t14 =>
    gdK t9 false (fun k => pv (binV .none .gtr t14 (.int .i64 10000)) k) fun t15 =>
    pv (pickV t9 (.bool true) t15) fun t16 =>
    gdK t16 false (fun k => k (f3 s)) fun t17 =>
    gdK t16 false (fun k => pv (binV .none .gtr t17 (.int .i64 0)) k) fun t18 =>
    gdK t16 false (fun k => k t18) fun t19 =>
    gdK t19 true (fun k => pv (faV 1 x1) k) fun t20 =>
    gdK t19 true (fun k => ld false 1 t20 k) fun t21 =>
    gdK t19 true (fun k => k (f3 s)) fun t22 =>
    gdK t19 true (fun k => pv (iaV none 1 t21 t22) k) fun t23 =>
    gdK t19 true (fun k => ld false 1 t23 k) fun t24 =>
    gdK t19 true (fun k => pv (faV 1 x1) k) fun t25 =>
    gdK t19 true (fun k => ld false 1 t25 k) fun t26 =>
    gdK t19 true (fun k => k (f3 s)) fun t27 =>
    gdK t19 true (fun k => pv (binV .none .sub t27 (.int .i64 1)) k) fun t28 =>
    gdK t19 true (fun k => pv (iaV none 1 t26 t28) k) fun t29 =>
    gdK t19 true (fun k => ld false 1 t29 k) fun t30 =>
    gdK t19 true (fun k => pv (binV .none .leq t24 t30) k) fun t31 =>
    gdK t19 true (fun k => k t31) fun t32 =>
    gdK t32 false (fun k => pv (faV 1 x1) k) fun t33 =>
    gdK t32 false (fun k => ld false 1 t33 k) fun t34 =>
    gdK t32 false (fun k => k (f3 s)) fun t35 =>
    gdK t32 false (fun k => pv (iaV none 1 t34 t35) k) fun t36 =>
    gdK t32 false (fun k => ld false 1 t36 k) fun t37 =>
    gdK t32 false (fun k => pv (faV 1 x1) k) fun t38 =>
    gdK t32 false (fun k => ld false 1 t38 k) fun t39 =>
    gdK t32 false (fun k => k (f3 s)) fun t40 =>
    gdK t32 false (fun k => pv (binV .none .sub t40 (.int .i64 1)) k) fun t41 =>
    gdK t32 false (fun k => pv (iaV none 1 t39 t41) k) fun t42 =>
    gdK t32 false (fun k => ld false 1 t42 k) fun t43 =>
    gdK t32 false (fun k => pv (binV .none .rem t37 t43) k) fun t44 =>
    gdK t32 false (fun k => pv (binV .none .neq t44 (.int .i64 0)) k) fun t45 =>
    gdK t19 true (fun k => pv (pickV t32 (.bool true) t45) k) fun t46 =>
    gdK t16 false (fun k => pv (pickV t19 t46 (.bool false)) k) fun t47 =>
    pv (pickV t16 (.bool true) t47) fun t48 =>
    cnd t48 (
      K (.bool false)) (
      pv (binV .none .add (f3 s) (.int .i64 1)) fun t49 =>
      k1 (m88_1_0_1_0_0 x0 x1 x58 x59 x60 x61 x62 x63 x64 x65 x66 x67 x68 x69 x70 x71 t49 (jf #[x0, x1, (j 2), t49, (f3 s), t1, t2, t3, t4, (f3 s), t49, t5, t6, (f3 s), t7, t8, t9, t9, t10, t11, t12, t13, t14, t15, t16, t16, t17, t18, t19, t20, t21, t22, t23, t24, t25, t26, t27, t28, t29, t30, t31, t32, t33, t34, t35, t36, t37, t38, t39, t40, t41, t42, t43, t44, t45, t46, t47, t48, x58, x59, x60, x61, x62, x63, x64, x65, x66, x67, x68, x69, x70, x71])))) (
    den Tryd.prog (sel (bodyOf Tryd.f88) [1, 1]) (bodyQ Tryd.prog Tryd.f88.results.toList K E) #[x0, x1, (j 2), (f3 s), (f3 s), t1, t2, t3, t4, (j 9), (j 10), (j 11), (j 12), (j 13), (j 14), (j 15), (j 16), (j 17), (j 18), (j 19), (j 20), (j 21), (j 22), (j 23), (j 24), (j 25), (j 26), (j 27), (j 28), (j 29), (j 30), (j 31), (j 32), (j 33), (j 34), (j 35), (j 36), (j 37), (j 38), (j 39), (j 40), (j 41), (j 42), (j 43), (j 44), (j 45), (j 46), (j 47), (j 48), (j 49), (j 50), (j 51), (j 52), (j 53), (j 54), (j 55), (j 56), (j 57), x58, x59, x60, x61, x62, x63, x64, x65, x66, x67, x68, x69, x70, x71])) h) :
  lp (fun k1 => den Tryd.prog (sel (bodyOf Tryd.f88) [1, 0, 1, 0, 0]) (thenD k1 (blk 0 (thenD (den Tryd.prog (sel (bodyOf Tryd.f88) [1, 1]) (bodyQ Tryd.prog Tryd.f88.results.toList K E)) (bodyQ Tryd.prog Tryd.f88.results.toList K E))))) #[x0, x1, y2, v3, y4, y5, y6, y7, y8, y9, y10, y11, y12, y13, y14, y15, y16, y17, y18, y19, y20, y21, y22, y23, y24, y25, y26, y27, y28, y29, y30, y31, y32, y33, y34, y35, y36, y37, y38, y39, y40, y41, y42, y43, y44, y45, y46, y47, y48, y49, y50, y51, y52, y53, y54, y55, y56, y57, x58, x59, x60, x61, x62, x63, x64, x65, x66, x67, x68, x69, x70, x71] h := by
  subst e3
  have e : (#[x0, x1, y2, (f3 s0), y4, y5, y6, y7, y8, y9, y10, y11, y12, y13, y14, y15, y16, y17, y18, y19, y20, y21, y22, y23, y24, y25, y26, y27, y28, y29, y30, y31, y32, y33, y34, y35, y36, y37, y38, y39, y40, y41, y42, y43, y44, y45, y46, y47, y48, y49, y50, y51, y52, y53, y54, y55, y56, y57, x58, x59, x60, x61, x62, x63, x64, x65, x66, x67, x68, x69, x70, x71] : Env) = m88_1_0_1_0_0 x0 x1 x58 x59 x60 x61 x62 x63 x64 x65 x66 x67 x68 x69 x70 x71 (f3 s0) (jf #[x0, x1, y2, (f3 s0), y4, y5, y6, y7, y8, y9, y10, y11, y12, y13, y14, y15, y16, y17, y18, y19, y20, y21, y22, y23, y24, y25, y26, y27, y28, y29, y30, y31, y32, y33, y34, y35, y36, y37, y38, y39, y40, y41, y42, y43, y44, y45, y46, y47, y48, y49, y50, y51, y52, y53, y54, y55, y56, y57, x58, x59, x60, x61, x62, x63, x64, x65, x66, x67, x68, x69, x70, x71]) := by kernel_rfl
  rw [e]
  exact loop_r (fun s j => m88_1_0_1_0_0 x0 x1 x58 x59 x60 x61 x62 x63 x64 x65 x66 x67 x68 x69 x70 x71 (f3 s) j) I μ (fun k s j h hI hw next => by rw [t88_1_0_1_0_0]; exact round k s j h hI hw next) s0 (jf #[x0, x1, y2, (f3 s0), y4, y5, y6, y7, y8, y9, y10, y11, y12, y13, y14, y15, y16, y17, y18, y19, y20, y21, y22, y23, y24, y25, y26, y27, y28, y29, y30, y31, y32, y33, y34, y35, y36, y37, y38, y39, y40, y41, y42, y43, y44, y45, y46, y47, y48, y49, y50, y51, y52, y53, y54, y55, y56, y57, x58, x59, x60, x61, x62, x63, x64, x65, x66, x67, x68, x69, x70, x71]) h0

theorem t89 (K : Kont) (E : PanK) (x0 x1 x2 x3 : Value)  : den Tryd.prog (sel (bodyOf Tryd.f89) []) (bodyQ Tryd.prog Tryd.f89.results.toList K E) #[x0, x1, x2, x3, undef, undef, undef, undef, undef, undef, undef, undef, undef, undef, undef, undef, undef, undef, undef, undef, undef, undef, undef, undef, undef, undef, undef, undef, undef, undef, undef, undef, undef, undef, undef, undef, undef, undef, undef, undef, undef, undef, undef, undef, undef, undef, undef, undef, undef, undef, undef, undef, undef, undef, undef, undef, undef, undef, undef, undef, undef, undef, undef, undef, undef] =
  nw 51 (Value.cells x0).toList fun t1 =>
  ld true 2 t1 fun t2 =>
  callv Tryd.prog (.func (.func 88) #[] #[]) #[t2] (fun t3 =>
  pv (unV .not t3) fun t4 =>
  gdK t4 false (fun k => k x1) fun t5 =>
  gdK t4 false (fun k => pv (binV .none .lss t5 (.int .i64 0)) k) fun t6 =>
  pv (pickV t4 (.bool true) t6) fun t7 =>
  gdK t7 false (fun k => k x2) fun t8 =>
  gdK t7 false (fun k => k x1) fun t9 =>
  gdK t7 false (fun k => pv (binV .none .lss t8 t9) k) fun t10 =>
  pv (pickV t7 (.bool true) t10) fun t11 =>
  gdK t11 false (fun k => k x2) fun t12 =>
  gdK t11 false (fun k => ld true 2 t1 k) fun t13 =>
  gdK t11 false (fun k => callv Tryd.prog (.func (.func 71) #[] #[]) #[t13] k E) fun t14 =>
  gdK t11 false (fun k => pv (binV .none .geq t12 t14) k) fun t15 =>
  pv (pickV t11 (.bool true) t15) fun t16 =>
  gdK t16 false (fun k => k x3) fun t17 =>
  gdK t16 false (fun k => pv (binV .none .lss t17 (.int .i64 0)) k) fun t18 =>
  pv (pickV t16 (.bool true) t18) fun t19 =>
  cnd t19 (
    K (.int .i64 (-1))) (
    pv (binV .none .eql x1 x2) fun t20 =>
    cnd t20 (
      K x3) (
      ld true 2 t1 fun t21 =>
      callv Tryd.prog (.func (.func 71) #[] #[]) #[t21] (fun t22 =>
      pv (binV .none .sub t22 (.int .i64 1)) fun t23 =>
      pv (binV .none .eql x2 t23) fun t24 =>
      cnd t24 (
        K (.int .i64 0)) (
        pv (binV .none .eql x1 (.int .i64 0)) fun t25 =>
        cnd t25 (
          pv (faV 1 t1) fun t26 =>
          ld false 1 t26 fun t27 =>
          pv (binV .none .sub x2 (.int .i64 1)) fun t28 =>
          pv (iaV none 1 t27 t28) fun t29 =>
          ld false 1 t29 fun t30 =>
          pv (binV .none .quo x3 t30) fun t31 =>
          K t31) (
          pv (faV 1 t1) fun t32 =>
          ld false 1 t32 fun t33 =>
          pv (binV .none .sub x2 (.int .i64 1)) fun t34 =>
          pv (iaV none 1 t33 t34) fun t35 =>
          ld false 1 t35 fun t36 =>
          pv (faV 1 t1) fun t37 =>
          ld false 1 t37 fun t38 =>
          pv (binV .none .sub x1 (.int .i64 1)) fun t39 =>
          pv (iaV none 1 t38 t39) fun t40 =>
          ld false 1 t40 fun t41 =>
          pv (binV .none .quo t36 t41) fun t42 =>
          pv (binV .none .quo x3 t42) fun t43 =>
          K t43))) E))) E := by kernel_rfl

theorem t100 (K : Kont) (E : PanK) (x0 x1 : Value)  : den Tryd.prog (sel (bodyOf Tryd.f100) []) (bodyQ Tryd.prog Tryd.f100.results.toList K E) #[x0, x1, undef, undef, undef, undef, undef, undef, undef, undef, undef, undef, undef, undef, undef, undef, undef, undef, undef] =
  pv (lenV x0) fun t1 =>
  lp (fun k1 => den Tryd.prog (sel (bodyOf Tryd.f100) [1, 0, 1, 0, 0]) (thenD k1 (blk 0 (thenD (den Tryd.prog (sel (bodyOf Tryd.f100) [1, 1]) (bodyQ Tryd.prog Tryd.f100.results.toList K E)) (bodyQ Tryd.prog Tryd.f100.results.toList K E))))) #[x0, x1, undef, undef, (.int .i64 0), undef, x0, t1, (.int .i64 0), undef, undef, undef, undef, undef, undef, undef, undef, undef, undef] := by kernel_rfl
def m100_1_0_1_0_0 (x0 x1 x2 x3 x6 x7 : Value) (v8 : Value) (j : Nat → Value) : Env := #[x0, x1, x2, x3, (j 4), (j 5), x6, x7, v8, (j 9), (j 10), (j 11), (j 12), (j 13), (j 14), (j 15), (j 16), (j 17), (j 18)]
theorem t100_1_0_1_0_0 (K : Kont) (E : PanK) (k1 : Env → Hp → Prop) (x0 x1 x2 x3 x6 x7 v8 : Value) (j : Nat → Value) : den Tryd.prog (sel (bodyOf Tryd.f100) [1, 0, 1, 0, 0]) (thenD k1 (blk 0 (thenD (den Tryd.prog (sel (bodyOf Tryd.f100) [1, 1]) (bodyQ Tryd.prog Tryd.f100.results.toList K E)) (bodyQ Tryd.prog Tryd.f100.results.toList K E)))) (m100_1_0_1_0_0 x0 x1 x2 x3 x6 x7 v8 j) =
  pv (binV .none .lss v8 x7) fun t1 =>
  cnd t1 (
    pv (iaV none 2 x0 v8) fun t2 =>
    ld true 2 t2 fun t3 =>
    callv Tryd.prog x1 #[t3] (fun t4 =>
    cnd t4 (
      K v8) (
      pv (binV .none .add v8 (.int .i64 1)) fun t5 =>
      k1 (m100_1_0_1_0_0 x0 x1 x2 x3 x6 x7 t5 (jf #[x0, x1, x2, x3, (j 4), v8, x6, x7, t5, t1, v8, x1, x0, v8, t2, t3, t4, (j 17), t5])))) E) (
    den Tryd.prog (sel (bodyOf Tryd.f100) [1, 1]) (bodyQ Tryd.prog Tryd.f100.results.toList K E) #[x0, x1, x2, x3, (j 4), (j 5), x6, x7, v8, t1, (j 10), (j 11), (j 12), (j 13), (j 14), (j 15), (j 16), (j 17), (j 18)]) := by kernel_rfl
theorem t100_1_1 (K : Kont) (E : PanK) (x0 x1 x2 x3 x4 x5 x6 x7 x8 x9 x10 x11 x12 x13 x14 x15 x16 x17 x18 : Value)  : den Tryd.prog (sel (bodyOf Tryd.f100) [1, 1]) (bodyQ Tryd.prog Tryd.f100.results.toList K E) #[x0, x1, x2, x3, x4, x5, x6, x7, x8, x9, x10, x11, x12, x13, x14, x15, x16, x17, x18] =
  K (.int .i64 (-1)) := by kernel_rfl
theorem l100_1_0_1_0_0 {K : Kont} {E : PanK} {σ : Type} {x0 x1 x2 x3 x6 x7 v8 y4 y5 y9 y10 y11 y12 y13 y14 y15 y16 y17 y18 : Value} {h : Hp} (f8 : σ → Value) (I : σ → Hp → Prop) (μ : σ → Nat) (s0 : σ) (e8 : v8 = f8 s0) (h0 : h.wf → ∃ h', h.wk h' ∧ I s0 h')
  (round : ∀ (k1 : Env → Hp → Prop) (s : σ) (j : Nat → Value) (h : Hp), I s h → h.wf → (∀ s' j' h', μ s' < μ s → (h'.wf → ∃ h'', h'.wk h'' ∧ I s' h'') → k1 (m100_1_0_1_0_0 x0 x1 x2 x3 x6 x7 (f8 s') j') h') → (
  pv (binV .none .lss (f8 s) x7) fun t1 =>
  cnd t1 (
    pv (iaV none 2 x0 (f8 s)) fun t2 =>
    ld true 2 t2 fun t3 =>
    callv Tryd.prog x1 #[t3] (fun t4 =>
    cnd t4 (
      K (f8 s)) (
      pv (binV .none .add (f8 s) (.int .i64 1)) fun t5 =>
      k1 (m100_1_0_1_0_0 x0 x1 x2 x3 x6 x7 t5 (jf #[x0, x1, x2, x3, (j 4), (f8 s), x6, x7, t5, t1, (f8 s), x1, x0, (f8 s), t2, t3, t4, (j 17), t5])))) E) (
    den Tryd.prog (sel (bodyOf Tryd.f100) [1, 1]) (bodyQ Tryd.prog Tryd.f100.results.toList K E) #[x0, x1, x2, x3, (j 4), (j 5), x6, x7, (f8 s), t1, (j 10), (j 11), (j 12), (j 13), (j 14), (j 15), (j 16), (j 17), (j 18)])) h) :
  lp (fun k1 => den Tryd.prog (sel (bodyOf Tryd.f100) [1, 0, 1, 0, 0]) (thenD k1 (blk 0 (thenD (den Tryd.prog (sel (bodyOf Tryd.f100) [1, 1]) (bodyQ Tryd.prog Tryd.f100.results.toList K E)) (bodyQ Tryd.prog Tryd.f100.results.toList K E))))) #[x0, x1, x2, x3, y4, y5, x6, x7, v8, y9, y10, y11, y12, y13, y14, y15, y16, y17, y18] h := by
  subst e8
  have e : (#[x0, x1, x2, x3, y4, y5, x6, x7, (f8 s0), y9, y10, y11, y12, y13, y14, y15, y16, y17, y18] : Env) = m100_1_0_1_0_0 x0 x1 x2 x3 x6 x7 (f8 s0) (jf #[x0, x1, x2, x3, y4, y5, x6, x7, (f8 s0), y9, y10, y11, y12, y13, y14, y15, y16, y17, y18]) := by kernel_rfl
  rw [e]
  exact loop_r (fun s j => m100_1_0_1_0_0 x0 x1 x2 x3 x6 x7 (f8 s) j) I μ (fun k s j h hI hw next => by rw [t100_1_0_1_0_0]; exact round k s j h hI hw next) s0 (jf #[x0, x1, x2, x3, y4, y5, x6, x7, (f8 s0), y9, y10, y11, y12, y13, y14, y15, y16, y17, y18]) h0

theorem t101 (K : Kont) (E : PanK) (x0 x1 : Value)  : den Tryd.prog (sel (bodyOf Tryd.f101) []) (bodyQ Tryd.prog Tryd.f101.results.toList K E) #[x0, x1, undef, undef, undef, undef, undef, undef, undef, undef, undef, undef, undef, undef, undef, undef, undef, undef, undef, undef] =
  nw 51 (Value.cells x0).toList fun t1 =>
  pv (binV .none .eql x1 (.int .i64 0)) fun t2 =>
  cnd t2 (
    K (.int .i64 1)) (
    pv (faV 1 t1) fun t3 =>
    ld false 1 t3 fun t4 =>
    pv (lenV t4) fun t5 =>
    pv (binV .none .gtr x1 t5) fun t6 =>
    cnd t6 (
      K (.int .i64 0)) (
      pv (faV 1 t1) fun t7 =>
      ld false 1 t7 fun t8 =>
      pv (binV .none .sub x1 (.int .i64 1)) fun t9 =>
      pv (iaV none 1 t8 t9) fun t10 =>
      ld false 1 t10 fun t11 =>
      K t11)) := by kernel_rfl

end Go.Proofs.YthpacapdaembpaaDoor.T
open Go Go.RowKit Go.Proofs.YthpacapdaembpaaDoor.K Go.Proofs.YthpacapdaembpaaDoor.T
set_option linter.unusedVariables false
set_option linter.unusedSimpArgs false
namespace Go.Proofs.YthpacapdaembpaaDoor.A
variable {F F' : Nat → Option (List Value)} {M M' : Nat → Option Chunk} {N N' : Nat} {K : Kont} {E : PanK}
/-! ### Dimensions -/
/-- May divisors be, behind one? -/
def chk (last : Int) : List Int → Bool
  | [] => true
  | x :: l => decide (¬ (x ≤ last ∨ x > 10000 ∨ x % last ≠ 0)) && chk x l
def okDim (d : Dm) : Bool := decide (1 ≤ d.1 ∧ d.1 ≤ 10000 ∧ d.2.length ≤ 4) && chk 1 d.2
theorem chk_cons {last x : Int} {l : List Int} (h : chk last (x :: l) = true) : last < x ∧ x ≤ 10000 ∧ last ∣ x ∧ chk x l = true := by
  simp only [chk, Bool.and_eq_true] at h
  have := of_decide_eq_true h.1
  exact ⟨by omega, by omega, Int.dvd_of_emod_eq_zero (by omega), h.2⟩
theorem chk_get : ∀ {l : List Int} {last : Int}, chk last l = true → ∀ (i : Nat) (h : i < l.length), last < l[i] ∧ l[i] ≤ 10000 ∧ last ∣ l[i] ∧ chk l[i] (l.drop (i + 1)) = true
  | [], _, _, i, h => by simp at h
  | x :: l, last, hc, 0, h => by obtain ⟨a, b, c, d⟩ := chk_cons hc; exact ⟨a, b, c, by simpa using d⟩
  | x :: l, last, hc, i + 1, h => by
    obtain ⟨a, b, c, d⟩ := chk_cons hc
    obtain ⟨e, f, g, k⟩ := chk_get d i (by simpa using h)
    simp only [List.getElem_cons_succ, List.drop_succ_cons]
    exact ⟨by omega, f, Int.dvd_trans c g, k⟩
theorem chk_lt {l : List Int} (hc : chk 1 l = true) {i j : Nat} (hij : i < j) (hj : j < l.length) : l[i] < l[j] ∧ l[i] ∣ l[j] ∧ 0 < l[i] := by
  obtain ⟨a, b, c, d⟩ := chk_get hc i (by omega)
  have h := chk_get d (j - (i + 1)) (by rw [List.length_drop]; omega)
  simp only [List.getElem_drop] at h
  have e : i + 1 + (j - (i + 1)) = j := by omega
  simp only [e] at h
  exact ⟨h.1, h.2.2.1, by omega⟩
def prevD (l : List Int) (i : Nat) : Int := if h : 0 < i ∧ i ≤ l.length then l[i - 1] else 1
theorem chk_at {l : List Int} {i : Nat} (h : i < l.length) : chk (prevD l i) (l.drop i) = (decide (¬ (l[i] ≤ prevD l i ∨ l[i] > 10000 ∨ l[i] % prevD l i ≠ 0)) && chk (prevD l (i + 1)) (l.drop (i + 1))) := by
  rw [List.drop_eq_getElem_cons h]
  simp only [chk]
  congr 2
  unfold prevD
  rw [dif_pos ⟨by omega, by omega⟩]
  simp
theorem rem_i {e : EqK} {k : IntKind} {a b : Int} {h : Hp} (ha : 0 ≤ a) (hb : 0 < b) (kk : K (.int k (a % b)) h) : pv (binV e .rem (.int k a) (.int k b)) K h :=
  ⟨_, by rw [inV]; simp only [intV]; rw [if_neg (by omega)], by rw [Int.tmod_eq_emod_of_nonneg ha]; exact kk⟩
theorem quo_i {e : EqK} {a b : Int} {h : Hp} (ha : 0 ≤ a) (ha2 : a ≤ 9223372036854775807) (hb : 0 < b) (kk : K (.int .i64 (a / b)) h) : pv (binV e .quo (.int .i64 a) (.int .i64 b)) K h :=
  ⟨_, by rw [inV]; simp only [intV]; rw [if_neg (by omega)], by
    rw [Int.tdiv_eq_ediv_of_nonneg ha, wrap_in (by have := Int.ediv_nonneg ha (Int.le_of_lt hb); omega) (by have := Int.ediv_le_self b ha; omega)]; exact kk⟩
/-- dims.right -/
theorem dright_c {cs : List Value} {d : Dm} (hd : dimD F cs d) (k : ∀ N', N ≤ N' → (Hp.mk F M N').wf → K (.bool (okDim d)) ⟨F, M, N'⟩) :
    callv Tryd.prog (.func (.func 86) #[] #[]) #[.agg cs.toArray] K E ⟨F, M, N⟩ := by
  refine callv_of_text mixed Tryd.func86 (by kernel_rfl) (t86 _ E _) (fun hw => ?_)
  have hm := hw.m
  obtain ⟨v, rfl, hv, hvl⟩ := hd
  refine nw_r (cs := [.int .i64 d.1, v]) (fun b hb => ?_)
  have fin : ∀ v', v' = okDim d → ∀ h', h' = (⟨F, upd M b (some (.cells 51 [.int .i64 d.1, v] 2)), b + 1⟩ : Hp) → h'.wf → ∃ h'', h'.wk h'' ∧ (h''.wf → K (.bool v') h'') := fun v' e h' e' hc => by
    subst e; subst e'
    exact ⟨⟨F, M, b + 1⟩, wk_end hc, fun hw' => k _ (by omega) hw'⟩
  unfold okDim at fin
  have no : ¬ (1 ≤ d.1 ∧ d.1 ≤ 10000 ∧ d.2.length ≤ 4) → false = (decide (1 ≤ d.1 ∧ d.1 ≤ 10000 ∧ d.2.length ≤ 4) && chk 1 d.2) := fun h => by rw [decide_eq_false h]; rfl
  try simp only [gdTT, gdFF, gdTF, gdFT, pvS, pickT, pickF, faP, lenS, capS, nilP, exA, exB, exC, notB, cndT, cndF, Bool.not_true, Bool.not_false, Nat.zero_add, Nat.add_zero]
  refine ldM (v := .int .i64 d.1) ?_
  refine lss_r (fun h1 => ?_) (fun h1 => ?_)
  · try simp only [gdTT, gdFF, gdTF, gdFT, pvS, pickT, pickF, faP, lenS, capS, nilP, exA, exB, exC, notB, cndT, cndF, Bool.not_true, Bool.not_false, Nat.zero_add, Nat.add_zero]
    exact fin _ (no (by omega)) _ rfl
  try simp only [gdTT, gdFF, gdTF, gdFT, pvS, pickT, pickF, faP, lenS, capS, nilP, exA, exB, exC, notB, cndT, cndF, Bool.not_true, Bool.not_false, Nat.zero_add, Nat.add_zero]
  refine ldM (v := .int .i64 d.1) ?_
  refine gtr_r (fun h2 => ?_) (fun h2 => ?_)
  · try simp only [gdTT, gdFF, gdTF, gdFT, pvS, pickT, pickF, faP, lenS, capS, nilP, exA, exB, exC, notB, cndT, cndF, Bool.not_true, Bool.not_false, Nat.zero_add, Nat.add_zero]
    exact fin _ (no (by omega)) _ rfl
  try simp only [gdTT, gdFF, gdTF, gdFT, pvS, pickT, pickF, faP, lenS, capS, nilP, exA, exB, exC, notB, cndT, cndF, Bool.not_true, Bool.not_false, Nat.zero_add, Nat.add_zero]
  refine ldM (v := v) (lenF_r hv ?_)
  refine gtr_r (fun h3 => ?_) (fun h3 => ?_)
  · try simp only [gdTT, gdFF, gdTF, gdFT, pvS, pickT, pickF, faP, lenS, capS, nilP, exA, exB, exC, notB, cndT, cndF, Bool.not_true, Bool.not_false, Nat.zero_add, Nat.add_zero]
    exact fin _ (no (by omega)) _ rfl
  try simp only [gdTT, gdFF, gdTF, gdFT, pvS, pickT, pickF, faP, lenS, capS, nilP, exA, exB, exC, notB, cndT, cndF, Bool.not_true, Bool.not_false, Nat.zero_add, Nat.add_zero]
  refine ldM (v := v) (lenF_r hv ?_)
  rw [decide_eq_true ⟨by omega, by omega, by omega⟩, Bool.true_and] at fin
  refine l86_1_1_1_0_1_0_0 (σ := Nat) (fun i => .int .i64 (prevD d.2 i)) (fun i => .int .i64 (i : Nat)) (fun i h => h = ⟨F, upd M b (some (.cells 51 [.int .i64 d.1, v] 2)), b + 1⟩ ∧ i ≤ d.2.length ∧ chk 1 d.2 = chk (prevD d.2 i) (d.2.drop i) ∧ 1 ≤ prevD d.2 i) (fun i => d.2.length - i) 0 rfl rfl
    (fun hw1 => ⟨_, wk_refl hw1, rfl, Nat.zero_le _, rfl, by simp [prevD]⟩) (fun k1 i j h1' hI hw1 next => ?_)
  obtain ⟨rfl, hi, he, hp⟩ := hI
  refine lss_r (fun hlt => ?_) (fun hge => ?_)
  · have h4 : i < d.2.length := by omega
    rw [chk_at h4] at he
    try simp only [gdTT, gdFF, gdTF, gdFT, pvS, pickT, pickF, faP, lenS, capS, nilP, exA, exB, exC, notB, cndT, cndF, Bool.not_true, Bool.not_false, Nat.zero_add, Nat.add_zero]
    refine ixn_r hv h4 fun p => ?_
    refine leq_r (fun h5 => ?_) (fun h5 => ?_)
    · try simp only [gdTT, gdFF, gdTF, gdFT, pvS, pickT, pickF, faP, lenS, capS, nilP, exA, exB, exC, notB, cndT, cndF, Bool.not_true, Bool.not_false, Nat.zero_add, Nat.add_zero]
      exact fin _ (by rw [he, decide_eq_false (by omega)]; rfl) _ rfl
    try simp only [gdTT, gdFF, gdTF, gdFT, pvS, pickT, pickF, faP, lenS, capS, nilP, exA, exB, exC, notB, cndT, cndF, Bool.not_true, Bool.not_false, Nat.zero_add, Nat.add_zero]
    refine gtr_r (fun h6 => ?_) (fun h6 => ?_)
    · try simp only [gdTT, gdFF, gdTF, gdFT, pvS, pickT, pickF, faP, lenS, capS, nilP, exA, exB, exC, notB, cndT, cndF, Bool.not_true, Bool.not_false, Nat.zero_add, Nat.add_zero]
      exact fin _ (by rw [he, decide_eq_false (by omega)]; rfl) _ rfl
    try simp only [gdTT, gdFF, gdTF, gdFT, pvS, pickT, pickF, faP, lenS, capS, nilP, exA, exB, exC, notB, cndT, cndF, Bool.not_true, Bool.not_false, Nat.zero_add, Nat.add_zero]
    refine rem_i (by omega) (by omega) ?_
    refine neq_r (fun h7 => ?_) (fun h7 => ?_)
    · try simp only [gdTT, gdFF, gdTF, gdFT, pvS, pickT, pickF, faP, lenS, capS, nilP, exA, exB, exC, notB, cndT, cndF, Bool.not_true, Bool.not_false, Nat.zero_add, Nat.add_zero]
      exact fin _ (by rw [he, decide_eq_false (by omega)]; rfl) _ rfl
    try simp only [gdTT, gdFF, gdTF, gdFT, pvS, pickT, pickF, faP, lenS, capS, nilP, exA, exB, exC, notB, cndT, cndF, Bool.not_true, Bool.not_false, Nat.zero_add, Nat.add_zero]
    refine inc_r (by omega) ?_
    have e2 : prevD d.2 (i + 1) = d.2[i] := by unfold prevD; rw [dif_pos ⟨by omega, by omega⟩]; simp
    rw [← e2]
    exact next (i + 1) _ _ (by omega) (fun hw2 => ⟨_, wk_refl hw2, rfl, h4, by rw [he, decide_eq_true (by omega)]; rfl, by rw [e2]; omega⟩)
  · try simp only [gdTT, gdFF, gdTF, gdFT, pvS, pickT, pickF, faP, lenS, capS, nilP, exA, exB, exC, notB, cndT, cndF, Bool.not_true, Bool.not_false, Nat.zero_add, Nat.add_zero]
    rw [t86_1_1_1_1]
    exact fin _ (by rw [he, List.drop_eq_nil_of_le (by omega)]; rfl) _ rfl
/-- one, of the reference -/
theorem rone_c {cs : List Value} {d : Dm} (hd : dimD F cs d) (k : ∀ N', N ≤ N' → (Hp.mk F M N').wf → K (.bool (okDim d)) ⟨F, M, N'⟩) :
    callv Tryd.prog (.func (.func 88) #[] #[]) #[.agg cs.toArray] K E ⟨F, M, N⟩ := by
  refine callv_of_text mixed Tryd.func88 (by kernel_rfl) (t88 _ E _) (fun hw => ?_)
  have hm := hw.m
  obtain ⟨v, rfl, hv, hvl⟩ := hd
  refine nw_r (cs := [.int .i64 d.1, v]) (fun b hb => ?_)
  have fin : ∀ v', v' = okDim d → ∀ h', h' = (⟨F, upd M b (some (.cells 51 [.int .i64 d.1, v] 2)), b + 1⟩ : Hp) → h'.wf → ∃ h'', h'.wk h'' ∧ (h''.wf → K (.bool v') h'') := fun v' e h' e' hc => by
    subst e; subst e'
    exact ⟨⟨F, M, b + 1⟩, wk_end hc, fun hw' => k _ (by omega) hw'⟩
  unfold okDim at fin
  have no : ¬ (1 ≤ d.1 ∧ d.1 ≤ 10000 ∧ d.2.length ≤ 4) → false = (decide (1 ≤ d.1 ∧ d.1 ≤ 10000 ∧ d.2.length ≤ 4) && chk 1 d.2) := fun h => by rw [decide_eq_false h]; rfl
  have no2 : chk 1 d.2 = false → false = (decide (1 ≤ d.1 ∧ d.1 ≤ 10000 ∧ d.2.length ≤ 4) && chk 1 d.2) := fun h => by rw [h]; simp
  refine l88_1_0_1_0_0 (σ := Nat) (fun i => .int .i64 (i : Nat)) (fun i h => h = ⟨F, upd M b (some (.cells 51 [.int .i64 d.1, v] 2)), b + 1⟩ ∧ i ≤ d.2.length ∧ chk 1 d.2 = chk (prevD d.2 i) (d.2.drop i) ∧ 1 ≤ prevD d.2 i ∧ (0 < i → 2 ≤ prevD d.2 i)) (fun i => d.2.length - i) 0 rfl
    (fun hw1 => ⟨_, wk_refl hw1, rfl, Nat.zero_le _, rfl, by simp [prevD], fun h => by omega⟩) (fun k1 i j h1' hI hw1 next => ?_)
  obtain ⟨rfl, hi, he, hp, hp2⟩ := hI
  try simp only [gdTT, gdFF, gdTF, gdFT, pvS, pickT, pickF, faP, lenS, capS, nilP, exA, exB, exC, notB, cndT, cndF, Bool.not_true, Bool.not_false, Nat.zero_add, Nat.add_zero]
  refine ldM (v := v) (lenF_r hv ?_)
  refine lss_r (fun hlt => ?_) (fun hge => ?_)
  · have h4 : i < d.2.length := by omega
    rw [chk_at h4] at he
    try simp only [gdTT, gdFF, gdTF, gdFT, pvS, pickT, pickF, faP, lenS, capS, nilP, exA, exB, exC, notB, cndT, cndF, Bool.not_true, Bool.not_false, Nat.zero_add, Nat.add_zero]
    refine ldM (v := v) (ixn_r hv h4 fun p => ?_)
    refine lss_r (fun h5 => ?_) (fun h5 => ?_)
    · try simp only [gdTT, gdFF, gdTF, gdFT, pvS, pickT, pickF, faP, lenS, capS, nilP, exA, exB, exC, notB, cndT, cndF, Bool.not_true, Bool.not_false, Nat.zero_add, Nat.add_zero]
      exact fin _ (no2 (by rw [he, decide_eq_false (by rcases Nat.eq_zero_or_pos i with h0 | h0; subst h0; have : prevD d.2 0 = 1 := by simp [prevD]
                                                       omega; have := hp2 h0; omega)]; rfl)) _ rfl
    try simp only [gdTT, gdFF, gdTF, gdFT, pvS, pickT, pickF, faP, lenS, capS, nilP, exA, exB, exC, notB, cndT, cndF, Bool.not_true, Bool.not_false, Nat.zero_add, Nat.add_zero]
    refine ldM (v := v) (ixn_r hv h4 fun p => ?_)
    refine gtr_r (fun h6 => ?_) (fun h6 => ?_)
    · try simp only [gdTT, gdFF, gdTF, gdFT, pvS, pickT, pickF, faP, lenS, capS, nilP, exA, exB, exC, notB, cndT, cndF, Bool.not_true, Bool.not_false, Nat.zero_add, Nat.add_zero]
      exact fin _ (no2 (by rw [he, decide_eq_false (by omega)]; rfl)) _ rfl
    try simp only [gdTT, gdFF, gdTF, gdFT, pvS, pickT, pickF, faP, lenS, capS, nilP, exA, exB, exC, notB, cndT, cndF, Bool.not_true, Bool.not_false, Nat.zero_add, Nat.add_zero]
    have e2 : prevD d.2 (i + 1) = d.2[i] := by unfold prevD; rw [dif_pos ⟨by omega, by omega⟩]; simp
    refine gtr_r (fun hi0 => ?_) (fun hi0 => ?_)
    · have e3 : prevD d.2 i = d.2[i - 1] := by unfold prevD; rw [dif_pos ⟨by omega, by omega⟩]
      try simp only [gdTT, gdFF, gdTF, gdFT, pvS, pickT, pickF, faP, lenS, capS, nilP, exA, exB, exC, notB, cndT, cndF, Bool.not_true, Bool.not_false, Nat.zero_add, Nat.add_zero]
      refine ldM (v := v) (ixn_r hv h4 fun p => ?_)
      refine ldM (v := v) (sub_n (b := 1) (by omega) (by omega) (ixn_r hv (show i - 1 < d.2.length by omega) fun p => ?_))
      rw [← e3]
      refine leq_r (fun h7 => ?_) (fun h7 => ?_)
      · try simp only [gdTT, gdFF, gdTF, gdFT, pvS, pickT, pickF, faP, lenS, capS, nilP, exA, exB, exC, notB, cndT, cndF, Bool.not_true, Bool.not_false, Nat.zero_add, Nat.add_zero]
        exact fin _ (no2 (by rw [he, decide_eq_false (by omega)]; rfl)) _ rfl
      try simp only [gdTT, gdFF, gdTF, gdFT, pvS, pickT, pickF, faP, lenS, capS, nilP, exA, exB, exC, notB, cndT, cndF, Bool.not_true, Bool.not_false, Nat.zero_add, Nat.add_zero]
      refine ldM (v := v) (ixn_r hv h4 fun p => ?_)
      refine ldM (v := v) (sub_n (b := 1) (by omega) (by omega) (ixn_r hv (show i - 1 < d.2.length by omega) fun p => ?_))
      rw [← e3]
      refine rem_i (by omega) (by omega) ?_
      refine neq_r (fun h8 => ?_) (fun h8 => ?_)
      · try simp only [gdTT, gdFF, gdTF, gdFT, pvS, pickT, pickF, faP, lenS, capS, nilP, exA, exB, exC, notB, cndT, cndF, Bool.not_true, Bool.not_false, Nat.zero_add, Nat.add_zero]
        exact fin _ (no2 (by rw [he, decide_eq_false (by omega)]; rfl)) _ rfl
      try simp only [gdTT, gdFF, gdTF, gdFT, pvS, pickT, pickF, faP, lenS, capS, nilP, exA, exB, exC, notB, cndT, cndF, Bool.not_true, Bool.not_false, Nat.zero_add, Nat.add_zero]
      refine inc_r (by omega) ?_
      exact next (i + 1) _ _ (by omega) (fun hw2 => ⟨_, wk_refl hw2, rfl, h4, by rw [he, decide_eq_true (by omega)]; rfl, by rw [e2]; omega, fun _ => by rw [e2]; omega⟩)
    · have e3 : prevD d.2 i = 1 := by unfold prevD; rw [dif_neg (by omega)]
      try simp only [gdTT, gdFF, gdTF, gdFT, pvS, pickT, pickF, faP, lenS, capS, nilP, exA, exB, exC, notB, cndT, cndF, Bool.not_true, Bool.not_false, Nat.zero_add, Nat.add_zero]
      refine inc_r (by omega) ?_
      exact next (i + 1) _ _ (by omega) (fun hw2 => ⟨_, wk_refl hw2, rfl, h4, by rw [he, decide_eq_true (by rw [e3]; omega)]; rfl, by rw [e2]; omega, fun _ => by rw [e2]; omega⟩)
  · try simp only [gdTT, gdFF, gdTF, gdFT, pvS, pickT, pickF, faP, lenS, capS, nilP, exA, exB, exC, notB, cndT, cndF, Bool.not_true, Bool.not_false, Nat.zero_add, Nat.add_zero]
    rw [t88_1_1]
    have hch : chk 1 d.2 = true := by rw [he, List.drop_eq_nil_of_le (by omega)]; rfl
    try simp only [gdTT, gdFF, gdTF, gdFT, pvS, pickT, pickF, faP, lenS, capS, nilP, exA, exB, exC, notB, cndT, cndF, Bool.not_true, Bool.not_false, Nat.zero_add, Nat.add_zero]
    refine ldM (v := .int .i64 d.1) ?_
    refine geq_r (fun h1 => ?_) (fun h1 => ?_)
    · try simp only [gdTT, gdFF, gdTF, gdFT, pvS, pickT, pickF, faP, lenS, capS, nilP, exA, exB, exC, notB, cndT, cndF, Bool.not_true, Bool.not_false, Nat.zero_add, Nat.add_zero]
      refine ldM (v := .int .i64 d.1) ?_
      refine leq_r (fun h2 => ?_) (fun h2 => ?_)
      · try simp only [gdTT, gdFF, gdTF, gdFT, pvS, pickT, pickF, faP, lenS, capS, nilP, exA, exB, exC, notB, cndT, cndF, Bool.not_true, Bool.not_false, Nat.zero_add, Nat.add_zero]
        refine ldM (v := v) (lenF_r hv ?_)
        refine leq_r (fun h3 => ?_) (fun h3 => ?_)
        · try simp only [gdTT, gdFF, gdTF, gdFT, pvS, pickT, pickF, faP, lenS, capS, nilP, exA, exB, exC, notB, cndT, cndF, Bool.not_true, Bool.not_false, Nat.zero_add, Nat.add_zero]
          exact fin _ (by rw [hch, decide_eq_true ⟨by omega, by omega, by omega⟩]; rfl) _ rfl
        · try simp only [gdTT, gdFF, gdTF, gdFT, pvS, pickT, pickF, faP, lenS, capS, nilP, exA, exB, exC, notB, cndT, cndF, Bool.not_true, Bool.not_false, Nat.zero_add, Nat.add_zero]
          exact fin _ (no (by omega)) _ rfl
      · try simp only [gdTT, gdFF, gdTF, gdFT, pvS, pickT, pickF, faP, lenS, capS, nilP, exA, exB, exC, notB, cndT, cndF, Bool.not_true, Bool.not_false, Nat.zero_add, Nat.add_zero]
        exact fin _ (no (by omega)) _ rfl
    · try simp only [gdTT, gdFF, gdTF, gdFT, pvS, pickT, pickF, faP, lenS, capS, nilP, exA, exB, exC, notB, cndT, cndF, Bool.not_true, Bool.not_false, Nat.zero_add, Nat.add_zero]
      exact fin _ (no (by omega)) _ rfl
end Go.Proofs.YthpacapdaembpaaDoor.A
open Go Go.RowKit Go.Proofs.YthpacapdaembpaaDoor.K Go.Proofs.YthpacapdaembpaaDoor.T
set_option linter.unusedVariables false
set_option linter.unusedSimpArgs false
namespace Go.Proofs.YthpacapdaembpaaDoor.A
variable {F F' : Nat → Option (List Value)} {M M' : Nat → Option Chunk} {N N' : Nat} {K : Kont} {E : PanK}
theorem levels_c {cs : List Value} {d : Dm} (hd : dimD F cs d) (k : ∀ N', N ≤ N' → (Hp.mk F M N').wf → K (.int .i64 ((d.2.length + 2 : Nat) : Int)) ⟨F, M, N'⟩) :
    callv Tryd.prog (.func (.func 68) #[] #[]) #[.agg cs.toArray] K E ⟨F, M, N⟩ := by
  refine callv_of_text mixed Tryd.func68 (by kernel_rfl) (t68 _ E _) (fun hw => ?_)
  have hm := hw.m
  obtain ⟨v, rfl, hv, hvl⟩ := hd
  refine nw_r (cs := [.int .i64 d.1, v]) (fun b hb => ?_)
  try simp only [gdTT, gdFF, gdTF, gdFT, pvS, pickT, pickF, faP, lenS, capS, nilP, exA, exB, exC, notB, cndT, cndF, Bool.not_true, Bool.not_false, Nat.zero_add, Nat.add_zero]
  refine ldM (v := v) (lenF_r hv ?_)
  refine add_n (b := 2) (by omega) fun hc => ?_
  exact ⟨⟨F, M, b + 1⟩, wk_end hc, fun hw' => k _ (by omega) hw'⟩
theorem rlevels_c {cs : List Value} {d : Dm} (hd : dimD F cs d) (k : ∀ N', N ≤ N' → (Hp.mk F M N').wf → K (.int .i64 ((d.2.length + 2 : Nat) : Int)) ⟨F, M, N'⟩) :
    callv Tryd.prog (.func (.func 71) #[] #[]) #[.agg cs.toArray] K E ⟨F, M, N⟩ := by
  refine callv_of_text mixed Tryd.func71 (by kernel_rfl) (t71 _ E _) (fun hw => ?_)
  have hm := hw.m
  obtain ⟨v, rfl, hv, hvl⟩ := hd
  refine nw_r (cs := [.int .i64 d.1, v]) (fun b hb => ?_)
  try simp only [gdTT, gdFF, gdTF, gdFT, pvS, pickT, pickF, faP, lenS, capS, nilP, exA, exB, exC, notB, cndT, cndF, Bool.not_true, Bool.not_false, Nat.zero_add, Nat.add_zero]
  refine ldM (v := v) (lenF_r hv ?_)
  refine add_n (b := 2) (by omega) fun hc => ?_
  exact ⟨⟨F, M, b + 1⟩, wk_end hc, fun hw' => k _ (by omega) hw'⟩
theorem nright_c {cs : List Value} {d : Dm} (hd : dimD F cs d) (k : ∀ N', N ≤ N' → (Hp.mk F M N').wf → K (.bool (!okDim d)) ⟨F, M, N'⟩) :
    callv Tryd.prog (.func (.func 85) #[] #[]) #[.agg cs.toArray] K E ⟨F, M, N⟩ := by
  refine callv_of_text mixed Tryd.func85 (by kernel_rfl) (t85 _ E _) (fun hw => ?_)
  have hm := hw.m
  have hd' := hd
  obtain ⟨v, rfl, hv, hvl⟩ := hd
  refine nw_r (cs := [.int .i64 d.1, v]) (fun b hb => ?_)
  refine ldMa (vs := [.int .i64 d.1, v]) ?_
  refine dright_c hd' (fun N1 hN1 hw1 => ?_)
  try simp only [gdTT, gdFF, gdTF, gdFT, pvS, pickT, pickF, faP, lenS, capS, nilP, exA, exB, exC, notB, cndT, cndF, Bool.not_true, Bool.not_false, Nat.zero_add, Nat.add_zero]
  exact fun hc => ⟨⟨F, M, N1⟩, wk_end hc, fun hw' => k _ (by omega) hw'⟩
def okDims (l : List Dm) : Bool := decide (0 < l.length ∧ l.length ≤ 4) && l.all okDim
theorem dimidx_c {v : Value} {l : List Dm} (hv : dimsD F v l) (hl : l.length ≤ 140737488351232) (k : ∀ (r : Int) N', N ≤ N' → (Hp.mk F M N').wf → (decide (r ≥ 0) = !l.all okDim) → K (.int .i64 r) ⟨F, M, N'⟩) :
    callv Tryd.prog (.func (.func 100) #[] #[]) #[v, .func (.func 85) #[] #[]] K E ⟨F, M, N⟩ := by
  refine callv_of_text mixed Tryd.func100 (by kernel_rfl) (t100 _ E _ _) (fun hw => ?_)
  obtain ⟨rows, hv1, hv2⟩ := hv
  refine lenF_r hv1 ?_
  refine l100_1_0_1_0_0 (σ := Nat) (fun i => .int .i64 (i : Nat)) (fun i h => ∃ N', h = ⟨F, M, N'⟩ ∧ N ≤ N' ∧ i ≤ l.length ∧ l.all okDim = (l.drop i).all okDim) (fun i => l.length - i) 0 rfl
    (fun hw1 => ⟨_, wk_refl hw1, N, rfl, Nat.le_refl _, Nat.zero_le _, rfl⟩) (fun k1 i j h1 hI hw1 next => ?_)
  obtain ⟨N1, rfl, hN1, hi, he⟩ := hI
  refine lss_r (fun hlt => ?_) (fun hge => ?_)
  · have h1 : i < l.length := by omega
    try simp only [gdTT, gdFF, gdTF, gdFT, pvS, pickT, pickF, faP, lenS, capS, nilP, exA, exB, exC, notB, cndT, cndF, Bool.not_true, Bool.not_false, Nat.zero_add, Nat.add_zero]
    refine row_r hv1 hv2 (by decide) h1 fun p r _ hR _ _ => nright_c hR (fun N2 hN2 hw2 => ?_)
    rw [List.drop_eq_getElem_cons h1, List.all_cons] at he
    cases hn : okDim l[i]
    · try simp only [gdTT, gdFF, gdTF, gdFT, pvS, pickT, pickF, faP, lenS, capS, nilP, exA, exB, exC, notB, cndT, cndF, Bool.not_true, Bool.not_false, Nat.zero_add, Nat.add_zero]
      refine fun hc => ⟨_, wk_refl hc, fun hw' => k _ _ (by omega) hw' ?_⟩
      rw [he, hn, decide_eq_true (by omega)]; rfl
    · try simp only [gdTT, gdFF, gdTF, gdFT, pvS, pickT, pickF, faP, lenS, capS, nilP, exA, exB, exC, notB, cndT, cndF, Bool.not_true, Bool.not_false, Nat.zero_add, Nat.add_zero]
      refine inc_r (by omega) ?_
      refine next (i + 1) _ _ (by omega) (fun hw3 => ⟨_, wk_refl hw3, N2, rfl, by omega, by omega, ?_⟩)
      rw [he, hn, Bool.true_and]
  · try simp only [gdTT, gdFF, gdTF, gdFT, pvS, pickT, pickF, faP, lenS, capS, nilP, exA, exB, exC, notB, cndT, cndF, Bool.not_true, Bool.not_false, Nat.zero_add, Nat.add_zero]
    rw [t100_1_1]
    refine fun hc => ⟨_, wk_refl hc, fun hw' => k _ _ hN1 hw' ?_⟩
    rw [he, List.drop_eq_nil_of_le (by omega)]; rfl
/-- dims.Sound -/
theorem dsound_c {v : Value} {l : List Dm} (hv : dimsD F v l) (hl : l.length ≤ 140737488351232) (k : ∀ N', N ≤ N' → (Hp.mk F M N').wf → K (.bool (okDims l)) ⟨F, M, N'⟩) :
    callv Tryd.prog (.func (.func 57) #[] #[]) #[v] K E ⟨F, M, N⟩ := by
  refine callv_of_text mixed Tryd.func57 (by kernel_rfl) (t57 _ E _) (fun hw => ?_)
  have hlv : lenV v = some (.int .i64 (l.length : Nat)) := by obtain ⟨a, c, rfl⟩ := hv.form; rfl
  have fin : ∀ v', v' = okDims l → ∀ N', N ≤ N' → ∀ h', h' = (⟨F, M, N'⟩ : Hp) → h'.wf → ∃ h'', h'.wk h'' ∧ (h''.wf → K (.bool v') h'') := fun v' e N' hN h' e' hc => by
    subst e; subst e'
    exact ⟨_, wk_refl hc, fun hw' => k _ hN hw'⟩
  unfold okDims at fin
  simp only [hlv]
  try simp only [gdTT, gdFF, gdTF, gdFT, pvS, pickT, pickF, faP, lenS, capS, nilP, exA, exB, exC, notB, cndT, cndF, Bool.not_true, Bool.not_false, Nat.zero_add, Nat.add_zero]
  refine gtr_r (fun h1 => ?_) (fun h1 => ?_)
  · try simp only [gdTT, gdFF, gdTF, gdFT, pvS, pickT, pickF, faP, lenS, capS, nilP, exA, exB, exC, notB, cndT, cndF, Bool.not_true, Bool.not_false, Nat.zero_add, Nat.add_zero]
    simp only [hlv]
    try simp only [gdTT, gdFF, gdTF, gdFT, pvS, pickT, pickF, faP, lenS, capS, nilP, exA, exB, exC, notB, cndT, cndF, Bool.not_true, Bool.not_false, Nat.zero_add, Nat.add_zero]
    refine leq_r (fun h2 => ?_) (fun h2 => ?_)
    · rw [decide_eq_true ⟨by omega, by omega⟩, Bool.true_and] at fin
      try simp only [gdTT, gdFF, gdTF, gdFT, pvS, pickT, pickF, faP, lenS, capS, nilP, exA, exB, exC, notB, cndT, cndF, Bool.not_true, Bool.not_false, Nat.zero_add, Nat.add_zero]
      refine callv_of_text mixed Tryd.func84 (by kernel_rfl) (t84 _ E _ _) (fun hw => ?_)
      refine dimidx_c hv hl (fun r N1 hN1 hw1 hr => ?_)
      cases ha : l.all okDim
      · rw [ha] at hr
        refine geq_t (by simpa using hr) fun hc => ⟨_, wk_refl hc, fun hw' => ?_⟩
        try simp only [gdTT, gdFF, gdTF, gdFT, pvS, pickT, pickF, faP, lenS, capS, nilP, exA, exB, exC, notB, cndT, cndF, Bool.not_true, Bool.not_false, Nat.zero_add, Nat.add_zero]
        exact fin _ (by rw [ha]) _ hN1 _ rfl
      · rw [ha] at hr
        refine geq_f (by simpa using hr) fun hc => ⟨_, wk_refl hc, fun hw' => ?_⟩
        try simp only [gdTT, gdFF, gdTF, gdFT, pvS, pickT, pickF, faP, lenS, capS, nilP, exA, exB, exC, notB, cndT, cndF, Bool.not_true, Bool.not_false, Nat.zero_add, Nat.add_zero]
        exact fin _ (by rw [ha]) _ hN1 _ rfl
    · try simp only [gdTT, gdFF, gdTF, gdFT, pvS, pickT, pickF, faP, lenS, capS, nilP, exA, exB, exC, notB, cndT, cndF, Bool.not_true, Bool.not_false, Nat.zero_add, Nat.add_zero]
      exact fin _ (by rw [decide_eq_false (by omega)]; rfl) _ (Nat.le_refl _) _ rfl
  · try simp only [gdTT, gdFF, gdTF, gdFT, pvS, pickT, pickF, faP, lenS, capS, nilP, exA, exB, exC, notB, cndT, cndF, Bool.not_true, Bool.not_false, Nat.zero_add, Nat.add_zero]
    exact fin _ (by rw [decide_eq_false (by omega)]; rfl) _ (Nat.le_refl _) _ rfl
/-- Sound of dimensions, of the reference -/
theorem rdsound_c {v : Value} {l : List Dm} (hv : dimsD F v l) (hl : l.length ≤ 140737488351232) (k : ∀ N', N ≤ N' → (Hp.mk F M N').wf → K (.bool (okDims l)) ⟨F, M, N'⟩) :
    callv Tryd.prog (.func (.func 61) #[] #[]) #[v] K E ⟨F, M, N⟩ := by
  refine callv_of_text mixed Tryd.func61 (by kernel_rfl) (t61 _ E _) (fun hw => ?_)
  obtain ⟨rows, hv1, hv2⟩ := hv
  have hlv : lenV v = some (.int .i64 (l.length : Nat)) := by obtain ⟨a, c, rfl, _⟩ := hv1.form; rfl
  have fin : ∀ v', v' = okDims l → ∀ N', N ≤ N' → ∀ h', h' = (⟨F, M, N'⟩ : Hp) → h'.wf → ∃ h'', h'.wk h'' ∧ (h''.wf → K (.bool v') h'') := fun v' e N' hN h' e' hc => by
    subst e; subst e'
    exact ⟨_, wk_refl hc, fun hw' => k _ hN hw'⟩
  unfold okDims at fin
  refine l61_1_0_1_0_0 (σ := Nat) (fun i => .int .i64 (i : Nat)) (fun i h => ∃ N', h = ⟨F, M, N'⟩ ∧ N ≤ N' ∧ i ≤ l.length ∧ l.all okDim = (l.drop i).all okDim) (fun i => l.length - i) 0 rfl
    (fun hw1 => ⟨_, wk_refl hw1, N, rfl, Nat.le_refl _, Nat.zero_le _, rfl⟩) (fun k1 i j h1 hI hw1 next => ?_)
  obtain ⟨N1, rfl, hN1, hi, he⟩ := hI
  simp only [hlv]
  try simp only [gdTT, gdFF, gdTF, gdFT, pvS, pickT, pickF, faP, lenS, capS, nilP, exA, exB, exC, notB, cndT, cndF, Bool.not_true, Bool.not_false, Nat.zero_add, Nat.add_zero]
  refine lss_r (fun hlt => ?_) (fun hge => ?_)
  · have h1 : i < l.length := by omega
    try simp only [gdTT, gdFF, gdTF, gdFT, pvS, pickT, pickF, faP, lenS, capS, nilP, exA, exB, exC, notB, cndT, cndF, Bool.not_true, Bool.not_false, Nat.zero_add, Nat.add_zero]
    refine row_r hv1 hv2 (by decide) h1 fun p r _ hR _ _ => rone_c hR (fun N2 hN2 hw2 => ?_)
    rw [List.drop_eq_getElem_cons h1, List.all_cons] at he
    cases hn : okDim l[i]
    · try simp only [gdTT, gdFF, gdTF, gdFT, pvS, pickT, pickF, faP, lenS, capS, nilP, exA, exB, exC, notB, cndT, cndF, Bool.not_true, Bool.not_false, Nat.zero_add, Nat.add_zero]
      exact fin _ (by rw [he, hn]; simp) _ (by omega) _ rfl
    · try simp only [gdTT, gdFF, gdTF, gdFT, pvS, pickT, pickF, faP, lenS, capS, nilP, exA, exB, exC, notB, cndT, cndF, Bool.not_true, Bool.not_false, Nat.zero_add, Nat.add_zero]
      refine inc_r (by omega) ?_
      refine next (i + 1) _ _ (by omega) (fun hw3 => ⟨_, wk_refl hw3, N2, rfl, by omega, by omega, ?_⟩)
      rw [he, hn, Bool.true_and]
  · try simp only [gdTT, gdFF, gdTF, gdFT, pvS, pickT, pickF, faP, lenS, capS, nilP, exA, exB, exC, notB, cndT, cndF, Bool.not_true, Bool.not_false, Nat.zero_add, Nat.add_zero]
    rw [t61_1_1]
    rw [List.drop_eq_nil_of_le (by omega)] at he
    rw [he] at fin
    simp only [hlv]
    try simp only [gdTT, gdFF, gdTF, gdFT, pvS, pickT, pickF, faP, lenS, capS, nilP, exA, exB, exC, notB, cndT, cndF, Bool.not_true, Bool.not_false, Nat.zero_add, Nat.add_zero]
    refine geq_r (fun h1 => ?_) (fun h1 => ?_)
    · try simp only [gdTT, gdFF, gdTF, gdFT, pvS, pickT, pickF, faP, lenS, capS, nilP, exA, exB, exC, notB, cndT, cndF, Bool.not_true, Bool.not_false, Nat.zero_add, Nat.add_zero]
      simp only [hlv]
      try simp only [gdTT, gdFF, gdTF, gdFT, pvS, pickT, pickF, faP, lenS, capS, nilP, exA, exB, exC, notB, cndT, cndF, Bool.not_true, Bool.not_false, Nat.zero_add, Nat.add_zero]
      refine leq_r (fun h2 => ?_) (fun h2 => ?_)
      · try simp only [gdTT, gdFF, gdTF, gdFT, pvS, pickT, pickF, faP, lenS, capS, nilP, exA, exB, exC, notB, cndT, cndF, Bool.not_true, Bool.not_false, Nat.zero_add, Nat.add_zero]
        exact fin _ (by rw [decide_eq_true ⟨by omega, by omega⟩]; rfl) _ hN1 _ rfl
      · try simp only [gdTT, gdFF, gdTF, gdFT, pvS, pickT, pickF, faP, lenS, capS, nilP, exA, exB, exC, notB, cndT, cndF, Bool.not_true, Bool.not_false, Nat.zero_add, Nat.add_zero]
        exact fin _ (by rw [decide_eq_false (by omega)]; rfl) _ hN1 _ rfl
    · try simp only [gdTT, gdFF, gdTF, gdFT, pvS, pickT, pickF, faP, lenS, capS, nilP, exA, exB, exC, notB, cndT, cndF, Bool.not_true, Bool.not_false, Nat.zero_add, Nat.add_zero]
      exact fin _ (by rw [decide_eq_false (by omega)]; rfl) _ hN1 _ rfl
/-- What members are divided by at a level (0: all are one). -/
def byF (d : Dm) (lv : Int) : Int := if lv = 0 then 1 else if lv > d.2.length then 0 else d.2.getD (lv - 1).toNat 0
/-- dims.by -/
theorem by_c {cs : List Value} {d : Dm} {lv : Int} (hd : dimD F cs d) (h0 : 0 ≤ lv) (k : ∀ N', N ≤ N' → (Hp.mk F M N').wf → K (.int .i64 (byF d lv)) ⟨F, M, N'⟩) :
    callv Tryd.prog (.func (.func 101) #[] #[]) #[.agg cs.toArray, .int .i64 lv] K E ⟨F, M, N⟩ := by
  refine callv_of_text mixed Tryd.func101 (by kernel_rfl) (t101 _ E _ _) (fun hw => ?_)
  have hm := hw.m
  obtain ⟨v, rfl, hv, hvl⟩ := hd
  refine nw_r (cs := [.int .i64 d.1, v]) (fun b hb => ?_)
  have fin : ∀ v', v' = byF d lv → ∀ h', h' = (⟨F, upd M b (some (.cells 51 [.int .i64 d.1, v] 2)), b + 1⟩ : Hp) → h'.wf → ∃ h'', h'.wk h'' ∧ (h''.wf → K (.int .i64 v') h'') := fun v' e h' e' hc => by
    subst e; subst e'
    exact ⟨⟨F, M, b + 1⟩, wk_end hc, fun hw' => k _ (by omega) hw'⟩
  unfold byF at fin
  refine eql_r (fun h1 => ?_) (fun h1 => ?_)
  · try simp only [gdTT, gdFF, gdTF, gdFT, pvS, pickT, pickF, faP, lenS, capS, nilP, exA, exB, exC, notB, cndT, cndF, Bool.not_true, Bool.not_false, Nat.zero_add, Nat.add_zero]
    exact fin _ (by rw [if_pos h1]) _ rfl
  · rw [if_neg h1] at fin
    try simp only [gdTT, gdFF, gdTF, gdFT, pvS, pickT, pickF, faP, lenS, capS, nilP, exA, exB, exC, notB, cndT, cndF, Bool.not_true, Bool.not_false, Nat.zero_add, Nat.add_zero]
    refine ldM (v := v) (lenF_r hv ?_)
    refine gtr_r (fun h2 => ?_) (fun h2 => ?_)
    · try simp only [gdTT, gdFF, gdTF, gdFT, pvS, pickT, pickF, faP, lenS, capS, nilP, exA, exB, exC, notB, cndT, cndF, Bool.not_true, Bool.not_false, Nat.zero_add, Nat.add_zero]
      exact fin _ (by rw [if_pos h2]) _ rfl
    · try simp only [gdTT, gdFF, gdTF, gdFT, pvS, pickT, pickF, faP, lenS, capS, nilP, exA, exB, exC, notB, cndT, cndF, Bool.not_true, Bool.not_false, Nat.zero_add, Nat.add_zero]
      refine ldM (v := v) (sub_r (by omega) (by omega) ?_)
      have h3 : (lv - 1).toNat < d.2.length := by omega
      rw [show lv - 1 = (((lv - 1).toNat : Nat) : Int) by omega]
      refine ixn_r hv h3 fun p => ?_
      exact fin _ (by rw [if_neg h2, List.getD_eq_getElem?_getD, List.getElem?_eq_getElem h3]; rfl) _ rfl
/-- A member of a level that holds another level's. -/
def upF (d : Dm) (a b v : Int) : Int := if okDim d = false ∨ a < 0 ∨ b < a ∨ b ≥ d.2.length + 2 ∨ v < 0 then -1 else if a = b then v else if byF d b = 0 then 0 else v / (byF d b / byF d a)
theorem byF_pos {d : Dm} (hd : okDim d = true) {a : Int} (h0 : 0 ≤ a) (h1 : a ≤ d.2.length) : 0 < byF d a ∧ byF d a ≤ 10000 := by
  unfold okDim at hd
  rw [Bool.and_eq_true] at hd
  unfold byF
  split
  · decide
  · rename_i hne
    rw [if_neg (by omega)]
    have h3 : (a - 1).toNat < d.2.length := by omega
    rw [List.getD_eq_getElem?_getD, List.getElem?_eq_getElem h3]
    obtain ⟨x, y, _, _⟩ := chk_get hd.2 _ h3
    simp only [Option.getD_some]; omega
theorem byF_lt {d : Dm} (hd : okDim d = true) {a b : Int} (h0 : 0 ≤ a) (h1 : a < b) (h2 : b ≤ d.2.length) : byF d a < byF d b ∧ byF d a ∣ byF d b := by
  have hd' := hd
  unfold okDim at hd
  rw [Bool.and_eq_true] at hd
  have h3 : (b - 1).toNat < d.2.length := by omega
  have eb : byF d b = d.2[(b - 1).toNat] := by
    unfold byF
    rw [if_neg (by omega), if_neg (by omega), List.getD_eq_getElem?_getD, List.getElem?_eq_getElem h3]; rfl
  obtain ⟨x, y, z, _⟩ := chk_get hd.2 _ h3
  by_cases ha : a = 0
  · have ea : byF d a = 1 := by unfold byF; rw [if_pos ha]
    rw [ea, eb]
    exact ⟨x, z⟩
  · have h4 : (a - 1).toNat < d.2.length := by omega
    have ea : byF d a = d.2[(a - 1).toNat] := by
      unfold byF
      rw [if_neg ha, if_neg (by omega), List.getD_eq_getElem?_getD, List.getElem?_eq_getElem h4]; rfl
    rw [ea, eb]
    obtain ⟨p, q, _⟩ := chk_lt hd.2 (i := (a - 1).toNat) (j := (b - 1).toNat) (by omega) h3
    exact ⟨p, q⟩
theorem byF_div {d : Dm} (hd : okDim d = true) {a b : Int} (h0 : 0 ≤ a) (h1 : a < b) (h2 : b ≤ d.2.length) : 0 < byF d b / byF d a ∧ byF d b / byF d a ≤ 10000 := by
  obtain ⟨x, y⟩ := byF_pos hd (a := a) h0 (by omega)
  obtain ⟨z, w⟩ := byF_pos hd (a := b) (by omega) h2
  obtain ⟨p, q⟩ := byF_lt hd h0 h1 h2
  refine ⟨?_, ?_⟩
  · obtain ⟨c, hc⟩ := q
    rw [hc, Int.mul_ediv_cancel_left _ (by omega)]
    rw [hc] at z
    exact Int.pos_of_mul_pos_right z (by omega)
  · have := Int.ediv_le_self (byF d a) (show 0 ≤ byF d b by omega); omega
end Go.Proofs.YthpacapdaembpaaDoor.A
open Go Go.RowKit Go.Proofs.YthpacapdaembpaaDoor.K Go.Proofs.YthpacapdaembpaaDoor.T
set_option linter.unusedVariables false
set_option linter.unusedSimpArgs false
namespace Go.Proofs.YthpacapdaembpaaDoor.A
variable {F F' : Nat → Option (List Value)} {M M' : Nat → Option Chunk} {N N' : Nat} {K : Kont} {E : PanK}
theorem upF_no {d : Dm} {a b v : Int} (h : okDim d = false ∨ a < 0 ∨ b < a ∨ b ≥ d.2.length + 2 ∨ v < 0) : upF d a b v = -1 := if_pos h
/-- dims.Up -/
theorem up_c {cs : List Value} {d : Dm} {a b v : Int} (hd : dimD F cs d) (hb : i64 b) (hv : v ≤ 9223372036854775807) (k : ∀ N', N ≤ N' → (Hp.mk F M N').wf → K (.int .i64 (upF d a b v)) ⟨F, M, N'⟩) :
    callv Tryd.prog (.func (.func 87) #[] #[]) #[.agg cs.toArray, .int .i64 a, .int .i64 b, .int .i64 v] K E ⟨F, M, N⟩ := by
  refine callv_of_text mixed Tryd.func87 (by kernel_rfl) (t87 _ E _ _ _ _) (fun hw => ?_)
  have hm := hw.m
  have hd' := hd
  obtain ⟨u, rfl, hu, hul⟩ := hd
  refine nw_r (cs := [.int .i64 d.1, u]) (fun bx hbx => ?_)
  have fin : ∀ v', v' = upF d a b v → ∀ N', bx + 1 ≤ N' → ∀ h', h' = (⟨F, upd M bx (some (.cells 51 [.int .i64 d.1, u] 2)), N'⟩ : Hp) → h'.wf → ∃ h'', h'.wk h'' ∧ (h''.wf → K (.int .i64 v') h'') := fun v' e N' hN h' e' hc => by
    subst e; subst e'
    exact ⟨⟨F, M, N'⟩, wk_end hc, fun hw' => k _ (by omega) hw'⟩
  refine ldMa (vs := [.int .i64 d.1, u]) ?_
  refine dright_c hd' (fun N1 hN1 hw1 => ?_)
  cases hok : okDim d
  · try simp only [gdTT, gdFF, gdTF, gdFT, pvS, pickT, pickF, faP, lenS, capS, nilP, exA, exB, exC, notB, cndT, cndF, Bool.not_true, Bool.not_false, Nat.zero_add, Nat.add_zero]
    exact fin _ (upF_no (.inl hok)).symm _ hN1 _ rfl
  try simp only [gdTT, gdFF, gdTF, gdFT, pvS, pickT, pickF, faP, lenS, capS, nilP, exA, exB, exC, notB, cndT, cndF, Bool.not_true, Bool.not_false, Nat.zero_add, Nat.add_zero]
  refine lss_r (fun h1 => ?_) (fun h1 => ?_)
  · try simp only [gdTT, gdFF, gdTF, gdFT, pvS, pickT, pickF, faP, lenS, capS, nilP, exA, exB, exC, notB, cndT, cndF, Bool.not_true, Bool.not_false, Nat.zero_add, Nat.add_zero]
    exact fin _ (upF_no (.inr (.inl h1))).symm _ hN1 _ rfl
  try simp only [gdTT, gdFF, gdTF, gdFT, pvS, pickT, pickF, faP, lenS, capS, nilP, exA, exB, exC, notB, cndT, cndF, Bool.not_true, Bool.not_false, Nat.zero_add, Nat.add_zero]
  refine lss_r (fun h2 => ?_) (fun h2 => ?_)
  · try simp only [gdTT, gdFF, gdTF, gdFT, pvS, pickT, pickF, faP, lenS, capS, nilP, exA, exB, exC, notB, cndT, cndF, Bool.not_true, Bool.not_false, Nat.zero_add, Nat.add_zero]
    exact fin _ (upF_no (.inr (.inr (.inl h2)))).symm _ hN1 _ rfl
  try simp only [gdTT, gdFF, gdTF, gdFT, pvS, pickT, pickF, faP, lenS, capS, nilP, exA, exB, exC, notB, cndT, cndF, Bool.not_true, Bool.not_false, Nat.zero_add, Nat.add_zero]
  refine ldMa (vs := [.int .i64 d.1, u]) ?_
  refine levels_c hd' (fun N2 hN2 hw2 => ?_)
  refine geq_r (fun h3 => ?_) (fun h3 => ?_)
  · try simp only [gdTT, gdFF, gdTF, gdFT, pvS, pickT, pickF, faP, lenS, capS, nilP, exA, exB, exC, notB, cndT, cndF, Bool.not_true, Bool.not_false, Nat.zero_add, Nat.add_zero]
    exact fin _ (upF_no (.inr (.inr (.inr (.inl (by omega)))))).symm _ (by omega) _ rfl
  try simp only [gdTT, gdFF, gdTF, gdFT, pvS, pickT, pickF, faP, lenS, capS, nilP, exA, exB, exC, notB, cndT, cndF, Bool.not_true, Bool.not_false, Nat.zero_add, Nat.add_zero]
  refine lss_r (fun h4 => ?_) (fun h4 => ?_)
  · try simp only [gdTT, gdFF, gdTF, gdFT, pvS, pickT, pickF, faP, lenS, capS, nilP, exA, exB, exC, notB, cndT, cndF, Bool.not_true, Bool.not_false, Nat.zero_add, Nat.add_zero]
    exact fin _ (upF_no (.inr (.inr (.inr (.inr h4))))).symm _ (by omega) _ rfl
  try simp only [gdTT, gdFF, gdTF, gdFT, pvS, pickT, pickF, faP, lenS, capS, nilP, exA, exB, exC, notB, cndT, cndF, Bool.not_true, Bool.not_false, Nat.zero_add, Nat.add_zero]
  have e0 : upF d a b v = if a = b then v else if byF d b = 0 then 0 else v / (byF d b / byF d a) := by
    unfold upF
    rw [if_neg (by rw [hok]; simp; omega)]
  rw [e0] at fin
  refine ldMa (vs := [.int .i64 d.1, u]) ?_
  refine by_c hd' (by omega) (fun N3 hN3 hw3 => ?_)
  refine eql_r (fun h5 => ?_) (fun h5 => ?_)
  · try simp only [gdTT, gdFF, gdTF, gdFT, pvS, pickT, pickF, faP, lenS, capS, nilP, exA, exB, exC, notB, cndT, cndF, Bool.not_true, Bool.not_false, Nat.zero_add, Nat.add_zero]
    exact fin _ (by rw [if_pos h5]) _ (by omega) _ rfl
  rw [if_neg h5] at fin
  try simp only [gdTT, gdFF, gdTF, gdFT, pvS, pickT, pickF, faP, lenS, capS, nilP, exA, exB, exC, notB, cndT, cndF, Bool.not_true, Bool.not_false, Nat.zero_add, Nat.add_zero]
  refine eql_r (fun h6 => ?_) (fun h6 => ?_)
  · try simp only [gdTT, gdFF, gdTF, gdFT, pvS, pickT, pickF, faP, lenS, capS, nilP, exA, exB, exC, notB, cndT, cndF, Bool.not_true, Bool.not_false, Nat.zero_add, Nat.add_zero]
    exact fin _ (by rw [if_pos h6]) _ (by omega) _ rfl
  rw [if_neg h6] at fin
  try simp only [gdTT, gdFF, gdTF, gdFT, pvS, pickT, pickF, faP, lenS, capS, nilP, exA, exB, exC, notB, cndT, cndF, Bool.not_true, Bool.not_false, Nat.zero_add, Nat.add_zero]
  refine ldMa (vs := [.int .i64 d.1, u]) ?_
  refine by_c hd' (by omega) (fun N4 hN4 hw4 => ?_)
  have hbl : b ≤ d.2.length := by
    by_cases h : b ≤ d.2.length
    · exact h
    · exact absurd (by unfold byF; rw [if_neg (by omega), if_pos (by omega)]) h6
  obtain ⟨p, q⟩ := byF_pos hok (a := b) (by omega) hbl
  obtain ⟨p', q'⟩ := byF_pos hok (a := a) (by omega) (by omega)
  obtain ⟨r, s⟩ := byF_div hok (a := a) (b := b) (by omega) (by omega) hbl
  refine quo_i (by omega) (by omega) p' (quo_i (by omega) (by omega) r ?_)
  exact fin _ rfl _ (by omega) _ rfl
/-- Up, of the reference -/
theorem rup_c {cs : List Value} {d : Dm} {a b v : Int} (hd : dimD F cs d) (hb : i64 b) (hv : v ≤ 9223372036854775807) (k : ∀ N', N ≤ N' → (Hp.mk F M N').wf → K (.int .i64 (upF d a b v)) ⟨F, M, N'⟩) :
    callv Tryd.prog (.func (.func 89) #[] #[]) #[.agg cs.toArray, .int .i64 a, .int .i64 b, .int .i64 v] K E ⟨F, M, N⟩ := by
  refine callv_of_text mixed Tryd.func89 (by kernel_rfl) (t89 _ E _ _ _ _) (fun hw => ?_)
  have hm := hw.m
  have hd' := hd
  obtain ⟨u, rfl, hu, hul⟩ := hd
  refine nw_r (cs := [.int .i64 d.1, u]) (fun bx hbx => ?_)
  have fin : ∀ v', v' = upF d a b v → ∀ N', bx + 1 ≤ N' → ∀ h', h' = (⟨F, upd M bx (some (.cells 51 [.int .i64 d.1, u] 2)), N'⟩ : Hp) → h'.wf → ∃ h'', h'.wk h'' ∧ (h''.wf → K (.int .i64 v') h'') := fun v' e N' hN h' e' hc => by
    subst e; subst e'
    exact ⟨⟨F, M, N'⟩, wk_end hc, fun hw' => k _ (by omega) hw'⟩
  refine ldMa (vs := [.int .i64 d.1, u]) ?_
  refine rone_c hd' (fun N1 hN1 hw1 => ?_)
  cases hok : okDim d
  · try simp only [gdTT, gdFF, gdTF, gdFT, pvS, pickT, pickF, faP, lenS, capS, nilP, exA, exB, exC, notB, cndT, cndF, Bool.not_true, Bool.not_false, Nat.zero_add, Nat.add_zero]
    exact fin _ (upF_no (.inl hok)).symm _ hN1 _ rfl
  try simp only [gdTT, gdFF, gdTF, gdFT, pvS, pickT, pickF, faP, lenS, capS, nilP, exA, exB, exC, notB, cndT, cndF, Bool.not_true, Bool.not_false, Nat.zero_add, Nat.add_zero]
  refine lss_r (fun h1 => ?_) (fun h1 => ?_)
  · try simp only [gdTT, gdFF, gdTF, gdFT, pvS, pickT, pickF, faP, lenS, capS, nilP, exA, exB, exC, notB, cndT, cndF, Bool.not_true, Bool.not_false, Nat.zero_add, Nat.add_zero]
    exact fin _ (upF_no (.inr (.inl h1))).symm _ hN1 _ rfl
  try simp only [gdTT, gdFF, gdTF, gdFT, pvS, pickT, pickF, faP, lenS, capS, nilP, exA, exB, exC, notB, cndT, cndF, Bool.not_true, Bool.not_false, Nat.zero_add, Nat.add_zero]
  refine lss_r (fun h2 => ?_) (fun h2 => ?_)
  · try simp only [gdTT, gdFF, gdTF, gdFT, pvS, pickT, pickF, faP, lenS, capS, nilP, exA, exB, exC, notB, cndT, cndF, Bool.not_true, Bool.not_false, Nat.zero_add, Nat.add_zero]
    exact fin _ (upF_no (.inr (.inr (.inl h2)))).symm _ hN1 _ rfl
  try simp only [gdTT, gdFF, gdTF, gdFT, pvS, pickT, pickF, faP, lenS, capS, nilP, exA, exB, exC, notB, cndT, cndF, Bool.not_true, Bool.not_false, Nat.zero_add, Nat.add_zero]
  refine ldMa (vs := [.int .i64 d.1, u]) ?_
  refine rlevels_c hd' (fun N2 hN2 hw2 => ?_)
  refine geq_r (fun h3 => ?_) (fun h3 => ?_)
  · try simp only [gdTT, gdFF, gdTF, gdFT, pvS, pickT, pickF, faP, lenS, capS, nilP, exA, exB, exC, notB, cndT, cndF, Bool.not_true, Bool.not_false, Nat.zero_add, Nat.add_zero]
    exact fin _ (upF_no (.inr (.inr (.inr (.inl (by omega)))))).symm _ (by omega) _ rfl
  try simp only [gdTT, gdFF, gdTF, gdFT, pvS, pickT, pickF, faP, lenS, capS, nilP, exA, exB, exC, notB, cndT, cndF, Bool.not_true, Bool.not_false, Nat.zero_add, Nat.add_zero]
  refine lss_r (fun h4 => ?_) (fun h4 => ?_)
  · try simp only [gdTT, gdFF, gdTF, gdFT, pvS, pickT, pickF, faP, lenS, capS, nilP, exA, exB, exC, notB, cndT, cndF, Bool.not_true, Bool.not_false, Nat.zero_add, Nat.add_zero]
    exact fin _ (upF_no (.inr (.inr (.inr (.inr h4))))).symm _ (by omega) _ rfl
  try simp only [gdTT, gdFF, gdTF, gdFT, pvS, pickT, pickF, faP, lenS, capS, nilP, exA, exB, exC, notB, cndT, cndF, Bool.not_true, Bool.not_false, Nat.zero_add, Nat.add_zero]
  have e0 : upF d a b v = if a = b then v else if byF d b = 0 then 0 else v / (byF d b / byF d a) := by
    unfold upF
    rw [if_neg (by rw [hok]; simp; omega)]
  rw [e0] at fin
  refine eql_r (fun h5 => ?_) (fun h5 => ?_)
  · try simp only [gdTT, gdFF, gdTF, gdFT, pvS, pickT, pickF, faP, lenS, capS, nilP, exA, exB, exC, notB, cndT, cndF, Bool.not_true, Bool.not_false, Nat.zero_add, Nat.add_zero]
    exact fin _ (by rw [if_pos h5]) _ (by omega) _ rfl
  rw [if_neg h5] at fin
  try simp only [gdTT, gdFF, gdTF, gdFT, pvS, pickT, pickF, faP, lenS, capS, nilP, exA, exB, exC, notB, cndT, cndF, Bool.not_true, Bool.not_false, Nat.zero_add, Nat.add_zero]
  refine ldMa (vs := [.int .i64 d.1, u]) ?_
  refine rlevels_c hd' (fun N3 hN3 hw3 => ?_)
  refine sub_n (b := 1) (by omega) (by omega) ?_
  refine eql_r (fun h6 => ?_) (fun h6 => ?_)
  · have e : byF d b = 0 := by unfold byF; rw [if_neg (by omega), if_pos (by omega)]
    try simp only [gdTT, gdFF, gdTF, gdFT, pvS, pickT, pickF, faP, lenS, capS, nilP, exA, exB, exC, notB, cndT, cndF, Bool.not_true, Bool.not_false, Nat.zero_add, Nat.add_zero]
    exact fin _ (by rw [if_pos e]) _ (by omega) _ rfl
  have hbl : b ≤ d.2.length := by omega
  obtain ⟨p, q⟩ := byF_pos hok (a := b) (by omega) hbl
  obtain ⟨r, s⟩ := byF_div hok (a := a) (b := b) (by omega) (by omega) hbl
  rw [if_neg (by omega)] at fin
  have h7 : (b - 1).toNat < d.2.length := by omega
  have eb : byF d b = d.2[(b - 1).toNat] := by
    unfold byF
    rw [if_neg (by omega), if_neg (by omega), List.getD_eq_getElem?_getD, List.getElem?_eq_getElem h7]; rfl
  try simp only [gdTT, gdFF, gdTF, gdFT, pvS, pickT, pickF, faP, lenS, capS, nilP, exA, exB, exC, notB, cndT, cndF, Bool.not_true, Bool.not_false, Nat.zero_add, Nat.add_zero]
  refine eql_r (fun h8 => ?_) (fun h8 => ?_)
  · have ea : byF d a = 1 := by unfold byF; rw [if_pos h8]
    try simp only [gdTT, gdFF, gdTF, gdFT, pvS, pickT, pickF, faP, lenS, capS, nilP, exA, exB, exC, notB, cndT, cndF, Bool.not_true, Bool.not_false, Nat.zero_add, Nat.add_zero]
    refine ldM (v := u) (sub_r (by omega) (by omega) ?_)
    rw [show b - 1 = (((b - 1).toNat : Nat) : Int) by omega]
    refine ixn_r hu h7 fun p => ?_
    rw [← eb]
    refine quo_i (by omega) (by omega) (by omega) ?_
    exact fin _ (by rw [ea, Int.ediv_one]) _ (by omega) _ rfl
  · have h9 : (a - 1).toNat < d.2.length := by omega
    have ea : byF d a = d.2[(a - 1).toNat] := by
      unfold byF
      rw [if_neg h8, if_neg (by omega), List.getD_eq_getElem?_getD, List.getElem?_eq_getElem h9]; rfl
    obtain ⟨p', q'⟩ := byF_pos hok (a := a) (by omega) (by omega)
    try simp only [gdTT, gdFF, gdTF, gdFT, pvS, pickT, pickF, faP, lenS, capS, nilP, exA, exB, exC, notB, cndT, cndF, Bool.not_true, Bool.not_false, Nat.zero_add, Nat.add_zero]
    refine ldM (v := u) (sub_r (by omega) (by omega) ?_)
    rw [show b - 1 = (((b - 1).toNat : Nat) : Int) by omega]
    refine ixn_r hu h7 fun p => ?_
    refine ldM (v := u) (sub_r (by omega) (by omega) ?_)
    rw [show a - 1 = (((a - 1).toNat : Nat) : Int) by omega]
    refine ixn_r hu h9 fun p => ?_
    rw [← eb, ← ea]
    refine quo_i (by omega) (by omega) p' (quo_i (by omega) (by omega) r ?_)
    exact fin _ rfl _ (by omega) _ rfl
end Go.Proofs.YthpacapdaembpaaDoor.A
open Go Go.RowKit Go.Proofs.YthpacapdaembpaaDoor.K Go.Proofs.YthpacapdaembpaaDoor.T
set_option linter.unusedVariables false
set_option linter.unusedSimpArgs false
namespace Go.Proofs.YthpacapdaembpaaDoor.A
variable {F F' : Nat → Option (List Value)} {M M' : Nat → Option Chunk} {N N' : Nat} {K : Kont} {E : PanK}
def atL (l : List Dm) (a b c : List Int) : List Int := l.mapIdx fun i d => upF d (a.getD i 0) (b.getD i 0) (c.getD i 0)
def atOK (l : List Dm) (a b c : List Int) : Bool := okDims l && decide (a.length = l.length ∧ b.length = l.length ∧ c.length = l.length)
/-- A key at levels. -/
def atF (l : List Dm) (a b c : List Int) : List Int := if atOK l a b c = true then atL l a b c else []
theorem atL_len (l : List Dm) (a b c : List Int) : (atL l a b c).length = l.length := by simp [atL]
theorem atL_take (l : List Dm) (a b c : List Int) {i : Nat} (h : i < l.length) (ha : i < a.length) (hb : i < b.length) (hc : i < c.length) : atL (l.take (i + 1)) a b c = atL (l.take i) a b c ++ [upF l[i] a[i] b[i] c[i]] := by
  unfold atL
  rw [List.take_add_one, List.getElem?_eq_getElem h, Option.toList_some, List.mapIdx_concat, List.length_take, Nat.min_eq_left (by omega)]
  simp only [List.getD_eq_getElem?_getD, List.getElem?_eq_getElem ha, List.getElem?_eq_getElem hb, List.getElem?_eq_getElem hc, Option.getD_some]
theorem upF_rng {d : Dm} {a b v : Int} (hv : i64 v) : i64 (upF d a b v) := by
  unfold upF
  split
  · exact ⟨by omega, by omega⟩
  · split
    · exact hv
    · split
      · exact ⟨by omega, by omega⟩
      · rename_i h1 h2 h3
        have hok : okDim d = true := by cases h : okDim d; exact absurd (.inl h) h1; rfl
        have h1' : ¬ (a < 0 ∨ b < a ∨ b ≥ d.2.length + 2 ∨ v < 0) := fun h => h1 (.inr h)
        have hbl : b ≤ d.2.length := by
          by_cases h : b ≤ d.2.length
          · exact h
          · exact absurd (by unfold byF; rw [if_neg (by omega), if_pos (by omega)]) h3
        obtain ⟨r, s⟩ := byF_div hok (a := a) (b := b) (by omega) (by omega) hbl
        have x := Int.ediv_nonneg (show 0 ≤ v by omega) (show 0 ≤ byF d b / byF d a by omega)
        have y := Int.ediv_le_self (byF d b / byF d a) (show 0 ≤ v by omega)
        have := hv.2
        exact ⟨by omega, by omega⟩
theorem rep_set {X : List Int} {i n : Nat} (hX : X.length = n) (hi : i < n) : (ic (X.take i) ++ List.replicate (n - i) (Value.int .i64 0)).set i (.int .i64 (X[i]'(by omega))) = ic (X.take (i + 1)) ++ List.replicate (n - (i + 1)) (.int .i64 0) := by
  have hl : (ic (X.take i)).length = i := by simp [ic]; omega
  rw [List.set_append_right _ _ (by omega), hl, Nat.sub_self, show n - i = (n - (i + 1)) + 1 by omega, List.replicate_succ, List.set_cons_zero, List.take_add_one, List.getElem?_eq_getElem (by omega), Option.toList_some]
  unfold ic
  rw [List.map_append, List.append_assoc]
  rfl
set_option maxRecDepth 10000 in
/-- dims.At -/
theorem at_c {u va vb vc : Value} {l : List Dm} {a b c : List Int} (hu : dimsD F u l) (hl : l.length ≤ 140737488351232) (ha : sF F 1 va a.length (ic a)) (hb : sF F 1 vb b.length (ic b)) (hc : sF F 1 vc c.length (ic c)) (hbi : ∀ x ∈ b, i64 x) (hci : ∀ x ∈ c, i64 x)
    (k : ∀ v' F' N', (Hp.mk F' M N').wf → subF F F' → N ≤ N' → sF F' 1 v' (atF l a b c).length (ic (atF l a b c)) → K v' ⟨F', M, N'⟩) :
    callv Tryd.prog (.func (.func 60) #[] #[]) #[u, va, vb, vc] K E ⟨F, M, N⟩ := by
  refine callv_of_text mixed Tryd.func60 (by kernel_rfl) (t60 _ E _ _ _ _) (fun hw => ?_)
  have hm : clean M N := hw.m
  have hlu : lenV u = some (.int .i64 (l.length : Nat)) := by obtain ⟨a, c, rfl⟩ := hu.form; rfl
  have hla : lenV va = some (.int .i64 (a.length : Nat)) := by obtain ⟨a, c, rfl, _⟩ := ha.form; rfl
  have hlb : lenV vb = some (.int .i64 (b.length : Nat)) := by obtain ⟨a, c, rfl, _⟩ := hb.form; rfl
  have hlc : lenV vc = some (.int .i64 (c.length : Nat)) := by obtain ⟨a, c, rfl, _⟩ := hc.form; rfl
  refine dsound_c hu hl (fun N1 hN1 hw1 => ?_)
  have no : atOK l a b c = false → ∀ h', h' = (⟨F, M, N1⟩ : Hp) → h'.wf → ∃ h'', h'.wk h'' ∧ (h''.wf → K (.slice none 0 0) h'') := fun e h' e' hc => by
    subst e'
    have e2 : atF l a b c = [] := by unfold atF; rw [e]; rfl
    exact ⟨_, wk_refl hc, fun hw' => k _ _ _ hw' (subF.refl _) hN1 (by rw [e2]; exact sF.nil _ _ _)⟩
  cases hok : okDims l
  · try simp only [gdTT, gdFF, gdTF, gdFT, pvS, pickT, pickF, faP, lenS, capS, nilP, exA, exB, exC, notB, cndT, cndF, Bool.not_true, Bool.not_false, Nat.zero_add, Nat.add_zero]
    exact no (by unfold atOK; rw [hok]; rfl) _ rfl
  try simp only [gdTT, gdFF, gdTF, gdFT, pvS, pickT, pickF, faP, lenS, capS, nilP, exA, exB, exC, notB, cndT, cndF, Bool.not_true, Bool.not_false, Nat.zero_add, Nat.add_zero]
  simp only [hla, hlu]
  try simp only [gdTT, gdFF, gdTF, gdFT, pvS, pickT, pickF, faP, lenS, capS, nilP, exA, exB, exC, notB, cndT, cndF, Bool.not_true, Bool.not_false, Nat.zero_add, Nat.add_zero]
  refine neq_r (fun h1 => ?_) (fun h1 => ?_)
  · try simp only [gdTT, gdFF, gdTF, gdFT, pvS, pickT, pickF, faP, lenS, capS, nilP, exA, exB, exC, notB, cndT, cndF, Bool.not_true, Bool.not_false, Nat.zero_add, Nat.add_zero]
    exact no (by unfold atOK; rw [decide_eq_false (by omega)]; simp) _ rfl
  try simp only [gdTT, gdFF, gdTF, gdFT, pvS, pickT, pickF, faP, lenS, capS, nilP, exA, exB, exC, notB, cndT, cndF, Bool.not_true, Bool.not_false, Nat.zero_add, Nat.add_zero]
  simp only [hlb, hlu]
  try simp only [gdTT, gdFF, gdTF, gdFT, pvS, pickT, pickF, faP, lenS, capS, nilP, exA, exB, exC, notB, cndT, cndF, Bool.not_true, Bool.not_false, Nat.zero_add, Nat.add_zero]
  refine neq_r (fun h2 => ?_) (fun h2 => ?_)
  · try simp only [gdTT, gdFF, gdTF, gdFT, pvS, pickT, pickF, faP, lenS, capS, nilP, exA, exB, exC, notB, cndT, cndF, Bool.not_true, Bool.not_false, Nat.zero_add, Nat.add_zero]
    exact no (by unfold atOK; rw [decide_eq_false (by omega)]; simp) _ rfl
  try simp only [gdTT, gdFF, gdTF, gdFT, pvS, pickT, pickF, faP, lenS, capS, nilP, exA, exB, exC, notB, cndT, cndF, Bool.not_true, Bool.not_false, Nat.zero_add, Nat.add_zero]
  simp only [hlc, hlu]
  try simp only [gdTT, gdFF, gdTF, gdFT, pvS, pickT, pickF, faP, lenS, capS, nilP, exA, exB, exC, notB, cndT, cndF, Bool.not_true, Bool.not_false, Nat.zero_add, Nat.add_zero]
  refine neq_r (fun h3 => ?_) (fun h3 => ?_)
  · try simp only [gdTT, gdFF, gdTF, gdFT, pvS, pickT, pickF, faP, lenS, capS, nilP, exA, exB, exC, notB, cndT, cndF, Bool.not_true, Bool.not_false, Nat.zero_add, Nat.add_zero]
    exact no (by unfold atOK; rw [decide_eq_false (by omega)]; simp) _ rfl
  have hat : atF l a b c = atL l a b c := by unfold atF atOK; rw [hok, decide_eq_true ⟨by omega, by omega, by omega⟩]; rfl
  have hl4 : l.length ≤ 4 := by unfold okDims at hok; rw [Bool.and_eq_true] at hok; exact (of_decide_eq_true hok.1).2
  rw [hat] at k
  try simp only [gdTT, gdFF, gdTF, gdFT, pvS, pickT, pickF, faP, lenS, capS, nilP, exA, exB, exC, notB, cndT, cndF, Bool.not_true, Bool.not_false, Nat.zero_add, Nat.add_zero]
  refine ⟨_, l.length, _, l.length, rfl, rfl, Nat.le_refl _, by omega, by unfold maxLen; omega, fun b0 hb0' => ?_⟩
  have hb0 : N1 ≤ b0 := hb0'
  obtain ⟨rows, hu1, hu2⟩ := hu
  have hAl := atL_len l a b c
  simp only [hlu]
  try simp only [gdTT, gdFF, gdTF, gdFT, pvS, pickT, pickF, faP, lenS, capS, nilP, exA, exB, exC, notB, cndT, cndF, Bool.not_true, Bool.not_false, Nat.zero_add, Nat.add_zero]
  have hflat : ∀ n : Nat, (List.replicate n [(Value.int .i64 0)]).flatten = List.replicate n (Value.int .i64 0) := fun n => by
    induction n with
    | zero => rfl
    | succ n ih => rw [List.replicate_succ, List.flatten_cons, ih]; rfl
  refine l60_1_1_1_0_1_0_0 (σ := Nat) (fun i => .int .i64 (i : Nat))
    (fun i h => ∃ M' N', h = ⟨F, M', N'⟩ ∧ b0 < N' ∧ (∀ q, q < N → M' q = M q) ∧ clean M' N' ∧ i ≤ l.length ∧ M' b0 = some (.cells 3 (ic ((atL l a b c).take i) ++ List.replicate (l.length - i) (.int .i64 0)) l.length)) (fun i => l.length - i) 0 rfl
    (fun hw2 => ⟨_, wk_refl hw2, _, _, rfl, Nat.lt_succ_self _, fun q hq => upd_ne _ _ (by omega), (hm.up hN1).new hb0 _, Nat.zero_le _, by
      show upd M b0 _ b0 = _
      rw [upd_same, hflat]
      simp [ic]⟩) (fun k1 i j h1' hI hw2 next => ?_)
  obtain ⟨M2, N2, rfl, hbN, hM2, hm2, hi, hb2⟩ := hI
  refine lss_r (fun hlt => ?_) (fun hge => ?_)
  · have h4 : i < l.length := by omega
    try simp only [gdTT, gdFF, gdTF, gdFT, pvS, pickT, pickF, faP, lenS, capS, nilP, exA, exB, exC, notB, cndT, cndF, Bool.not_true, Bool.not_false, Nat.zero_add, Nat.add_zero]
    refine row_r hu1 hu2 (by decide) h4 fun p r _ hR hr2 hr1 => ?_
    have hR' := hR
    obtain ⟨kv, rfl, hkv, hkl⟩ := hR
    refine nw_r (fun b1 hb1 => ?_)
    refine stM (cs' := [.int .i64 l[i].1, kv]) ?_ (upd_same _ _ _) rfl rfl hr1
    rw [upd_upd]
    refine ldMa (vs := [.int .i64 l[i].1, kv]) ?_ (upd_same _ _ _)
    refine ixn_r ha (show i < a.length by omega) fun p => ixn_r hb (show i < b.length by omega) fun p => ixn_r hc (show i < c.length by omega) fun p => ?_
    refine up_c hR' (hbi _ (List.getElem_mem _)) (hci _ (List.getElem_mem _)).2 (fun N3 hN3 hw3 => ?_)
    have hXi : (atL l a b c)[i]'(by omega) = upF l[i] a[i] b[i] c[i] := by
      simp only [atL, List.getElem_mapIdx, List.getD_eq_getElem?_getD, List.getElem?_eq_getElem (show i < a.length by omega), List.getElem?_eq_getElem (show i < b.length by omega), List.getElem?_eq_getElem (show i < c.length by omega), Option.getD_some]
    rw [← hXi]
    refine iaN_r (by omega) ?_
    have hlen : (ic ((atL l a b c).take i) ++ List.replicate (l.length - i) (Value.int .i64 0)).length = l.length := by simp [ic, hAl]; omega
    refine stM (cs' := ic ((atL l a b c).take (i + 1)) ++ List.replicate (l.length - (i + 1)) (.int .i64 0)) ?_ ((upd_ne _ _ (by omega)).trans hb2) (by
      rw [Nat.zero_add, Nat.mul_one]
      exact (splice_one (by omega) _).trans (rep_set hAl h4)) rfl (List.all_eq_true.1 rfl) (by rw [hlen]; omega)
    refine inc_r (by omega) ?_
    exact next (i + 1) _ _ (by omega) (fun hw4 => ⟨_, wk_refl hw4, _, N3, rfl, by omega, fun q hq => (upd_ne _ _ (by omega)).trans ((upd_ne _ _ (by omega)).trans (hM2 q hq)), hw4.m, h4, upd_same _ _ _⟩)
  · try simp only [gdTT, gdFF, gdTF, gdFT, pvS, pickT, pickF, faP, lenS, capS, nilP, exA, exB, exC, notB, cndT, cndF, Bool.not_true, Bool.not_false, Nat.zero_add, Nat.add_zero]
    rw [t60_1_1_1_1]
    have e : i = l.length := by omega
    rw [e, List.take_of_length_le (by omega), Nat.sub_self, List.replicate_zero, List.append_nil] at hb2
    refine fun hc' => ⟨_, frz_wf hm hM2 hc', fun hw' => k _ _ _ hw' (subF_frzAll hc') (by omega) ?_⟩
    rw [hAl]
    exact sF_lit (frz_at (by omega) hb2) (by simp [ic, hAl]) (Nat.le_refl _)
/-- At, of the reference -/
theorem rat_c {u va vb vc : Value} {l : List Dm} {a b c : List Int} (hu : dimsD F u l) (hl : l.length ≤ 140737488351232) (ha : sF F 1 va a.length (ic a)) (hb : sF F 1 vb b.length (ic b)) (hc : sF F 1 vc c.length (ic c)) (hbi : ∀ x ∈ b, i64 x) (hci : ∀ x ∈ c, i64 x)
    (k : ∀ v' F' N', (Hp.mk F' M N').wf → subF F F' → N ≤ N' → sF F' 1 v' (atF l a b c).length (ic (atF l a b c)) → K v' ⟨F', M, N'⟩) :
    callv Tryd.prog (.func (.func 63) #[] #[]) #[u, va, vb, vc] K E ⟨F, M, N⟩ := by
  refine callv_of_text mixed Tryd.func63 (by kernel_rfl) (t63 _ E _ _ _ _) (fun hw => ?_)
  have hm : clean M N := hw.m
  have hlu : lenV u = some (.int .i64 (l.length : Nat)) := by obtain ⟨a, c, rfl⟩ := hu.form; rfl
  have hla : lenV va = some (.int .i64 (a.length : Nat)) := by obtain ⟨a, c, rfl, _⟩ := ha.form; rfl
  have hlb : lenV vb = some (.int .i64 (b.length : Nat)) := by obtain ⟨a, c, rfl, _⟩ := hb.form; rfl
  have hlc : lenV vc = some (.int .i64 (c.length : Nat)) := by obtain ⟨a, c, rfl, _⟩ := hc.form; rfl
  refine rdsound_c hu hl (fun N1 hN1 hw1 => ?_)
  have no : atOK l a b c = false → ∀ h', h' = (⟨F, M, N1⟩ : Hp) → h'.wf → ∃ h'', h'.wk h'' ∧ (h''.wf → K (.slice none 0 0) h'') := fun e h' e' hc => by
    subst e'
    have e2 : atF l a b c = [] := by unfold atF; rw [e]; rfl
    exact ⟨_, wk_refl hc, fun hw' => k _ _ _ hw' (subF.refl _) hN1 (by rw [e2]; exact sF.nil _ _ _)⟩
  cases hok : okDims l
  · try simp only [gdTT, gdFF, gdTF, gdFT, pvS, pickT, pickF, faP, lenS, capS, nilP, exA, exB, exC, notB, cndT, cndF, Bool.not_true, Bool.not_false, Nat.zero_add, Nat.add_zero]
    exact no (by unfold atOK; rw [hok]; rfl) _ rfl
  try simp only [gdTT, gdFF, gdTF, gdFT, pvS, pickT, pickF, faP, lenS, capS, nilP, exA, exB, exC, notB, cndT, cndF, Bool.not_true, Bool.not_false, Nat.zero_add, Nat.add_zero]
  simp only [hla, hlu]
  try simp only [gdTT, gdFF, gdTF, gdFT, pvS, pickT, pickF, faP, lenS, capS, nilP, exA, exB, exC, notB, cndT, cndF, Bool.not_true, Bool.not_false, Nat.zero_add, Nat.add_zero]
  refine neq_r (fun h1 => ?_) (fun h1 => ?_)
  · try simp only [gdTT, gdFF, gdTF, gdFT, pvS, pickT, pickF, faP, lenS, capS, nilP, exA, exB, exC, notB, cndT, cndF, Bool.not_true, Bool.not_false, Nat.zero_add, Nat.add_zero]
    exact no (by unfold atOK; rw [decide_eq_false (by omega)]; simp) _ rfl
  try simp only [gdTT, gdFF, gdTF, gdFT, pvS, pickT, pickF, faP, lenS, capS, nilP, exA, exB, exC, notB, cndT, cndF, Bool.not_true, Bool.not_false, Nat.zero_add, Nat.add_zero]
  simp only [hlb, hlu]
  try simp only [gdTT, gdFF, gdTF, gdFT, pvS, pickT, pickF, faP, lenS, capS, nilP, exA, exB, exC, notB, cndT, cndF, Bool.not_true, Bool.not_false, Nat.zero_add, Nat.add_zero]
  refine neq_r (fun h2 => ?_) (fun h2 => ?_)
  · try simp only [gdTT, gdFF, gdTF, gdFT, pvS, pickT, pickF, faP, lenS, capS, nilP, exA, exB, exC, notB, cndT, cndF, Bool.not_true, Bool.not_false, Nat.zero_add, Nat.add_zero]
    exact no (by unfold atOK; rw [decide_eq_false (by omega)]; simp) _ rfl
  try simp only [gdTT, gdFF, gdTF, gdFT, pvS, pickT, pickF, faP, lenS, capS, nilP, exA, exB, exC, notB, cndT, cndF, Bool.not_true, Bool.not_false, Nat.zero_add, Nat.add_zero]
  simp only [hlc, hlu]
  try simp only [gdTT, gdFF, gdTF, gdFT, pvS, pickT, pickF, faP, lenS, capS, nilP, exA, exB, exC, notB, cndT, cndF, Bool.not_true, Bool.not_false, Nat.zero_add, Nat.add_zero]
  refine neq_r (fun h3 => ?_) (fun h3 => ?_)
  · try simp only [gdTT, gdFF, gdTF, gdFT, pvS, pickT, pickF, faP, lenS, capS, nilP, exA, exB, exC, notB, cndT, cndF, Bool.not_true, Bool.not_false, Nat.zero_add, Nat.add_zero]
    exact no (by unfold atOK; rw [decide_eq_false (by omega)]; simp) _ rfl
  have hat : atF l a b c = atL l a b c := by unfold atF atOK; rw [hok, decide_eq_true ⟨by omega, by omega, by omega⟩]; rfl
  have hl4 : l.length ≤ 4 := by unfold okDims at hok; rw [Bool.and_eq_true] at hok; exact (of_decide_eq_true hok.1).2
  rw [hat] at k
  try simp only [gdTT, gdFF, gdTF, gdFT, pvS, pickT, pickF, faP, lenS, capS, nilP, exA, exB, exC, notB, cndT, cndF, Bool.not_true, Bool.not_false, Nat.zero_add, Nat.add_zero]
  obtain ⟨rows, hu1, hu2⟩ := hu
  have hAl := atL_len l a b c
  have hm1 := hm.up hN1
  refine l63_1_1_1_0_1_0_0 (σ := Nat × Value) (fun s => s.2) (fun s => .int .i64 (s.1 : Nat))
    (fun s h => ∃ M' N', h = ⟨F, M', N'⟩ ∧ N ≤ N' ∧ (∀ q, q < N → M' q = M q) ∧ clean M' N' ∧ s.1 ≤ l.length ∧ own M' N 3 1 s.2 s.1 (ic (atL (l.take s.1) a b c))) (fun s => l.length - s.1) (0, .slice none 0 0) rfl rfl
    (fun hw2 => ⟨_, wk_refl hw2, M, N1, rfl, hN1, fun _ _ => rfl, hm1, Nat.zero_le _, own.nil⟩) (fun k1 s j h1' hI hw2 next => ?_)
  obtain ⟨M2, N2, rfl, hN2, hM2, hm2, hi, ho2⟩ := hI
  simp only [hlu]
  try simp only [gdTT, gdFF, gdTF, gdFT, pvS, pickT, pickF, faP, lenS, capS, nilP, exA, exB, exC, notB, cndT, cndF, Bool.not_true, Bool.not_false, Nat.zero_add, Nat.add_zero]
  refine lss_r (fun hlt => ?_) (fun hge => ?_)
  · have h4 : s.1 < l.length := by omega
    try simp only [gdTT, gdFF, gdTF, gdFT, pvS, pickT, pickF, faP, lenS, capS, nilP, exA, exB, exC, notB, cndT, cndF, Bool.not_true, Bool.not_false, Nat.zero_add, Nat.add_zero]
    refine row_r hu1 hu2 (by decide) h4 fun p r _ hR hr2 hr1 => ?_
    refine ixn_r ha (show s.1 < a.length by omega) fun p => ixn_r hb (show s.1 < b.length by omega) fun p => ixn_r hc (show s.1 < c.length by omega) fun p => ?_
    refine rup_c hR (hbi _ (List.getElem_mem _)) (hci _ (List.getElem_mem _)).2 (fun N3 hN3 hw3 => ?_)
    refine push_r (new := [.int .i64 (upF l[s.1] a[s.1] b[s.1] c[s.1])]) ho2 (hm2.up hN3) (by omega) (by kernel_rfl) rfl (List.all_eq_true.1 rfl) (by omega) (by unfold maxLen; omega) (fun p v' M3 N3' h4' h5 h6 h7 => ?_)
    refine inc_r (by omega) ?_
    refine next (s.1 + 1, v') _ _ (by simp only; omega) (fun hw3 => ⟨_, wk_refl hw3, M3, N3', rfl, by omega, fun q hq => ((h5 q (fun e => by have := (ho2.ge q e).1; omega) (by omega)).1).trans (hM2 q hq), h7, h4, ?_⟩)
    simp only
    rw [atL_take l a b c h4 (by omega) (by omega) (by omega)]
    simpa [ic] using h4'
  · try simp only [gdTT, gdFF, gdTF, gdFT, pvS, pickT, pickF, faP, lenS, capS, nilP, exA, exB, exC, notB, cndT, cndF, Bool.not_true, Bool.not_false, Nat.zero_add, Nat.add_zero]
    rw [t63_1_1_1_1]
    rw [List.take_of_length_le (by omega)] at ho2
    refine fun hc' => ⟨_, frz_wf hm hM2 hc', fun hw' => k _ _ _ hw' (subF_frzAll hc') hN2 ?_⟩
    have := ho2.rd.frz hc' (fun b hb => .inl (ho2.ge b hb).1)
    rw [hAl]
    rw [show s.1 = l.length by omega] at this
    exact this
end Go.Proofs.YthpacapdaembpaaDoor.A
open Go Go.RowKit Go.Proofs.YthpacapdaembpaaDoor.K Go.Proofs.YthpacapdaembpaaDoor.T
set_option linter.unusedVariables false
set_option linter.unusedSimpArgs false
namespace Go.Proofs.YthpacapdaembpaaDoor.A
variable {F F' : Nat → Option (List Value)} {M M' : Nat → Option Chunk} {N N' : Nat} {K : Kont} {E : PanK}
/-- TableOne -/
theorem tableOne_c {kv v : Value} {key l : List Int} (hk : sF F 1 kv key.length (ic key)) (hv : sF F 1 v l.length (ic l)) (hkl : key.length ≤ 140737488351232) (hvl : l.length ≤ 140737488351232) (hki : ∀ x ∈ key, i64 x) (k : ∀ h, K (.bool true) h) :
    call Tryd.prog 5 #[kv, v] K E ⟨F, M, N⟩ := by
  refine call_text mixed Tryd.func5 (by kernel_rfl) (t5 _ E _ _) (fun hw => ?_)
  have kn : ∀ {M : Nat → Option Chunk} {F : Nat → Option (List Value)} {N : Nat}, callv Tryd.prog (.func (.func 18) #[] #[]) #[] (fun v h => h.wf → ∃ h', h.wk h' ∧ (h'.wf → K v h')) E ⟨F, M, N⟩ := known_c (fun F' N' _ _ _ hc => ⟨_, wk_refl hc, fun _ => k _⟩)
  have hlk : lenV kv = some (.int .i64 (key.length : Nat)) := by obtain ⟨a, c, rfl, _⟩ := hk.form; rfl
  have hlv : lenV v = some (.int .i64 (l.length : Nat)) := by obtain ⟨a, c, rfl, _⟩ := hv.form; rfl
  simp only [hlk]
  try simp only [gdTT, gdFF, gdTF, gdFT, pvS, pickT, pickF, faP, lenS, capS, nilP, exA, exB, exC, notB, cndT, cndF, Bool.not_true, Bool.not_false, Nat.zero_add, Nat.add_zero]
  refine gtr_r (fun h1 => ?_) (fun h1 => ?_)
  · try simp only [gdTT, gdFF, gdTF, gdFT, pvS, pickT, pickF, faP, lenS, capS, nilP, exA, exB, exC, notB, cndT, cndF, Bool.not_true, Bool.not_false, Nat.zero_add, Nat.add_zero]; exact kn
  try simp only [gdTT, gdFF, gdTF, gdFT, pvS, pickT, pickF, faP, lenS, capS, nilP, exA, exB, exC, notB, cndT, cndF, Bool.not_true, Bool.not_false, Nat.zero_add, Nat.add_zero]
  simp only [hlv]
  try simp only [gdTT, gdFF, gdTF, gdFT, pvS, pickT, pickF, faP, lenS, capS, nilP, exA, exB, exC, notB, cndT, cndF, Bool.not_true, Bool.not_false, Nat.zero_add, Nat.add_zero]
  refine gtr_r (fun h2 => ?_) (fun h2 => ?_)
  · try simp only [gdTT, gdFF, gdTF, gdFT, pvS, pickT, pickF, faP, lenS, capS, nilP, exA, exB, exC, notB, cndT, cndF, Bool.not_true, Bool.not_false, Nat.zero_add, Nat.add_zero]; exact kn
  try simp only [gdTT, gdFF, gdTF, gdFT, pvS, pickT, pickF, faP, lenS, capS, nilP, exA, exB, exC, notB, cndT, cndF, Bool.not_true, Bool.not_false, Nat.zero_add, Nat.add_zero]
  refine known_c (fun F1 N1 hF1 hN1 hw1 => ?_)
  try simp only [gdTT, gdFF, gdTF, gdFT, pvS, pickT, pickF, faP, lenS, capS, nilP, exA, exB, exC, notB, cndT, cndF, Bool.not_true, Bool.not_false, Nat.zero_add, Nat.add_zero]
  have hm1 : clean M N1 := hw1.m
  have hk1 := hk.mono hF1
  obtain ⟨ka, kc, hkf, _⟩ := hk.form
  refine l5_1_1_1_0_1_0_0 (σ := Nat × Value) (fun s => s.2) (fun s => .int .i64 (s.1 : Nat))
    (fun s h => ∃ M' N' rows, h = ⟨F1, M', N'⟩ ∧ N1 ≤ N' ∧ (∀ q, q < N1 → M' q = M q) ∧ clean M' N' ∧ s.1 ≤ l.length ∧ own M' N1 39 2 s.2 s.1 rows.flatten ∧ rowsF (fctD F1) 2 rows ((l.take s.1).map fun x => (key, x))) (fun s => l.length - s.1) (0, .slice none 0 0) rfl rfl
    (fun hw2 => ⟨_, wk_refl hw2, M, N1, [], rfl, Nat.le_refl _, fun _ _ => rfl, hm1, Nat.zero_le _, own.nil, rowsF.nil _ _⟩) (fun k1 s j h1 hI hw2 next => ?_)
  obtain ⟨M2, N2, rows, rfl, hN2, hM2, hm2, hi, ho2, hr2⟩ := hI
  simp only [hlv]
  try simp only [gdTT, gdFF, gdTF, gdFT, pvS, pickT, pickF, faP, lenS, capS, nilP, exA, exB, exC, notB, cndT, cndF, Bool.not_true, Bool.not_false, Nat.zero_add, Nat.add_zero]
  refine lss_r (fun hlt => ?_) (fun hge => ?_)
  · have h3 : s.1 < l.length := by omega
    try simp only [gdTT, gdFF, gdTF, gdFT, pvS, pickT, pickF, faP, lenS, capS, nilP, exA, exB, exC, notB, cndT, cndF, Bool.not_true, Bool.not_false, Nat.zero_add, Nat.add_zero]
    refine ixn_r (hv.mono hF1) h3 fun p => ?_
    have hr1 : fctD F1 [kv, .int .i64 l[s.1]] (key, l[s.1]) := ⟨kv, rfl, hk1, hkl⟩
    refine pv_r (v := .agg #[kv, .int .i64 l[s.1]]) (by rw [hkf]; kernel_rfl) ?_
    refine push_r (new := [kv, .int .i64 l[s.1]]) ho2 hm2 hN2 (by rw [hkf]; kernel_rfl) rfl hr1.one.2 (by omega) (by unfold maxLen; omega) (fun p v' M3 N3 h4 h5 h6 h7 => ?_)
    refine inc_r (by omega) ?_
    refine next (s.1 + 1, v') _ _ (by simp only; omega) (fun hw3 => ⟨_, wk_refl hw3, M3, N3, rows ++ [[kv, .int .i64 l[s.1]]], rfl, by omega, fun q hq => ?_, h7, h3, ?_, ?_⟩)
    · exact ((h5 q (fun e => by have := (ho2.ge q e).1; omega) (by omega)).1).trans (hM2 q hq)
    · simpa using h4
    · simp only
      rw [List.take_add_one, List.getElem?_eq_getElem h3, Option.toList_some, List.map_append]
      exact hr2.snoc hr1.one.1 hr1.one.2 hr1
  · try simp only [gdTT, gdFF, gdTF, gdFT, pvS, pickT, pickF, faP, lenS, capS, nilP, exA, exB, exC, notB, cndT, cndF, Bool.not_true, Bool.not_false, Nat.zero_add, Nat.add_zero]
    rw [t5_1_1_1_1]
    have e : l.take s.1 = l := List.take_of_length_le (by omega)
    have e2 : s.1 = l.length := by omega
    rw [e] at hr2
    rw [e2] at ho2
    refine callv_go (fun hc => ⟨_, frz_wf hm1 hM2 hc, ?_⟩)
    have hs := subF_frzAll (N := N1) hc
    have hfc : fctsD (frzAll F1 M2 N1) s.2 (l.map fun x => (key, x)) := ⟨rows, by
      have := ho2.rd.frz hc (fun b hb => .inl (ho2.ge b hb).1)
      rw [List.length_map]; exact this, hr2.mono fun _ _ h => h.mono hs⟩
    have hv1 := (hv.mono hF1).mono hs
    generalize frzAll F1 M2 N1 = F2 at *
    refine make_c hfc (by simp; omega) (fun f hf => ?_) (fun u F3 N3 hw3 hF3 hN3 hu => ?_)
    · obtain ⟨x, _, rfl⟩ := List.mem_map.1 hf
      exact ⟨by simp only; omega, hki⟩
    simp only [hlv]
    try simp only [gdTT, gdFF, gdTF, gdFT, pvS, pickT, pickF, faP, lenS, capS, nilP, exA, exB, exC, notB, cndT, cndF, Bool.not_true, Bool.not_false, Nat.zero_add, Nat.add_zero]
    rw [List.map_map] at hu
    rcases Nat.eq_zero_or_pos l.length with h0 | h0
    · have hl0 : l = [] := List.eq_nil_of_length_eq_zero h0
      subst hl0
      refine eql_t rfl ?_
      try simp only [gdTT, gdFF, gdTF, gdFT, pvS, pickT, pickF, faP, lenS, capS, nilP, exA, exB, exC, notB, cndT, cndF, Bool.not_true, Bool.not_false, Nat.zero_add, Nat.add_zero]
      obtain ⟨a, c, rfl⟩ := hu.form
      try simp only [gdTT, gdFF, gdTF, gdFT, pvS, pickT, pickF, faP, lenS, capS, nilP, exA, exB, exC, notB, cndT, cndF, Bool.not_true, Bool.not_false, Nat.zero_add, Nat.add_zero]
      refine eql_t rfl fun hc => ⟨_, wk_refl hc, fun _ => k _⟩
    · refine eql_f (by omega) ?_
      try simp only [gdTT, gdFF, gdTF, gdFT, pvS, pickT, pickF, faP, lenS, capS, nilP, exA, exB, exC, notB, cndT, cndF, Bool.not_true, Bool.not_false, Nat.zero_add, Nat.add_zero]
      have hne : l ≠ [] := fun e => by rw [e] at h0; simp at h0
      have e3 := tab_one key l hne
      rw [show (fr1 ∘ fun x => (key, x)) = fun x => fr1 (key, x) from rfl, e3] at hu
      obtain ⟨rows3, hu1, hu2⟩ := hu
      obtain ⟨ua, uc, hup, _⟩ := hu1.form
      rw [show lenV u = some (.int .i64 ((1 : Nat) : Int)) by rw [hup]; rfl]
      try simp only [gdTT, gdFF, gdTF, gdFT, pvS, pickT, pickF, faP, lenS, capS, nilP, exA, exB, exC, notB, cndT, cndF, Bool.not_true, Bool.not_false, Nat.zero_add, Nat.add_zero]
      refine eql_t rfl ?_
      try simp only [gdTT, gdFF, gdTF, gdFT, pvS, pickT, pickF, faP, lenS, capS, nilP, exA, exB, exC, notB, cndT, cndF, Bool.not_true, Bool.not_false, Nat.zero_add, Nat.add_zero]
      obtain ⟨b, o, c, cs, r, hb, hFb, _, ⟨kv3, rfl, hkv3, _⟩, hl5, h15, hle5, ht5, hj5⟩ := row_at hu1 hu2 (by decide) (show 0 < [(key, allC l)].length by simp)
      subst hb
      refine iaN_r (i := 0) (by simp) ?_
      try simp only [gdTT, gdFF, gdTF, gdFT, pvS, pickT, pickF, faP, lenS, capS, nilP, exA, exB, exC, notB, cndT, cndF, Bool.not_true, Bool.not_false, Nat.zero_add, Nat.add_zero]
      have hld : ∀ M' N', ldV ⟨F3, M', N'⟩ true 4 (.pointer (some ⟨b, o + 0 * 5 + 1, none⟩)) (.agg (allC l).cs.toArray) := fun M' N' => ldV_a (row_F hFb) (by omega) (by
        have e5 := congrArg (List.drop 1) ht5
        rw [List.drop_take, List.drop_drop] at e5
        simpa using e5)
      refine ld_r (hld _ _) ?_
      refine rall_c (hv1.mono hF3) hvl (fun N4 hN4 hw4 => ?_)
      refine ⟨fun _ => hld _ _, ?_⟩
      refine eqc_r ?_
      rw [decide_eq_true rfl]
      try simp only [gdTT, gdFF, gdTF, gdFT, pvS, pickT, pickF, faP, lenS, capS, nilP, exA, exB, exC, notB, cndT, cndF, Bool.not_true, Bool.not_false, Nat.zero_add, Nat.add_zero]
      refine iaN_r (i := 0) (by simp) ?_
      try simp only [gdTT, gdFF, gdTF, gdFT, pvS, pickT, pickF, faP, lenS, capS, nilP, exA, exB, exC, notB, cndT, cndF, Bool.not_true, Bool.not_false, Nat.zero_add, Nat.add_zero]
      refine ld_r (ldV_c (row_F hFb) (by have := hj5 0 (by decide); simpa using this)) ?_
      obtain ⟨k3a, k3c, rfl, _⟩ := hkv3.form
      simp only [hlk]
      try simp only [gdTT, gdFF, gdTF, gdFT, pvS, pickT, pickF, faP, lenS, capS, nilP, exA, exB, exC, notB, cndT, cndF, Bool.not_true, Bool.not_false, Nat.zero_add, Nat.add_zero]
      refine eql_t rfl ?_
      try simp only [gdTT, gdFF, gdTF, gdFT, pvS, pickT, pickF, faP, lenS, capS, nilP, exA, exB, exC, notB, cndT, cndF, Bool.not_true, Bool.not_false, Nat.zero_add, Nat.add_zero]
      exact fun hc => ⟨_, wk_refl hc, fun _ => k _⟩
end Go.Proofs.YthpacapdaembpaaDoor.A
open Go
set_option linter.unusedVariables false
set_option linter.unusedSimpArgs false
namespace Go.Proofs.YthpacapdaembpaaDoor.A

/-! ### What numbers come to -/
def isMin (m : Int) (l : List Int) : Prop := m ∈ l ∧ ∀ x ∈ l, m ≤ x
def isMax (m : Int) (l : List Int) : Prop := m ∈ l ∧ ∀ x ∈ l, x ≤ m
/-- The cell of numbers (one at least). -/
structure isCell (c : CE) (l : List Int) : Prop where
  n : c.n = l.length
  s : c.s = IntKind.i64.wrap l.sum
  lo : isMin c.lo l
  hi : isMax c.hi l
theorem isCell.ne {c : CE} {l : List Int} (h : isCell c l) : l ≠ [] := fun e => by have := h.lo.1; rw [e] at this; cases this
theorem isCell.pos {c : CE} {l : List Int} (h : isCell c l) : 0 < c.n := by
  have := List.length_pos_iff.2 h.ne
  rw [h.n]; omega
theorem isCell.one {v : Int} (h0 : -9223372036854775808 ≤ v) (h1 : v ≤ 9223372036854775807) : isCell ⟨1, v, v, v⟩ [v] :=
  ⟨rfl, by simp only [List.sum_cons, List.sum_nil]; rw [IntKind.wrap_i64]; omega, ⟨by simp, fun x hx => by simp at hx; simp only; omega⟩, ⟨by simp, fun x hx => by simp at hx; simp only; omega⟩⟩
theorem wrap_add (a b : Int) : IntKind.i64.wrap (IntKind.i64.wrap a + IntKind.i64.wrap b) = IntKind.i64.wrap (a + b) := by
  simp only [IntKind.wrap_i64]; omega
theorem sum_app (a b : List Int) : (a ++ b).sum = a.sum + b.sum := by simp
theorem isCell.merge {a b : CE} {la lb : List Int} (ha : isCell a la) (hb : isCell b lb) (hl : la.length + lb.length < 9223372036854775808) : isCell (a.merge b) (la ++ lb) := by
  have h1 := ha.pos
  have h2 := hb.pos
  have e : a.merge b = ⟨IntKind.i64.wrap (a.n + b.n), IntKind.i64.wrap (a.s + b.s), if b.lo < a.lo then b.lo else a.lo, if b.hi > a.hi then b.hi else a.hi⟩ := by
    unfold CE.merge CE.add
    rw [if_neg (by omega), if_neg (by omega), if_neg (fun e => by rw [e] at h2; simp at h2), if_neg (fun e => by rw [e] at h1; simp at h1)]
  rw [e]
  refine ⟨?_, ?_, ⟨?_, fun x hx => ?_⟩, ⟨?_, fun x hx => ?_⟩⟩
  · simp only
    rw [ha.n, hb.n, IntKind.wrap_i64, List.length_append]; omega
  · simp only
    rw [ha.s, hb.s, wrap_add, sum_app]
  · simp only
    split
    · exact List.mem_append_right _ hb.lo.1
    · exact List.mem_append_left _ ha.lo.1
  · simp only
    rcases List.mem_append.1 hx with hx | hx
    · have := ha.lo.2 x hx; split <;> omega
    · have := hb.lo.2 x hx; split <;> omega
  · simp only
    split
    · exact List.mem_append_right _ hb.hi.1
    · exact List.mem_append_left _ ha.hi.1
  · simp only
    rcases List.mem_append.1 hx with hx | hx
    · have := ha.hi.2 x hx; split <;> omega
    · have := hb.hi.2 x hx; split <;> omega
/-- The order of numbers does not matter. -/
theorem isCell.perm {c d : CE} {l m : List Int} (h : isCell c l) (k : isCell d m) (p : l.Perm m) : c = d := by
  obtain ⟨c1, c2, c3, c4⟩ := c
  obtain ⟨d1, d2, d3, d4⟩ := d
  have e1 : c1 = d1 := by have a := h.n; have b := k.n; simp only at a b; rw [a, b, p.length_eq]
  have e2 : c2 = d2 := by
    have a := h.s; have b := k.s; simp only at a b
    rw [a, b]
    congr 1
    exact p.foldr_eq' (fun x _ y _ z => by omega) 0
  have e3 : c3 = d3 := by
    have a := h.lo.2 d3 (p.mem_iff.2 k.lo.1)
    have b := k.lo.2 c3 (p.mem_iff.1 h.lo.1)
    simp only at a b; omega
  have e4 : c4 = d4 := by
    have a := h.hi.2 d4 (p.mem_iff.2 k.hi.1)
    have b := k.hi.2 c4 (p.mem_iff.1 h.hi.1)
    simp only at a b; omega
  rw [e1, e2, e3, e4]
/-- Numbers at keys. -/
abbrev KV := List Int × List Int
/-- All numbers at a key, in order. -/
def valsAt (ls : List KV) (k : List Int) : List Int := (ls.filter fun x => decide (x.1 = k)).flatMap (·.2)
theorem valsAt_cons (x : KV) (ls : List KV) (k : List Int) : valsAt (x :: ls) k = (if x.1 = k then x.2 else []) ++ valsAt ls k := by
  unfold valsAt
  rw [List.filter_cons]
  by_cases h : x.1 = k
  · simp [h]
  · simp [h]
theorem valsAt_app (a b : List KV) (k : List Int) : valsAt (a ++ b) k = valsAt a k ++ valsAt b k := by simp [valsAt]
theorem valsAt_snoc (ls : List KV) (x : KV) (k : List Int) : valsAt (ls ++ [x]) k = valsAt ls k ++ (if x.1 = k then x.2 else []) := by
  rw [valsAt_app, valsAt_cons]; simp [valsAt]
/-- How many numbers. -/
def sizeL (ls : List KV) : Nat := (ls.map (·.2.length)).sum
theorem sizeL_app (a b : List KV) : sizeL (a ++ b) = sizeL a + sizeL b := by simp [sizeL]
theorem valsAt_len (ls : List KV) (k : List Int) : (valsAt ls k).length ≤ sizeL ls := by
  induction ls with
  | nil => simp [valsAt, sizeL]
  | cons x ls ih =>
    rw [valsAt_cons]
    simp only [sizeL, List.map_cons, List.sum_cons, List.length_append] at ih ⊢
    split
    · omega
    · simp; omega
/-- Rows, and the numbers that they tell. -/
def tells (rows : List Rw) (ls : List KV) : Prop := rows.length = ls.length ∧ ∀ (i : Nat) (r : Rw) (l : KV), rows[i]? = some r → ls[i]? = some l → r.1 = l.1 ∧ isCell r.2 l.2
theorem tells.nil : tells [] [] := ⟨rfl, fun i r l h => by simp at h⟩
theorem tells.cons {r : Rw} {l : KV} {rows : List Rw} {ls : List KV} (h1 : r.1 = l.1) (h2 : isCell r.2 l.2) (h : tells rows ls) : tells (r :: rows) (l :: ls) := by
  refine ⟨by simp [h.1], fun i r' l' hr hl => ?_⟩
  cases i with
  | zero => simp at hr hl; subst hr; subst hl; exact ⟨h1, h2⟩
  | succ i => exact h.2 i r' l' (by simpa using hr) (by simpa using hl)
theorem tells.uncons {r : Rw} {l : KV} {rows : List Rw} {ls : List KV} (h : tells (r :: rows) (l :: ls)) : r.1 = l.1 ∧ isCell r.2 l.2 ∧ tells rows ls :=
  ⟨(h.2 0 r l rfl rfl).1, (h.2 0 r l rfl rfl).2, by have := h.1; simp at this; exact this, fun i r' l' hr hl => h.2 (i + 1) r' l' (by simpa using hr) (by simpa using hl)⟩
theorem tells.app {r1 r2 : List Rw} {l1 l2 : List KV} (h1 : tells r1 l1) (h2 : tells r2 l2) : tells (r1 ++ r2) (l1 ++ l2) := by
  induction r1 generalizing l1 with
  | nil =>
    cases l1 with
    | nil => simpa using h2
    | cons _ _ => have := h1.1; simp at this
  | cons r r1 ih =>
    cases l1 with
    | nil => have := h1.1; simp at this
    | cons l l1 => obtain ⟨a, b, c⟩ := h1.uncons; exact .cons a b (ih c)
/-- What a table has at a key. -/
def hasAt (t : List Rw) (ls : List KV) : Prop := ∀ k, match look t k with
  | none => valsAt ls k = []
  | some c => isCell c (valsAt ls k)
theorem hasAt.layR {t : List Rw} {ls : List KV} (h : hasAt t ls) (hs : srt t) {k : List Int} {c : CE} {l : List Int} (hc : isCell c l) (hn : sizeL ls + l.length < 9223372036854775808) : hasAt (layR t k c) (ls ++ [(k, l)]) := by
  intro q
  rw [layR_look k c q hs, valsAt_snoc]
  have hq := h q
  by_cases e : k = q
  · subst e
    simp only [if_true]
    cases hl : look t k with
    | none => rw [hl] at hq; simp only at hq; simp only [mrg]; rw [hq, List.nil_append]; exact hc
    | some c' =>
      rw [hl] at hq; simp only at hq; simp only [mrg]
      exact hq.merge hc (by have := valsAt_len ls k; omega)
  · simp only [if_neg e, List.append_nil]
    exact hq
theorem hasAt.nil : hasAt [] [] := fun k => by simp [look, valsAt]
theorem fold_hasAt : ∀ (rows : List Rw) (ls : List KV) (t : List Rw) (ls0 : List KV), tells rows ls → hasAt t ls0 → srt t → sizeL ls0 + sizeL ls < 9223372036854775808 → hasAt (rows.foldl (fun t r => layR t r.1 r.2) t) (ls0 ++ ls)
  | [], [], t, ls0, _, h, _, _ => by simpa using h
  | [], _ :: _, _, _, h, _, _, _ => by have := h.1; simp at this
  | _ :: _, [], _, _, h, _, _, _ => by have := h.1; simp at this
  | r :: rows, (k, l) :: ls, t, ls0, h, ht, hs, hn => by
    obtain ⟨a, b, c⟩ := h.uncons
    simp only at a b
    have hn' : sizeL ls0 + (l.length + sizeL ls) < 9223372036854775808 := by simpa [sizeL] using hn
    subst a
    have h1 := ht.layR hs (k := r.1) b (by omega)
    have h2 := fold_hasAt rows ls _ _ c h1 (layR_srt hs) (by rw [sizeL_app]; simp [sizeL] at hn' ⊢; omega)
    rw [List.append_assoc] at h2
    exact h2
theorem tab_hasAt {rows : List Rw} {ls : List KV} (h : tells rows ls) (hn : sizeL ls < 9223372036854775808) : hasAt (tab rows) ls := by
  have := fold_hasAt rows ls [] [] h hasAt.nil .nil (by simpa [sizeL] using hn)
  rw [List.nil_append] at this
  exact this
/-- A table tells what it has. -/
theorem hasAt.tells {t : List Rw} {ls : List KV} (h : hasAt t ls) (hs : srt t) : tells t (t.map fun r => (r.1, valsAt ls r.1)) := by
  refine ⟨by simp, fun i r l hr hl => ?_⟩
  rw [List.getElem?_map, hr] at hl
  simp at hl
  subst hl
  refine ⟨rfl, ?_⟩
  have := h r.1
  rw [(look_some hs.nodup (c := r.2)).2 (List.mem_of_getElem? hr)] at this
  exact this
/-- Two tables that have the same numbers at each key, in whichever order, are one. -/
theorem hasAt.ext {t u : List Rw} {ls ms : List KV} (h : hasAt t ls) (k : hasAt u ms) (ht : srt t) (hu : srt u) (hp : ∀ q, (valsAt ls q).Perm (valsAt ms q)) : t = u := by
  refine srt_ext ht hu fun q => ?_
  have h1 := h q
  have h2 := k q
  have hpq := hp q
  cases a : look t q with
  | none =>
    rw [a] at h1; simp only at h1
    cases b : look u q with
    | none => rfl
    | some d => rw [b] at h2; simp only at h2; rw [h1] at hpq; exact absurd hpq.symm.eq_nil h2.ne
  | some c =>
    rw [a] at h1; simp only at h1
    cases b : look u q with
    | none => rw [b] at h2; simp only at h2; rw [h2] at hpq; exact absurd hpq.eq_nil h1.ne
    | some d => rw [b] at h2; simp only at h2; rw [h1.perm h2 hpq]
/-- The numbers of facts. -/
def kvF (f : List Int × Int) : KV := (f.1, [f.2])
theorem tells_facts : ∀ {l : List (List Int × Int)}, (∀ f ∈ l, -9223372036854775808 ≤ f.2 ∧ f.2 ≤ 9223372036854775807) → tells (l.map fun f => (f.1, (⟨1, f.2, f.2, f.2⟩ : CE))) (l.map kvF)
  | [], _ => .nil
  | f :: l, h => .cons rfl (isCell.one (h f (by simp)).1 (h f (by simp)).2) (tells_facts fun x hx => h x (by simp [hx]))
theorem sizeL_facts (l : List (List Int × Int)) : sizeL (l.map kvF) = l.length := by
  induction l with
  | nil => rfl
  | cons f l ih => simp only [sizeL, kvF, List.map_cons, List.sum_cons, List.length_cons, List.length_nil] at ih ⊢; omega
theorem valsAt_perm {a b : List KV} (p : a.Perm b) (k : List Int) : (valsAt a k).Perm (valsAt b k) := (p.filter _).flatMap_right _
theorem mem_keys {t : List Rw} {ls : List KV} (h : hasAt t ls) (hs : srt t) {r : Rw} (hr : r ∈ t) : (∃ x ∈ ls, x.1 = r.1) ∧ isCell r.2 (valsAt ls r.1) := by
  have h1 := h r.1
  rw [(look_some hs.nodup (c := r.2)).2 hr] at h1
  simp only at h1
  refine ⟨?_, h1⟩
  have hne := h1.ne
  unfold valsAt at hne
  cases hf : ls.filter (fun x => decide (x.1 = r.1)) with
  | nil => rw [hf] at hne; exact absurd rfl hne
  | cons x m =>
    have hx : x ∈ ls.filter (fun x => decide (x.1 = r.1)) := by rw [hf]; simp
    obtain ⟨a, b⟩ := List.mem_filter.1 hx
    exact ⟨x, a, of_decide_eq_true b⟩
end Go.Proofs.YthpacapdaembpaaDoor.A
open Go Go.RowKit Go.Proofs.YthpacapdaembpaaDoor.K Go.Proofs.YthpacapdaembpaaDoor.T
set_option linter.unusedVariables false
set_option linter.unusedSimpArgs false
namespace Go.Proofs.YthpacapdaembpaaDoor.A
variable {F F' : Nat → Option (List Value)} {M M' : Nat → Option Chunk} {N N' : Nat} {K : Kont} {E : PanK}
theorem isCell.ok {c : CE} {l : List Int} (h : isCell c l) (hl : ∀ x ∈ l, i64 x) : c.ok = true := by
  have hp := h.pos
  unfold CE.ok
  rw [if_neg (by omega)]
  refine decide_eq_true ⟨h.hi.2 _ h.lo.1, ?_⟩
  by_cases h1 : c.n > 1
  · exact .inl h1
  · right
    have hn := h.n
    match l, h, hl, hn with
    | [], h, _, _ => exact absurd rfl h.ne
    | [x], h, hl, _ =>
      have a := h.lo.1; have b := h.hi.1; have s := h.s
      simp at a b
      have hx := hl x (by simp)
      simp only [List.sum_cons, List.sum_nil] at s
      rw [show x + 0 = x by omega, wrap_in hx.1 hx.2] at s
      exact ⟨by rw [s, a], by rw [a, b]⟩
    | x :: y :: l, _, _, hn => simp at hn; omega
theorem soundT_of {p : Int} : ∀ {t : List Rw}, (∀ r ∈ t, okRow p r = true) → srt t → soundT p t = true := by
  have key : ∀ (t : List Rw) (o : Option (List Int)), (∀ r ∈ t, okRow p r = true) → srt t → (∀ k, o = some k → ∀ r ∈ t, kcmp k r.1 < 0) → soundL p o t = true := by
    intro t
    induction t with
    | nil => intro o _ _ _; rfl
    | cons r t ih =>
      intro o h hs ho
      have hs' := List.pairwise_cons.1 hs
      simp only [soundL]
      rw [h r (by simp), ih (some r.1) (fun x hx => h x (by simp [hx])) hs'.2 (fun k e x hx => by cases e; exact hs'.1 x hx)]
      cases o with
      | none => rfl
      | some k => simp only; rw [decide_eq_true (ho k rfl r (by simp))]; rfl
  intro t h hs
  exact key t none h hs (fun k e => by cases e)
theorem okRow_of {r : Rw} {p : Int} {l : List Int} (h1 : (r.1.length : Int) = p) (h2 : ∀ x ∈ r.1, 0 ≤ x) (h3 : isCell r.2 l) (h4 : ∀ x ∈ l, i64 x) : okRow p r = true := by
  unfold okRow
  have hn : anyNeg r.1 = false := by
    unfold anyNeg
    rw [List.any_eq_false]
    intro x hx; have := h2 x hx; simp; omega
  rw [decide_eq_true h1, decide_eq_true h3.pos, h3.ok h4, hn]; rfl
/-- Dimensions whose keys may be told. -/
def goodDims (l : List Dm) : Prop := 0 < l.length ∧ l.length ≤ 4 ∧ ∀ d ∈ l, 0 < d.1 ∧ d.1 ≤ 200
theorem dimsOf_good (m : List (Int × List Int)) (hc : ∀ c ∈ m, 0 ≤ c.1 ∧ c.1 < 65536) : goodDims (dimsOf m) := by
  unfold dimsOf
  split
  · exact ⟨by decide, by decide, fun d hd => by simp at hd; subst hd; decide⟩
  · rename_i h
    refine ⟨?_, by rw [List.length_map, List.length_take]; omega, fun d hd => ?_⟩
    · have := List.length_pos_iff.2 h
      rw [List.length_map, List.length_take]; omega
    · obtain ⟨c, hc', rfl⟩ := List.mem_map.1 hd
      have := hc c (List.mem_of_mem_take hc')
      simp only [dimOf]; omega
theorem keyOf_get {l : List Dm} {c : List Int} {x : Int} (h : x ∈ keyOf l c) : ∃ (i : Nat) (hi : i < l.length), x = (c.getD i 0) % l[i].1 := by
  obtain ⟨i, hi, rfl⟩ := List.mem_iff_getElem.1 h
  rw [keyOf_len] at hi
  exact ⟨i, hi, by simp [keyOf]⟩
theorem keyOf_ok {l : List Dm} (hl : goodDims l) (c : List Int) : ∀ x ∈ keyOf l c, 0 ≤ x ∧ x < 200 := fun x hx => by
  obtain ⟨i, hi, rfl⟩ := keyOf_get hx
  obtain ⟨h1, h2⟩ := hl.2.2 l[i] (List.getElem_mem _)
  have a := Int.emod_nonneg (c.getD i 0) (show l[i].1 ≠ 0 by omega)
  have b := Int.emod_lt_of_pos (c.getD i 0) h1
  omega
theorem factsOf_mem {l : List Dm} {ks : List (List Int)} {v : List Int} {f : Fc} (h : f ∈ factsOf l ks v) : (∃ c, f.1 = keyOf l c) ∧ (f.2 = 0 ∨ f.2 ∈ v) := by
  obtain ⟨i, hi, rfl⟩ := List.mem_iff_getElem.1 h
  refine ⟨⟨(ks.take 200)[i]'(by simpa [factsOf] using hi), by simp [factsOf]⟩, ?_⟩
  simp only [factsOf, List.getElem_mapIdx]
  rw [List.getD_eq_getElem?_getD]
  cases hv : v[i % v.length]? with
  | none => exact .inl rfl
  | some x => exact .inr (List.mem_of_getElem? hv)
theorem facts_i64 {l : List Dm} {ks : List (List Int)} {v : List Int} (hv : ∀ x ∈ v, i64 x) : ∀ f ∈ factsOf l ks v, i64 f.2 := fun f hf => by
  rcases (factsOf_mem hf).2 with h | h
  · rw [h]; exact ⟨by omega, by omega⟩
  · exact hv _ h
theorem facts_okK {l : List Dm} (hl : goodDims l) {ks : List (List Int)} {v : List Int} : ∀ f ∈ factsOf l ks v, okK f.1 := fun f hf => by
  obtain ⟨c, hc⟩ := (factsOf_mem hf).1
  rw [hc]
  refine ⟨by rw [keyOf_len]; have := hl.2.1; omega, fun x hx => ?_⟩
  have := keyOf_ok hl c x hx
  exact ⟨by omega, by omega⟩
theorem valsAt_mem {ls : List KV} {k : List Int} {x : Int} (h : x ∈ valsAt ls k) : ∃ l ∈ ls, l.1 = k ∧ x ∈ l.2 := by
  unfold valsAt at h
  obtain ⟨l, hl, hx⟩ := List.mem_flatMap.1 h
  obtain ⟨h1, h2⟩ := List.mem_filter.1 hl
  exact ⟨l, h1, of_decide_eq_true h2, hx⟩
/-- The table of facts: what it has. -/
theorem tabF_hasAt {l : List Fc} (h : ∀ f ∈ l, i64 f.2) (hn : l.length < 9223372036854775808) : hasAt (tab (l.map fr1)) (l.map kvF) :=
  tab_hasAt (tells_facts h) (by rw [sizeL_facts]; exact hn)
theorem tabF_rows {l : List Fc} (h : ∀ f ∈ l, i64 f.2) (hn : l.length < 9223372036854775808) {r : Rw} (hr : r ∈ tab (l.map fr1)) : (∃ f ∈ l, f.1 = r.1) ∧ isCell r.2 (valsAt (l.map kvF) r.1) ∧ ∀ x ∈ valsAt (l.map kvF) r.1, i64 x := by
  obtain ⟨⟨x, hx, e⟩, h2⟩ := mem_keys (tabF_hasAt h hn) (tab_srt _) hr
  obtain ⟨f, hf, rfl⟩ := List.mem_map.1 hx
  refine ⟨⟨f, hf, e⟩, h2, fun y hy => ?_⟩
  obtain ⟨l', hl', _, hy'⟩ := valsAt_mem hy
  obtain ⟨g, hg, rfl⟩ := List.mem_map.1 hl'
  simp [kvF] at hy'
  rw [hy']; exact h g hg
theorem tabF_sound {l : List Dm} (hl : goodDims l) {ks : List (List Int)} {v : List Int} (hv : ∀ x ∈ v, i64 x) : soundT l.length (tab ((factsOf l ks v).map fr1)) = true := by
  have hn : (factsOf l ks v).length < 9223372036854775808 := by rw [factsOf_len]; omega
  refine soundT_of (fun r hr => ?_) (tab_srt _)
  obtain ⟨⟨f, hf, e⟩, h1, h2⟩ := tabF_rows (facts_i64 hv) hn hr
  obtain ⟨c, hc⟩ := (factsOf_mem hf).1
  refine okRow_of (by rw [← e, hc, keyOf_len]) (fun x hx => ?_) h1 h2
  rw [← e, hc] at hx
  exact (keyOf_ok hl c x hx).1
/-- TableSounds -/
theorem tableSounds_c {u um uk uv : Value} {t : List Rw} {p : Int} {m : List (Int × List Int)} {ks : List (List Int)} {v : List Int} (hu : tblD F u t) (hul : t.length ≤ 140737488351232) (hm : cutsD F um m) (hml : m.length ≤ 140737488351232) (hmc : ∀ c ∈ m, (0 ≤ c.1 ∧ c.1 < 65536) ∧ ∀ x ∈ c.2, 0 ≤ x ∧ x < 256)
    (hk : kksD .u16 F uk ks) (hkl : ks.length ≤ 140737488351232) (hkc : ∀ k ∈ ks, ∀ x ∈ k, 0 ≤ x ∧ x < 65536) (hv : sF F 1 uv v.length (ic v)) (hvl : v.length ≤ 140737488351232) (hvc : ∀ x ∈ v, i64 x) (k : ∀ h, K (.bool true) h) :
    call Tryd.prog 3 #[u, .int .i64 p, um, uk, uv] K E ⟨F, M, N⟩ := by
  refine call_text mixed Tryd.func3 (by kernel_rfl) (t3 _ E _ _ _ _ _) (fun hw => ?_)
  have kn : ∀ {M : Nat → Option Chunk} {F : Nat → Option (List Value)} {N : Nat}, callv Tryd.prog (.func (.func 18) #[] #[]) #[] (fun v h => h.wf → ∃ h', h.wk h' ∧ (h'.wf → K v h')) E ⟨F, M, N⟩ := known_c (fun F' N' _ _ _ hc => ⟨_, wk_refl hc, fun _ => k _⟩)
  have fcn : fctsD F (.slice none 0 0) [] := ⟨[], sF.nil _ _ _, rowsF.nil _ _⟩
  have hlk : lenV uk = some (.int .i64 (ks.length : Nat)) := by obtain ⟨rows, h1, _⟩ := hk; obtain ⟨a, c, rfl, _⟩ := h1.form; rfl
  refine heavy_c hu fcn hul (by decide) (fun r1 hr1 => ?_)
  cases r1 with
  | true => try simp only [gdTT, gdFF, gdTF, gdFT, pvS, pickT, pickF, faP, lenS, capS, nilP, exA, exB, exC, notB, cndT, cndF, Bool.not_true, Bool.not_false, Nat.zero_add, Nat.add_zero]; exact kn
  | false =>
  try simp only [gdTT, gdFF, gdTF, gdFT, pvS, pickT, pickF, faP, lenS, capS, nilP, exA, exB, exC, notB, cndT, cndF, Bool.not_true, Bool.not_false, Nat.zero_add, Nat.add_zero]
  simp only [hlk]
  try simp only [gdTT, gdFF, gdTF, gdFT, pvS, pickT, pickF, faP, lenS, capS, nilP, exA, exB, exC, notB, cndT, cndF, Bool.not_true, Bool.not_false, Nat.zero_add, Nat.add_zero]
  refine gtr_r (fun h1 => ?_) (fun h1 => ?_)
  · try simp only [gdTT, gdFF, gdTF, gdFT, pvS, pickT, pickF, faP, lenS, capS, nilP, exA, exB, exC, notB, cndT, cndF, Bool.not_true, Bool.not_false, Nat.zero_add, Nat.add_zero]; exact kn
  try simp only [gdTT, gdFF, gdTF, gdFT, pvS, pickT, pickF, faP, lenS, capS, nilP, exA, exB, exC, notB, cndT, cndF, Bool.not_true, Bool.not_false, Nat.zero_add, Nat.add_zero]
  refine known_c (fun F1 N1 hF1 hN1 hw1 => ?_)
  try simp only [gdTT, gdFF, gdTF, gdFT, pvS, pickT, pickF, faP, lenS, capS, nilP, exA, exB, exC, notB, cndT, cndF, Bool.not_true, Bool.not_false, Nat.zero_add, Nat.add_zero]
  have hgd := dimsOf_good m (fun c hc => (hmc c hc).1)
  refine dof_c (hm.mono hF1) hml hmc (fun ul F2 N2 hw2 hF2 hN2 hd => ?_)
  refine facts_c hd ((hk.mono hF1).mono hF2) ((hv.mono hF1).mono hF2) (by have := hgd.2.1; omega) (fun d hd => by have := hgd.2.2 d hd; omega) hkc hkl hvl (fun uf F3 N3 hw3 hF3 hN3 hf => ?_)
  refine make_c hf (by rw [factsOf_len]; omega) (facts_okK hgd) (fun ux F4 N4 hw4 hF4 hN4 hx => ?_)
  have hF : subF F F4 := ((hF1.trans hF2).trans hF3).trans hF4
  refine tsound_c (hu.mono hF) hul (fun N5 hN5 hw5 => ?_)
  refine rtsound_c (hu.mono hF) hul (fun N6 hN6 hw6 => ?_)
  refine pv_r (v := .bool true) (by simp [binV, eqV]) ?_
  have hlx := tab_len ((factsOf (dimsOf m) ks v).map fr1)
  rw [List.length_map, factsOf_len] at hlx
  obtain ⟨la, lc, hlf⟩ := hd.form
  have hlul : lenV ul = some (.int .i64 ((dimsOf m).length : Nat)) := by rw [hlf]; rfl
  try simp only [gdTT, gdFF, gdTF, gdFT, pvS, pickT, pickF, faP, lenS, capS, nilP, exA, exB, exC, notB, cndT, cndF, Bool.not_true, Bool.not_false, Nat.zero_add, Nat.add_zero]
  simp only [hlul]
  try simp only [gdTT, gdFF, gdTF, gdFT, pvS, pickT, pickF, faP, lenS, capS, nilP, exA, exB, exC, notB, cndT, cndF, Bool.not_true, Bool.not_false, Nat.zero_add, Nat.add_zero]
  refine tsound_c hx (by omega) (fun N7 hN7 hw7 => ?_)
  rw [tabF_sound hgd hvc]
  try simp only [gdTT, gdFF, gdTF, gdFT, pvS, pickT, pickF, faP, lenS, capS, nilP, exA, exB, exC, notB, cndT, cndF, Bool.not_true, Bool.not_false, Nat.zero_add, Nat.add_zero]
  simp only [hlul]
  try simp only [gdTT, gdFF, gdTF, gdFT, pvS, pickT, pickF, faP, lenS, capS, nilP, exA, exB, exC, notB, cndT, cndF, Bool.not_true, Bool.not_false, Nat.zero_add, Nat.add_zero]
  refine rtsound_c hx (by omega) (fun N8 hN8 hw8 => ?_)
  rw [tabF_sound hgd hvc]
  try simp only [gdTT, gdFF, gdTF, gdFT, pvS, pickT, pickF, faP, lenS, capS, nilP, exA, exB, exC, notB, cndT, cndF, Bool.not_true, Bool.not_false, Nat.zero_add, Nat.add_zero]
  exact fun hc => ⟨_, wk_refl hc, fun _ => k _⟩
end Go.Proofs.YthpacapdaembpaaDoor.A
