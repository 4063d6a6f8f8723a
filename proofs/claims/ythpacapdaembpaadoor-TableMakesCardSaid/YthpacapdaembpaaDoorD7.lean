import Derived.Test.YthpacapdaembpaaDoorDS
open Go Go.RowKit Go.Proofs.YthpacapdaembpaaDoor.K Go.Proofs.YthpacapdaembpaaDoor.T
set_option linter.unusedVariables false
set_option linter.unusedSimpArgs false
namespace Go.Proofs.YthpacapdaembpaaDoor.A
variable {F F' : Nat → Option (List Value)} {M M' : Nat → Option Chunk} {N N' : Nat} {K : Kont} {E : PanK}
/-- (*sheet).sorted -/
theorem sorted_c {B g bm : Nat} {v : Value} {rows : List (List Value)} {t : List Rw} (h : isSheet F M B g bm v rows t) (hm : clean M N) (hl : t.length ≤ 1099511627776)
    (k : ∀ M' N' rows' t', N ≤ N' → own M' B 43 5 v t'.length rows'.flatten → rowsF (rowD F) 5 rows' t' → t.Perm t' → srt t' → (∀ q, q < B → M' q = M q) → clean M' N' → (Hp.mk F M' N').wf → K v ⟨F, M', N'⟩) :
    callv Tryd.prog (.func (.func 47) #[] #[]) #[.pointer (some ⟨g, 0, none⟩)] K E ⟨F, M, N⟩ := by
  refine callv_of_text mixed Tryd.func47 (by kernel_rfl) (t47 _ E _) (fun hw => ?_)
  have hgg := h.gg
  refine pv_r rfl (pv_r rfl (ldM (v := v) ?_))
  rcases Nat.eq_zero_or_pos t.length with h0 | h0
  · have ht : t = [] := List.eq_nil_of_length_eq_zero h0
    subst ht
    have hoo := h.oo
    obtain ⟨a, c, hv, _⟩ := h.oo.form
    rw [hv]
    refine sort_none (fun N' hN => ?_)
    refine pv_r rfl (pv_r rfl (ldM (v := v) fun hc => ⟨_, wk_refl hc, fun hw' => k M N' rows [] hN h.oo h.rr (List.Perm.refl _) .nil (fun _ _ => rfl) (hm.up hN) hw'⟩))
  · rcases h.oo.2 with ⟨_, hz⟩ | ⟨b, c, rest, rfl, hc1, hc2, hbB, hMb⟩
    · omega
    refine sort_c hMb h.rr h.nd h0 (by omega) (fun N' rows' t' hN hr' hp hs => ?_)
    have hbg : g ≠ b := fun e => h.vg.1 (by rw [e]; rfl)
    have hbN := hm.lt hMb
    refine pv_r rfl (pv_r rfl (ldM (v := .slice (some ⟨b, 0, none⟩) t.length c) ?_ ((upd_ne _ _ hbg).trans hgg)))
    refine fun hc => ⟨_, wk_refl hc, fun hw' => k _ _ rows' t' hN ⟨hr'.flen, .inr ⟨b, c, rest, by rw [hp.length_eq], by rw [← hp.length_eq]; exact hc1, hc2, hbB, upd_same _ _ _⟩⟩ hr' hp hs (fun q hq => upd_ne _ _ (by omega)) ((hm.set hbN _).up hN) hw'⟩
/-- A row of a fact. -/
def fr1 (f : Fc) : Rw := (f.1, ofC f.2)
/-- table.Make -/
theorem make_c {v : Value} {l : List Fc} (hv : fctsD F v l) (hl : l.length ≤ 1000000000) (hk : ∀ f ∈ l, okK f.1)
    (k : ∀ v' F' N', (Hp.mk F' M N').wf → subF F F' → N ≤ N' → tblD F' v' (tab (l.map fr1)) → K v' ⟨F', M, N'⟩) :
    callv Tryd.prog (.func (.func 20) #[] #[]) #[v] K E ⟨F, M, N⟩ := by
  refine callv_of_text mixed Tryd.func20 (by kernel_rfl) (t20 _ E _) (fun hw => ?_)
  have hm : clean M N := hw.m
  refine blank_c (fun g bm N1 hbm hg hN1 hw1 => ?_)
  obtain ⟨frs, hvs, hrs⟩ := hv
  refine lenF_r hvs ?_
  refine l20_1_1_0_1_0_0 (σ := Nat) (fun i => .int .i64 (i : Nat))
    (fun i h => ∃ F' M' N' v' rows, h = ⟨F', M', N'⟩ ∧ subF F F' ∧ N ≤ N' ∧ (∀ q, q < N → M' q = M q) ∧ clean M' N' ∧ i ≤ l.length ∧ isSheet F' M' N g bm v' rows (sheet ((l.take i).map fr1))) (fun i => l.length - i) 0 rfl
    (fun hwx => ⟨_, wk_refl hwx, F, _, N1, .slice none 0 0, [], rfl, subF.refl _, by omega, fun q hq => (upd_ne _ _ (by omega)).trans (upd_ne _ _ (by omega)), hw1.m, Nat.zero_le _,
      ⟨upd_same _ _ _, by omega, hbm, ⟨#[], 0, (upd_ne _ _ (by omega)).trans (upd_same _ _ _), by simp [mapOK, sheet]⟩, own.nil, rowsF.nil _ _, .nil⟩⟩) (fun k1 i j h1 hI hwx next => ?_)
  obtain ⟨F1, M1, N2, v1, rows, rfl, hF1, hN2, hM1, hm1, hi, hS⟩ := hI
  have hsl : ∀ i, (sheet ((l.take i).map fr1)).length ≤ 1000000000 := fun i => by
    have : ∀ (m : List Rw) (s : List Rw), (m.foldl (fun t r => layP t r.1 r.2) s).length ≤ s.length + m.length := by
      intro m
      induction m with
      | nil => intro s; simp
      | cons r m ih => intro s; have := ih (layP s r.1 r.2); have h2 := layP_len s r.1 r.2; simp at this ⊢; omega
    have h3 := this ((l.take i).map fr1) []
    unfold sheet
    rw [List.length_map, List.length_take] at h3
    simp at h3 ⊢; omega
  refine lss_r (fun hlt => ?_) (fun hge => ?_)
  · have hlt' : i < l.length := by omega
    refine cnd_t ?_
    refine row_r (hvs.mono hF1) (hrs.mono fun _ _ h => h.mono hF1) (by decide) hlt' (fun p r _ hR hrl hr1 => ?_)
    obtain ⟨kv, hre, hkv, hkl⟩ := hR
    subst hre
    refine nw_r (fun b1 hb1 => ?_)
    refine stM (cs' := [kv, .int .i64 l[i].2]) ?_ (upd_same _ _ _) rfl rfl (by obtain ⟨a, c, rfl, _⟩ := hkv.form; exact List.all_eq_true.1 rfl)
    refine pv_r rfl (ldM (v := kv) (pv_r rfl (ldM (v := .int .i64 l[i].2) ?_)))
    refine of_c (fun N3 hN3 hw3 => ?_)
    refine ⟨ldV_c (row_M (upd_same _ _ _)) rfl, ?_⟩
    rw [upd_upd] at hw3 ⊢
    have hok := hk l[i] (List.getElem_mem _)
    refine lay_c (hS.keep (subF.refl _) (upd_keep hm1 hb1 _)) hw3.m (by omega) hkv (Nat.le_trans hok.1 (by decide)) hok.2 (by have := hsl i; omega) (fun F4 M4 N4 v4 rows4 hF4 hN4 hS4 hM4 hm4 hw4 => ?_)
    refine inc_r (by omega) ?_
    refine next (i + 1) _ _ (by omega) (fun hw5 => ⟨_, wk_refl hw5, F4, M4, N4, v4, rows4, rfl, hF1.trans hF4, by omega, fun q hq => (hM4 q hq).trans ((upd_ne _ _ (by omega)).trans (hM1 q hq)), hm4, by omega, ?_⟩)
    rw [List.take_add_one, List.getElem?_eq_getElem hlt', Option.toList_some, List.map_append, List.map_singleton, sheet_snoc]
    exact hS4
  · refine cnd_f ?_
    rw [t20_1_1_1]
    have e : l.take i = l := List.take_of_length_le (by omega)
    have hs2 := hsl i
    rw [e] at hS hs2
    refine sorted_c hS hm1 (by omega) (fun M4 N4 rows4 t' hN4 ho4 hr4 hp hs hM4 hm4 hw4 hc => ?_)
    rw [sheet_sorted hp hs] at ho4 hr4
    have hMM : ∀ q, q < N → M4 q = M q := fun q hq => (hM4 q hq).trans (hM1 q hq)
    exact ⟨_, frz_wf hm hMM hc, fun hw' => k v1 _ N4 hw' (hF1.trans (subF_frzAll hc)) (by omega) (tbl_frz hc ho4 hr4)⟩
end Go.Proofs.YthpacapdaembpaaDoor.A
