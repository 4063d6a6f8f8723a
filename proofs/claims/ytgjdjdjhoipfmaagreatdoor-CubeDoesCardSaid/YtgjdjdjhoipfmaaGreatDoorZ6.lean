import Derived.Test.YtgjdjdjhoipfmaaGreatDoorZ5
import Derived.Test.YtgjdjdjhoipfmaaGreatDoorZ4
import Derived.Test.YtgjdjdjhoipfmaaGreatDoorProg
import Derived.Test.YtgjdjdjhoipfmaaGreatDoorZ1
set_option maxHeartbeats 4000000
open Go Go.RowKit Go.Proofs.YtgjdjdjhoipfmaaGreatDoor.K Go.Proofs.YtgjdjdjhoipfmaaGreatDoor.T
set_option linter.unusedVariables false
set_option linter.unusedSimpArgs false
namespace Go.Proofs.YtgjdjdjhoipfmaaGreatDoor.A
variable {F F' : Nat → Option (List Value)} {M M' : Nat → Option Chunk} {N N' : Nat} {K : Kont} {E : PanK}
theorem tillF_take {h : List En} (t : Int) {i : Nat} (hi : i < h.length) : tillF (h.take (i + 1)) t = tillF (h.take i) t ++ (if h[i].1 ≤ t then h[i].2 else []) := by
  unfold tillF
  rw [filter_take _ _ hi]
  unfold allF
  rw [List.map_append, List.flatten_append]
  by_cases hc : h[i].1 ≤ t <;> simp [hc]
theorem allF_app (a b : List En) : allF (a ++ b) = allF a ++ allF b := by unfold allF; rw [List.map_append, List.flatten_append]
theorem allF_filter (p : En → Bool) : ∀ h : List En, (allF (h.filter p)).length ≤ (allF h).length
  | [] => Nat.le_refl _
  | e :: h => by
    have ih := allF_filter p h
    by_cases hp : p e = true
    · rw [List.filter_cons_of_pos hp, allF_cons, allF_cons, List.length_append, List.length_append]; omega
    · rw [List.filter_cons_of_neg hp, allF_cons, List.length_append]; omega
theorem allF_takeLe (h : List En) (i : Nat) : (allF (h.take i)).length ≤ (allF h).length := by
  conv => rhs; rw [← List.take_append_drop i h]
  rw [allF_app, List.length_append]; omega
theorem tillF_le (h : List En) (t : Int) (i : Nat) : (tillF (h.take i) t).length ≤ (allF h).length := by
  have h1 := allF_filter (fun e => decide (e.1 ≤ t)) (h.take i)
  have h2 := allF_takeLe h i
  unfold tillF; omega
theorem tillF_mem {h : List En} {t : Int} {f : Fc} (hf : f ∈ tillF h t) : ∃ e ∈ h, f ∈ e.2 := by
  unfold tillF allF at hf
  obtain ⟨x, hx, hfx⟩ := List.mem_flatten.1 hf
  obtain ⟨e, he, rfl⟩ := List.mem_map.1 hx
  exact ⟨e, (List.mem_filter.1 he).1, hfx⟩
set_option maxRecDepth 10000 in
set_option maxHeartbeats 2000000 in
theorem rquery_c {g : Nat} {dv lv : Value} {cs : List Value} {l : List Dm} {h : List En} {t : Int} {m lo hi : List Int} (hC : isRef F M g dv lv l h) (hdl : l.length ≤ 140737488351232) (hl : h.length ≤ 5000) (hT : (allF h).length ≤ 1000000) (hk : ∀ e ∈ h, ∀ f ∈ e.2, okK f.1) (hq : queryD F cs m lo hi) (hmi : ∀ x ∈ m, i64 x) (hok : ∀ r ∈ tab ((tillF h t).map fr1), okK r.1)
    (k : ∀ v' F' N', (Hp.mk F' M N').wf → subF F F' → N ≤ N' → tblD F' v' (runT l (tab ((tillF h t).map fr1)) m lo hi) → K (.tuple #[v', .int .i64 ((runE l (tab ((tillF h t).map fr1)) m lo hi : Nat) : Int)]) ⟨F', M, N'⟩) :
    callv Tryz.prog (.func (.func 24) #[] #[]) #[.pointer (some ⟨g, 0, none⟩), .agg cs.toArray, .int .u32 t] K E ⟨F, M, N⟩ := by
  refine callv_of_text mixed Tryz.func24 (by kernel_rfl) (t24 _ E _ _ _) (fun hw => ?_)
  have hm : clean M N := hw.m
  have hq' := hq
  obtain ⟨qa, qb, qc, rfl, hqa, hqb, hqc, hml, hlol, hhil⟩ := hq'
  have hgN := hm.lt hC.gg
  have hlv : lenV lv = some (.int .i64 (h.length : Nat)) := by obtain ⟨x, c, e⟩ := hC.ll.form; rw [e]; rfl
  have hll := hC.ll
  obtain ⟨erows, hl1, hl2⟩ := hll
  refine nw_r (cs := [qa, qb, qc]) (fun b1 hb1 => ?_)
  obtain ⟨M1, hM1e⟩ : ∃ M1, M1 = upd M b1 (some (.cells 36 [qa, qb, qc] [qa, qb, qc].length)) := ⟨_, rfl⟩
  rw [← hM1e]
  have hbox : M1 b1 = some (.cells 36 [qa, qb, qc] 3) := by rw [hM1e]; exact upd_same _ _ _
  have hg1 : M1 g = some (.cells 102 [dv, lv] 2) := by rw [hM1e]; exact (upd_ne _ _ (by omega)).trans hC.gg
  have hM1 : ∀ q, q < N → M1 q = M q := fun q hq => by rw [hM1e]; exact upd_ne _ _ (by omega)
  have hm1 : clean M1 (b1 + 1) := by rw [hM1e]; exact hm.new hb1 _
  clear hM1e
  obtain ⟨N1, hN1⟩ : ∃ n, n = b1 + 1 := ⟨_, rfl⟩
  rw [← hN1] at hm1 ⊢
  refine l24_1_1_0_1_0_0 (σ := Nat × Value) (fun s => s.2) (fun s => .int .i64 (s.1 : Nat))
    (fun s h' => ∃ M' N' frs, h' = ⟨F, M', N'⟩ ∧ N1 ≤ N' ∧ (∀ q, q < N1 → M' q = M1 q) ∧ clean M' N' ∧ s.1 ≤ h.length ∧ own M' N1 48 2 s.2 (tillF (h.take s.1) t).length frs.flatten ∧ rowsF (fctD F) 2 frs (tillF (h.take s.1) t)) (fun s => h.length - s.1) (0, .slice none 0 0) rfl rfl
    (fun hw2 => ⟨_, wk_refl hw2, M1, N1, [], rfl, Nat.le_refl _, fun _ _ => rfl, hm1, Nat.zero_le _, own.nil, rowsF.nil _ _⟩) (fun kk s j h1 hI hw2 next => ?_)
  rw [t24_1_1_0_1_0_0]
  obtain ⟨M2, N2, frs, rfl, hN2, hM2, hm2, hi2, hoa, hra⟩ := hI
  have hg2 := (hM2 g (by omega)).trans hg1
  try simp only [sS]
  refine ldM (v := lv) ?_ hg2
  refine pv_r hlv ?_
  refine lss_r (fun hlt => ?_) (fun hge => ?_)
  · have i1 : s.1 < h.length := by omega
    have et := tillF_take t i1
    have hle := tillF_le h t (s.1 + 1)
    rw [et, List.length_append] at hle
    try simp only [sS]
    refine ldM (v := lv) ?_ hg2
    refine fld_r hl1 hl2 (by decide) i1 (off := 0) (by decide) fun p z r y hR _ hy => ?_
    obtain ⟨fv, rfl, hfv⟩ := hR.at
    have hy' : y = .int .u32 h[s.1].1 := by simpa using hy.symm
    subst hy'
    refine leq_r (fun hc => ?_) (fun hc => ?_)
    · rw [if_pos hc] at et hle
      try simp only [sS]
      refine ldM (v := lv) ?_ hg2
      refine fld_r hl1 hl2 (by decide) i1 (off := 1) (by decide) fun p z r y hR _ hy => ?_
      obtain ⟨fv, rfl, hfv⟩ := hR.at
      have hy' : y = fv := by simpa using hy.symm
      subst hy'
      obtain ⟨frows, hf1, hf2⟩ := hfv
      refine hoa.app hm2 (by omega) hf1.sR hf2.f1 (by omega) (by unfold maxLen; omega) (fun w' M3 N3 h4 h5 h6 h7 => ?_)
      rw [t24_1_1_0_1_0_0_1_1]
      refine inc_r (by omega) ?_
      refine next (s.1 + 1, w') _ _ (by simp only; omega) (fun hw4 => ⟨_, wk_refl hw4, M3, N3, frs ++ frows, rfl, by omega, fun q hq => ?_, h7, i1, ?_, ?_⟩)
      · exact ((h5 q (fun e => by have := (hoa.ge q e).1; omega) (by omega)).1).trans (hM2 q hq)
      · simp only
        rw [et, List.length_append, List.flatten_append]; exact h4
      · simp only
        rw [et]; exact rows_app hra hf2
    · rw [if_neg hc, List.append_nil] at et
      try simp only [sS]
      rw [t24_1_1_0_1_0_0_1_1]
      refine inc_r (by omega) ?_
      refine next (s.1 + 1, s.2) _ _ (by simp only; omega) (fun hw4 => ⟨_, wk_refl hw4, M2, N2, frs, rfl, hN2, hM2, hm2, i1, ?_, ?_⟩)
      · simp only
        rw [et]; exact hoa
      · simp only
        rw [et]; exact hra
  · try simp only [sS]
    rw [List.take_of_length_le (by omega)] at hoa hra
    have hle := tillF_le h t h.length
    rw [List.take_length] at hle
    have hbq := (hM2 b1 (by omega)).trans hbox
    try simp only [sS]
    refine ldM (v := dv) ?_ hg2
    refine ldMa (vs := [qa, qb, qc]) ?_ hbq
    refine callv_go (fun hc' => ⟨_, wk_P (p := fun q => s.2.ownBlock = some q) hc', ?_⟩)
    have hs9 := subF_frzP (p := fun q => s.2.ownBlock = some q) hc'
    have hfa : fctsD (frzP F M2 (fun q => s.2.ownBlock = some q)) s.2 (tillF h t) := ⟨frs, hoa.frzP (fun q h => h), hra.mono fun _ _ h => h.mono hs9⟩
    have hnb : ∀ q, q < N1 → ¬ s.2.ownBlock = some q := fun q hq e => by have := (hoa.ge q e).1; omega
    have hg9 := (keepM_in (M := M2) (p := fun q => ¬ s.2.ownBlock = some q) (hnb g (by omega))).trans hg2
    have hb9 := (keepM_in (M := M2) (p := fun q => ¬ s.2.ownBlock = some q) (hnb b1 (by omega))).trans hbq
    have hM9 : ∀ q, q < N → keepM M2 (fun q => ¬ s.2.ownBlock = some q) q = M q := fun q hq => (keepM_in (hnb q (by omega))).trans ((hM2 q (by omega)).trans (hM1 q hq))
    generalize frzP F M2 _ = F9 at *
    generalize keepM M2 _ = M9 at *
    refine rmake_c hfa (by omega) (fun f hf => ?_) (fun vt F10 N10 hw10 hF10 hN10 ht => ?_)
    · obtain ⟨e, he, hfx⟩ := tillF_mem hf
      exact (hk e he f hfx).1
    refine ⟨ldV_a (row_M hb9) (by exact Nat.le_of_ble_eq_true rfl) rfl, ldV_c (row_M hg9) rfl, ?_⟩
    have F0A := hs9.trans hF10
    have htl := tab_len ((tillF h t).map fr1)
    rw [List.length_map] at htl
    refine rrun_c (hC.dd.mono F0A) hdl ht (by omega) (hq.mono F0A) hmi (fun r hr => (hok r hr).2) (fun _ r hr => (hok r hr).1) (fun v11 F11 N11 hw11 hF11 hN11 h11 => ?_)
    try simp only [sS]
    exact fun hc => ⟨_, frz_wf hm hM9 hc, fun hw' => k _ _ _ hw' ((F0A.trans hF11).trans (subF_frzAll hc)) (by omega) (h11.mono (subF_frzAll hc))⟩
def lastT (es : List En) (i : Nat) : Int := if h : 0 < i ∧ i ≤ es.length then es[i - 1].1 else 0
theorem lastT_succ {es : List En} {i : Nat} (h : i < es.length) : lastT es (i + 1) = es[i].1 := by
  unfold lastT; rw [dif_pos ⟨by omega, by omega⟩]; rfl
theorem all_no {α : Type} {p : α → Bool} {l : List α} {i : Nat} (hi : i < l.length) (h : p l[i] = false) : l.all p = false := List.all_eq_false.2 ⟨l[i], List.getElem_mem hi, by rw [h]; decide⟩
set_option maxRecDepth 10000 in
set_option maxHeartbeats 2000000 in
theorem rright13_c {g : Nat} {dv lv ev : Value} {l : List Dm} {es : List En} {a b : Int} (hg : M g = some (.cells 102 [dv, lv] 2)) (hd : dimsD F dv l) (hdl : l.length ≤ 1000) (hes : entsD F ev es) (hel : es.length ≤ 140737488351232) (ht0 : ∀ e ∈ es, 0 ≤ e.1)
    (k : ∀ N', (Hp.mk F M N').wf → N ≤ N' → K (.bool (rightF l a b 0 es)) ⟨F, M, N'⟩) :
    callv Tryz.prog (.func (.func 84) #[] #[]) #[.pointer (some ⟨g, 0, none⟩), .int .i64 a, .int .i64 b, ev] K E ⟨F, M, N⟩ := by
  refine callv_of_text mixed Tryz.func84 (by kernel_rfl) (t84 _ E _ _ _ _) (fun hw => ?_)
  obtain ⟨erows, he1, he2⟩ := hes
  refine l84_1_0_1_0_0 (σ := Nat) (fun i => .int .i64 (i : Nat)) (fun i h' => ∃ N', h' = ⟨F, M, N'⟩ ∧ N ≤ N' ∧ i ≤ es.length ∧ rightF l a b 0 es = rightF l a b (lastT es i) (es.drop i)) (fun i => es.length - i) 0 rfl
    (fun hw2 => ⟨_, wk_refl hw2, N, rfl, Nat.le_refl _, Nat.zero_le _, by unfold lastT; rw [dif_neg (by omega)]; rfl⟩) (fun kk i j h1 hI hw2 next => ?_)
  rw [t84_1_0_1_0_0]
  obtain ⟨N1, rfl, hN1, hi, hrt⟩ := hI
  refine lenF_r he1 ?_
  refine lss_r (fun hlt => ?_) (fun hge => ?_)
  · have i1 : i < es.length := by omega
    have hp0 := ht0 _ (List.getElem_mem i1)
    rw [List.drop_eq_getElem_cons i1, rightF_eq] at hrt
    have no : ∀ {N'}, N ≤ N' → rightF l a b 0 es = false → ∀ h', h' = (⟨F, M, N'⟩ : Hp) → h'.wf → ∃ h'', h'.wk h'' ∧ (h''.wf → K (.bool false) h'') := fun hN hf h' e' hc => by
      subst e'
      exact ⟨_, wk_refl hc, fun hw' => by have := k _ hw' hN; rw [hf] at this; exact this⟩
    have hl0 : 0 ≤ lastT es i := by
      unfold lastT
      split
      · exact ht0 _ (List.getElem_mem _)
      · exact Int.le_refl _
    try simp only [sS]
    refine fld_r he1 he2 (by decide) i1 (off := 0) (by decide) fun p z r y hR _ hy => ?_
    obtain ⟨fv, rfl, hfv⟩ := hR.at
    have hy' : y = .int .u32 es[i].1 := by simpa using hy.symm
    subst hy'
    refine eql_r (fun h2 => ?_) (fun h2 => ?_)
    · try simp only [sS]
      rw [decide_eq_false (by omega), Bool.false_and, Bool.false_and] at hrt
      exact no hN1 hrt _ rfl
    have fits : lastT es i < es[i].1 → ∀ (h' : Hp), True := fun _ _ => trivial
    clear fits
    try simp only [sS]
    refine gtr_r (fun h3 => ?_) (fun h3 => ?_)
    have i0 : 0 < i := by omega
    have hle : lastT es i = es[i - 1].1 := by unfold lastT; rw [dif_pos ⟨i0, by omega⟩]
    try simp only [sS]
    refine fld_r he1 he2 (by decide) i1 (off := 0) (by decide) fun p z r y hR _ hy => ?_
    obtain ⟨fv, rfl, hfv⟩ := hR.at
    have hy' : y = .int .u32 es[i].1 := by simpa using hy.symm
    subst hy'
    refine sub_n (a := i) (b := 1) i0 (by omega) ?_
    refine fld_r he1 he2 (by decide) (by omega : i - 1 < es.length) (off := 0) (by decide) fun p z r y hR _ hy => ?_
    obtain ⟨fv, rfl, hfv⟩ := hR.at
    have hy' : y = .int .u32 es[i - 1].1 := by simpa using hy.symm
    subst hy'
    refine leq_r (fun h4 => ?_) (fun h4 => ?_)
    · try simp only [sS]
      rw [decide_eq_false (by omega), Bool.false_and, Bool.false_and] at hrt
      exact no hN1 hrt _ rfl
    have hlt3 : lastT es i < es[i].1 := by omega
    rotate_left
    have hlt3 : lastT es i < es[i].1 := by
      have : lastT es i = 0 := by unfold lastT; rw [dif_neg (by omega)]
      omega
    all_goals
      rw [decide_eq_true hlt3, Bool.true_and] at hrt
      try simp only [sS]
      refine fld_r he1 he2 (by decide) i1 (off := 1) (by decide) fun p z r y hR _ hy => ?_
      obtain ⟨fv, rfl, hfv, hfvl⟩ := hR
      have hy' : y = fv := by simpa using hy.symm
      subst hy'
      refine rfits_c hg hd (by omega) hfv hfvl (fun N3 hN3 hw3 => ?_)
      cases hfit : fitsF l es[i].2
      · rw [hfit, Bool.false_and] at hrt
        try simp only [sS]
        exact no (by omega) hrt _ rfl
      rw [hfit, Bool.true_and] at hrt
      try simp only [sS]
      refine l84_1_0_1_0_0_1_0_0_1_1_0_0 (σ := Nat) (fun q => .int .i64 (q : Nat)) (fun q h' => ∃ N', h' = ⟨F, M, N'⟩ ∧ N3 ≤ N' ∧ q ≤ es[i].2.length ∧ ∀ f ∈ es[i].2.take q, inR a b f = true) (fun q => es[i].2.length - q) 0 rfl
        (fun hw4 => ⟨_, wk_refl hw4, N3, rfl, Nat.le_refl _, Nat.zero_le _, by simp⟩) (fun kk2 q j2 h2' hI2 hw4 next2 => ?_)
      rw [t84_1_0_1_0_0_1_0_0_1_1_0_0]
      obtain ⟨N4, rfl, hN4, hq, hall⟩ := hI2
      try simp only [sS]
      refine fld_r he1 he2 (by decide) i1 (off := 1) (by decide) fun p z r y hR _ hy => ?_
      obtain ⟨fv, rfl, hfv⟩ := hR.at
      have hy' : y = fv := by simpa using hy.symm
      subst hy'
      obtain ⟨orows, hfv1, hfv2⟩ := hfv
      refine lenF_r hfv1 ?_
      refine lss_r (fun hlt4 => ?_) (fun hge4 => ?_)
      · have q1 : q < es[i].2.length := by omega
        try simp only [sS]
        refine fld_r he1 he2 (by decide) i1 (off := 1) (by decide) fun p z r y hR _ hy => ?_
        obtain ⟨fv, rfl, hfv⟩ := hR.at
        have hy' : y = fv := by simpa using hy.symm
        subst hy'
        obtain ⟨orows, hfv1, hfv2⟩ := hfv
        refine row_r hfv1 hfv2 (by decide) q1 (fun p r _ hR hrl hr1 => rinR_c hR (fun N5 hN5 hw5 => ?_))
        cases hp : inR a b es[i].2[q]
        · try simp only [sS]
          rw [all_no q1 hp, Bool.false_and] at hrt
          exact no (by omega) hrt _ rfl
        · try simp only [sS]
          refine inc_r (by omega) ?_
          refine next2 (q + 1) _ _ (by omega) (fun hw6 => ⟨_, wk_refl hw6, N5, rfl, by omega, q1, fun f hf => ?_⟩)
          rw [List.take_add_one, List.getElem?_eq_getElem q1, Option.toList_some] at hf
          rcases List.mem_append.1 hf with hf | hf
          · exact hall f hf
          · rw [List.mem_singleton.1 hf]; exact hp
      · try simp only [sS]
        rw [List.take_of_length_le (by omega)] at hall
        rw [List.all_eq_true.2 hall, Bool.true_and] at hrt
        refine inc_r (by omega) ?_
        exact next (i + 1) _ _ (by omega) (fun hw6 => ⟨_, wk_refl hw6, N4, rfl, by omega, i1, by rw [lastT_succ i1]; exact hrt⟩)
  · try simp only [sS]
    rw [List.drop_eq_nil_of_le (by omega), rightF_nil] at hrt
    exact fun hc => ⟨_, wk_refl hc, fun hw' => by have := k _ hw' hN1; rw [hrt] at this; exact this⟩
end Go.Proofs.YtgjdjdjhoipfmaaGreatDoor.A
open Go Go.RowKit Go.Proofs.YtgjdjdjhoipfmaaGreatDoor.K Go.Proofs.YtgjdjdjhoipfmaaGreatDoor.T
set_option linter.unusedVariables false
set_option linter.unusedSimpArgs false
namespace Go.Proofs.YtgjdjdjhoipfmaaGreatDoor.A
variable {F F' : Nat → Option (List Value)} {M M' : Nat → Option Chunk} {N N' : Nat} {K : Kont} {E : PanK}
theorem layAll_take' (h es : List En) {i : Nat} (hi : i < es.length) : layAll h (es.take (i + 1)) = lay1 (layAll h (es.take i)) es[i] := by
  unfold layAll
  rw [List.take_add_one, List.getElem?_eq_getElem hi, Option.toList_some, List.foldl_append]; rfl
theorem lay1_all {P : En → Prop} {h : List En} {e : En} (h0 : P e) (ha : ∀ d : En, d.1 = e.1 → P d → P (e.1, d.2 ++ e.2)) (hp : ∀ d ∈ h, P d) : ∀ d ∈ lay1 h e, P d := by
  unfold lay1
  split
  · exact withR_all h0 ha hp
  · exact hp
theorem layAll_all {P : En → Prop} (ha : ∀ e d : En, P e → P d → P (e.1, d.2 ++ e.2)) : ∀ {es h : List En}, (∀ d ∈ h, P d) → (∀ e ∈ es, P e) → ∀ d ∈ layAll h es, P d
  | [], h, hp, _ => hp
  | e :: es, h, hp, he => layAll_all ha (es := es) (h := lay1 h e) (lay1_all (he e List.mem_cons_self) (fun d _ hd => ha e d (he e List.mem_cons_self) hd) hp) fun x hx => he x (List.mem_cons_of_mem _ hx)
set_option maxRecDepth 10000 in
set_option maxHeartbeats 4000000 in
theorem rrepl_c {g : Nat} {dv lv ev : Value} {l : List Dm} {h es : List En} {a b : Int} (hC : isRef F M g dv lv l h) (o : okH l 5000 200 h) (hdl : l.length ≤ 1000) (hes : entsD F ev es) (hel : es.length ≤ 140737488351232) (heT : ∀ e ∈ es, e.1 < 4294967296) (ht0 : ∀ e ∈ es, 0 ≤ e.1)
    (k : ∀ lv' F' M' N', subF F F' → isRef F' M' g dv lv' l (replF l a b h es) → (∀ q, q ≠ g → q < N → M' q = M q) → N ≤ N' → (Hp.mk F' M' N').wf → K (.int .i64 ((replE l a b h es : Nat) : Int)) ⟨F', M', N'⟩) :
    callv Tryz.prog (.func (.func 46) #[] #[]) #[.pointer (some ⟨g, 0, none⟩), .int .i64 a, .int .i64 b, ev] K E ⟨F, M, N⟩ := by
  refine callv_of_text mixed Tryz.func46 (by kernel_rfl) (t46 _ E _ _ _ _) (fun hw => ?_)
  have hm : clean M N := hw.m
  have hgN := hm.lt hC.gg
  have hol := o.le
  have hlv : lenV lv = some (.int .i64 (h.length : Nat)) := by obtain ⟨x, c, e⟩ := hC.ll.form; rw [e]; rfl
  have hll := hC.ll
  obtain ⟨erows, hl1, hl2⟩ := hll
  have same : ∀ n : Nat, n ≠ 0 → n = replE l a b h es → ∀ F' M' N', subF F F' → N ≤ N' → (∀ q, q < N → M' q = M q) → ∀ h', h' = (⟨F', M', N'⟩ : Hp) → h'.wf → ∃ h'', h'.wk h'' ∧ (h''.wf → K (.int .i64 ((n : Nat) : Int)) h'') := fun n n0 e F' M' N' hF hN hM h' e' hc => by
    subst e'
    refine ⟨_, wk_refl hc, fun hw' => ?_⟩
    rw [e]
    refine k lv F' M' N' hF ?_ (fun q _ hq => hM q hq) hN hw'
    unfold replF; rw [if_neg (by omega)]; exact hC.keep hF (hM g hgN)
  refine rright13_c hC.gg hC.dd hdl hes (by omega) ht0 (fun N1 hw1 hN1 => ?_)
  cases hrt : rightF l a b 0 es
  · try simp only [sS]
    exact same 1 (by decide) (by unfold replE; rw [if_pos hrt]) F M N1 (subF.refl _) hN1 (fun _ _ => rfl) _ rfl
  have hrE : replE l a b h es = if 5000 < (replH a b h es).length ∨ longH (replH a b h es) = true then 3 else 0 := by unfold replE; rw [if_neg (by rw [hrt]; decide)]
  obtain ⟨er1, er2⟩ := rightF_all hrt
  have hen := rightF_len hrt (by decide : (0 : Int) < 4294967296) heT
  have oR := o.rest a b
  try simp only [sS]
  refine l46_1_1_1_0_1_0_0 (σ := Nat × Value) (fun s => s.2) (fun s => .int .i64 (s.1 : Nat))
    (fun s h' => ∃ F' M' N' rows', h' = ⟨F', M', N'⟩ ∧ subF F F' ∧ N ≤ N' ∧ (∀ q, q < N → M' q = M q) ∧ clean M' N' ∧ s.1 ≤ h.length ∧ own M' N 52 2 s.2 (restH a b (h.take s.1)).length rows'.flatten ∧ rowsF (entD F') 2 rows' (restH a b (h.take s.1))) (fun s => h.length - s.1) (0, .slice none 0 0) rfl rfl
    (fun hw2 => ⟨_, wk_refl hw2, F, M, N1, [], rfl, subF.refl _, hN1, fun _ _ => rfl, hw1.m, Nat.zero_le _, own.nil, rowsF.nil _ _⟩) (fun kk s j h1 hI hw2 next => ?_)
  rw [t46_1_1_1_0_1_0_0]
  obtain ⟨F1, M1, N2, rows1, rfl, hF1, hN2, hM1, hm1, hi, ho, hr⟩ := hI
  have hg1 := (hM1 g hgN).trans hC.gg
  try simp only [sS]
  refine ldM (v := lv) ?_ hg1
  refine pv_r hlv ?_
  refine lss_r (fun hlt => ?_) (fun hge => ?_)
  · have i1 : s.1 < h.length := by omega
    have e1 := take_fm (restE a b) h i1
    have hle : (restH a b (h.take s.1)).length ≤ s.1 := fm_len (restE a b) h s.1
    have hfm := o.fl _ (List.getElem_mem i1)
    try simp only [sS]
    refine ldM (v := lv) ?_ hg1
    refine fld_r (hl1.mono hF1) (hl2.mono fun _ _ h => h.mono hF1) (by decide) i1 (off := 0) (by decide) fun p z r y hR _ hy => ?_
    obtain ⟨fv, rfl, hfv⟩ := hR.at
    have hy' : y = .int .u32 h[s.1].1 := by simpa using hy.symm
    subst hy'
    refine pv_r (v := .agg #[.int .u32 h[s.1].1, .slice none 0 0]) (by kernel_rfl) ?_
    refine nw_r (fun b13 hb13 => ?_)
    refine stM (cs' := [.int .u32 h[s.1].1, .slice none 0 0]) ?_
    rw [upd_upd]
    obtain ⟨M2, hM2e⟩ : ∃ M2, M2 = upd M1 b13 (some (.cells 52 [.int .u32 h[s.1].1, .slice none 0 0] [Value.int .u32 0, Value.slice none 0 0].length)) := ⟨_, rfl⟩
    rw [← hM2e]
    have hbox : M2 b13 = some (.cells 52 [.int .u32 h[s.1].1, .slice none 0 0] 2) := by rw [hM2e]; exact upd_same _ _ _
    have hM2 : ∀ q, q < b13 → M2 q = M1 q := fun q hq => by rw [hM2e]; exact upd_ne _ _ (by omega)
    have hm2 : clean M2 (b13 + 1) := by rw [hM2e]; exact hm1.new hb13 _
    have ho2 : own M2 N 52 2 s.2 (restH a b (h.take s.1)).length rows1.flatten := by rw [hM2e]; exact ho.box hm1 hb13 _
    have hob : ∀ q, s.2.ownBlock = some q → q < b13 := fun q hq => by have := ho.lt hm1 q hq; omega
    clear hM2e
    try simp only [sS]
    refine l46_1_1_1_0_1_0_0_1_0_0_1_0_1_0_0 (σ := Nat) (fun q => .int .i64 (q : Nat))
      (fun q h' => ∃ M' N' ov frows, h' = ⟨F1, M', N'⟩ ∧ b13 < N' ∧ (∀ x, x < b13 → M' x = M2 x) ∧ clean M' N' ∧ q ≤ h[s.1].2.length ∧ M' b13 = some (.cells 52 [.int .u32 h[s.1].1, ov] 2) ∧ own M' (b13 + 1) 48 2 ov ((h[s.1].2.take q).filter (outR a b)).length frows.flatten ∧ rowsF (fctD F1) 2 frows ((h[s.1].2.take q).filter (outR a b))) (fun q => h[s.1].2.length - q) 0 rfl
      (fun hw3 => ⟨_, wk_refl hw3, M2, b13 + 1, .slice none 0 0, [], rfl, Nat.lt_succ_self _, fun _ _ => rfl, hm2, Nat.zero_le _, hbox, own.nil, rowsF.nil _ _⟩) (fun kk2 q j2 h2 hI2 hw3 next2 => ?_)
    rw [t46_1_1_1_0_1_0_0_1_0_0_1_0_1_0_0]
    obtain ⟨M3, N3, ov, frows, rfl, hN3, hM3, hm3, hq, hb3, hof, hfr⟩ := hI2
    have hg3 := (hM3 g (by omega)).trans ((hM2 g (by omega)).trans hg1)
    have hle2 := filter_le (outR a b) h[s.1].2 q
    obtain ⟨oa, oc, oe, _⟩ := hof.form
    try simp only [sS]
    refine ldM (v := lv) ?_ hg3
    refine fld_r (hl1.mono hF1) (hl2.mono fun _ _ h => h.mono hF1) (by decide) i1 (off := 1) (by decide) fun p z r y hR _ hy => ?_
    obtain ⟨fv, rfl, hfv⟩ := hR.at
    have hy' : y = fv := by simpa using hy.symm
    subst hy'
    obtain ⟨orows, hfv1, hfv2⟩ := hfv
    refine lenF_r hfv1 ?_
    refine lss_r (fun hlt2 => ?_) (fun hge2 => ?_)
    · have q1 : q < h[s.1].2.length := by omega
      have ef := filter_take (outR a b) h[s.1].2 q1
      try simp only [sS]
      refine ldM (v := lv) ?_ hg3
      refine fld_r (hl1.mono hF1) (hl2.mono fun _ _ h => h.mono hF1) (by decide) i1 (off := 1) (by decide) fun p z r y hR _ hy => ?_
      obtain ⟨fv, rfl, hfv⟩ := hR.at
      have hy' : y = fv := by simpa using hy.symm
      subst hy'
      obtain ⟨orows, hfv1, hfv2⟩ := hfv
      refine row_r hfv1 hfv2 (by decide) q1 (fun p r _ hR hrl hr1 => ?_)
      refine rinR_c hR (fun N4 hN4 hw4 => ?_)
      cases hp : inR a b h[s.1].2[q]
      · have ho1 : outR a b h[s.1].2[q] = true := by unfold outR; rw [hp]; rfl
        rw [ho1, if_pos rfl] at ef
        try simp only [sS]
        refine ldM (v := ov) ?_ hb3
        refine ldM (v := lv) ?_ hg3
        refine fld_r (hl1.mono hF1) (hl2.mono fun _ _ h => h.mono hF1) (by decide) i1 (off := 1) (by decide) fun p z r y hR _ hy => ?_
        obtain ⟨fv, rfl, hfv⟩ := hR.at
        have hy' : y = fv := by simpa using hy.symm
        subst hy'
        obtain ⟨orows, hfv1, hfv2⟩ := hfv
        refine row_r hfv1 hfv2 (by decide) q1 (fun p r _ hR hrl hr1 => ?_)
        have hR' := hR
        obtain ⟨kv, hre, hkv, hkl⟩ := hR
        subst hre
        obtain ⟨ka, kc, kf, _⟩ := hkv.form
        refine nws_r (cs := [kv, .int .i64 h[s.1].2[q].2]) (by rw [kf]; kernel_rfl) (fun b29 hb29 => ?_)
        obtain ⟨M4, hM4e⟩ : ∃ M4, M4 = upd M3 b29 (some (.cells 48 [kv, .int .i64 h[s.1].2[q].2] [kv, .int .i64 h[s.1].2[q].2].length)) := ⟨_, rfl⟩
        rw [← hM4e]
        have hx4 : M4 b29 = some (.cells 48 [kv, .int .i64 h[s.1].2[q].2] 2) := by rw [hM4e]; exact upd_same _ _ _
        have hb4 : M4 b13 = some (.cells 52 [.int .u32 h[s.1].1, ov] 2) := by rw [hM4e]; exact (upd_ne _ _ (by omega)).trans hb3
        have hof4 : own M4 (b13 + 1) 48 2 ov ((h[s.1].2.take q).filter (outR a b)).length frows.flatten := by rw [hM4e]; exact hof.box hm3 (by omega) _
        have hm4 : clean M4 (b29 + 1) := by rw [hM4e]; exact (hm3.up hN4).new hb29 _
        have hM4 : ∀ x, x < b13 → M4 x = M2 x := fun x hx => by rw [hM4e]; exact (upd_ne _ _ (by omega)).trans (hM3 x hx)
        clear hM4e
        refine ⟨ldV_c (row_M hb4) rfl, ?_⟩
        refine hof4.app (m := 1) (news := [kv, .int .i64 h[s.1].2[q].2]) hm4 (by omega) ⟨rfl, .inr ⟨b29, 0, 1, _, rfl, Nat.le_refl _, .inr ⟨_, _, hx4⟩, rfl⟩⟩ hr1 (by omega) (by unfold maxLen; omega) (fun ov5 M5 N5 g1 g2 g3 g4 => ?_)
        have hob3 : ov.ownBlock ≠ some b13 := fun e => by have := (hof4.ge _ e).1; omega
        obtain ⟨y1, y2⟩ := g2 b13 hob3 (by omega)
        obtain ⟨a5, c5, e5, _⟩ := g1.form
        try simp only [sS]
        refine stM (cs' := [.int .u32 h[s.1].1, ov5]) ?_ (y1.trans hb4) (by rw [e5]; rfl) (by rw [e5]; rfl) (by rw [e5]; exact List.all_eq_true.1 rfl)
        rw [t46_1_1_1_0_1_0_0_1_0_0_1_0_1_0_0_1_1]
        refine inc_r (by omega) ?_
        refine next2 (q + 1) _ _ (by omega) (fun hw5 => ⟨_, wk_refl hw5, _, N5, ov5, frows ++ [[kv, .int .i64 h[s.1].2[q].2]], rfl, by omega, fun x hx => ?_, g4.set (by omega) _, q1, upd_same _ _ _, ?_, ?_⟩)
        · exact (upd_ne _ _ (by omega)).trans (((g2 x (fun e => by have := (hof4.ge x e).1; omega) (by omega)).1).trans (hM4 x hx))
        · rw [ef, List.length_append, List.length_singleton]
          have : own M5 (b13 + 1) 48 2 ov5 (((h[s.1].2.take q).filter (outR a b)).length + 1) (frows ++ [[kv, .int .i64 h[s.1].2[q].2]]).flatten := by simpa using g1
          exact this.keep (fun x hx => upd_ne _ _ (fun e => y2 (e ▸ hx))) (Nat.le_refl _)
        · rw [ef]; exact rowsF_snoc1 hfr hR'.one hR'
      · have ho1 : outR a b h[s.1].2[q] = false := by unfold outR; rw [hp]; rfl
        rw [ho1, if_neg (by decide), List.append_nil] at ef
        try simp only [sS]
        rw [t46_1_1_1_0_1_0_0_1_0_0_1_0_1_0_0_1_1]
        refine inc_r (by omega) ?_
        refine next2 (q + 1) _ _ (by omega) (fun hw5 => ⟨_, wk_refl hw5, M3, N4, ov, frows, rfl, by omega, hM3, hw4.m, q1, hb3, ?_, ?_⟩)
        · rw [ef]; exact hof
        · rw [ef]; exact hfr
    · try simp only [sS]
      rw [List.take_of_length_le (by omega)] at hof hfr
      have hflen : (h[s.1].2.filter (outR a b)).length ≤ 200 := by have := List.length_filter_le (outR a b) h[s.1].2; omega
      have hlo : lenV ov = some (.int .i64 ((h[s.1].2.filter (outR a b)).length : Nat)) := by obtain ⟨x, c, e, _⟩ := hof.form; rw [e]; rfl
      have hMN : ∀ x, x < N → M3 x = M x := fun x hx => by rw [hM3 x (by omega), hM2 x (by omega), hM1 x hx]
      have ho3 : own M3 N 52 2 s.2 (restH a b (h.take s.1)).length rows1.flatten := ho2.keep (fun x hx => hM3 x (hob x hx)) (Nat.le_refl _)
      have skip : ¬ (0 < (h[s.1].2.filter (outR a b)).length ∨ h[s.1].2.length = 0) → restH a b (h.take (s.1 + 1)) = restH a b (h.take s.1) := fun hn => by
        unfold restH
        rw [e1]
        unfold restE
        rw [if_neg hn]; simp
      have take1 : (0 < (h[s.1].2.filter (outR a b)).length ∨ h[s.1].2.length = 0) → restH a b (h.take (s.1 + 1)) = restH a b (h.take s.1) ++ [(h[s.1].1, h[s.1].2.filter (outR a b))] := fun hn => by
        unfold restH
        rw [e1]
        unfold restE
        rw [if_pos hn]; rfl
      try simp only [sS]
      refine ldM (v := ov) ?_ hb3
      refine pv_r hlo ?_
      refine gtr_r (fun h0 => ?_) (fun h0 => ?_)
      rotate_left
      try simp only [sS]
      refine ldM (v := lv) ?_ hg3
      refine fld_r (hl1.mono hF1) (hl2.mono fun _ _ h => h.mono hF1) (by decide) i1 (off := 1) (by decide) fun p z r y hR _ hy => ?_
      obtain ⟨fv, rfl, hfv⟩ := hR.at
      have hy' : y = fv := by simpa using hy.symm
      subst hy'
      obtain ⟨orows, hfv1, hfv2⟩ := hfv
      refine lenF_r hfv1 ?_
      refine eql_r (fun h9 => ?_) (fun h9 => ?_)
      rotate_left
      · try simp only [sS]
        rw [t46_1_1_1_0_1_0_0_1_1]
        refine inc_r (by omega) ?_
        refine next (s.1 + 1, s.2) _ _ (by simp only; omega) (fun hw5 => ⟨_, wk_refl hw5, F1, M3, N3, rows1, rfl, hF1, by omega, hMN, hm3, i1, ?_, ?_⟩)
        · simp only
          rw [skip (by omega)]; exact ho3
        · simp only
          rw [skip (by omega)]; exact hr
      all_goals
        try simp only [sS]
        refine ldMa (vs := [.int .u32 h[s.1].1, ov]) ?_ hb3
        obtain ⟨a5, c5, e5, _⟩ := hof.form
        refine push_r (new := [.int .u32 h[s.1].1, ov]) ho3 hm3 (by omega) (by rw [e5]; kernel_rfl) rfl (by rw [e5]; exact List.all_eq_true.1 rfl) (by omega) (by unfold maxLen; omega) (fun p v' M5 N5 g1 g2 g3 g4 => ?_)
        rw [t46_1_1_1_0_1_0_0_1_1]
        refine inc_r (by omega) ?_
        have hne : ∀ x, ov.ownBlock = some x → s.2.ownBlock ≠ some x := fun x hx e => by have := (hof.ge x hx).1; have := hob x e; omega
        obtain ⟨hof5, hne5⟩ := hof.far g2 hm3 hne
        refine next (s.1 + 1, v') _ _ (by simp only; omega) (fun hw5 => ⟨_, wk_P (p := fun x => ov.ownBlock = some x) hw5, _, _, N5, rows1 ++ [[.int .u32 h[s.1].1, ov]], rfl, hF1.trans (subF_frzP hw5), by omega, fun x hx => ?_, keepM_clean g4, i1, ?_, ?_⟩)
        · have x1 : ¬ ov.ownBlock = some x := fun e => by have := (hof.ge x e).1; omega
          exact (keepM_in x1).trans (((g2 x (fun e => by have := (ho3.ge x e).1; omega) (by omega)).1).trans (hMN x hx))
        · simp only
          rw [take1 (by omega), List.length_append, List.length_singleton]
          have : own M5 N 52 2 v' ((restH a b (h.take s.1)).length + 1) (rows1 ++ [[.int .u32 h[s.1].1, ov]]).flatten := by simpa using g1
          exact this.keep (fun x hx => keepM_in (fun e => hne5 x e hx)) (Nat.le_refl _)
        · simp only
          rw [take1 (by omega)]
          have he5 : entD (frzP F1 M5 (fun x => ov.ownBlock = some x)) [.int .u32 h[s.1].1, ov] (h[s.1].1, h[s.1].2.filter (outR a b)) := ⟨ov, rfl, ⟨frows, hof5.frzP (fun x h => h), hfr.mono fun _ _ h => h.mono (subF_frzP hw5)⟩, by simp only; omega⟩
          exact rowsF_snoc1 (hr.mono fun _ _ h => h.mono (subF_frzP hw5)) he5.one he5
  · try simp only [sS]
    rw [List.take_of_length_le (by omega)] at ho hr
    have hlay : ∀ i, risen (layAll (restH a b h) (es.take i)) ∧ (layAll (restH a b h) (es.take i)).length ≤ 9000000000 ∧ (∀ e ∈ layAll (restH a b h) (es.take i), e.2.length ≤ 1000000) ∧ ∀ e ∈ layAll (restH a b h) (es.take i), ∀ f ∈ e.2, f.1.length ≤ 10000000000 := fun i => by
      have x1 := layAll_len (es.take i) (restH a b h)
      have x2 := oR.le
      rw [List.length_take] at x1
      have x3 : risen (es.take i) := er1.sublist (List.take_sublist _ _)
      refine ⟨layAll_risen oR.rs, by omega, fun e he => ?_, ?_⟩
      · have := layAll_fl oR.rs x3 oR.fl (fun e he => (fitsF_of (er2 e (List.mem_of_mem_take he)).2.1).1) e he
        omega
      · refine layAll_all (P := fun e => ∀ f ∈ e.2, f.1.length ≤ 10000000000) (fun e d he hd f hf => (List.mem_append.1 hf).elim (hd f) (he f)) (fun e he => oR.keys hdl he) (fun e he f hf => ?_)
        have := inF_len ((fitsF_of (er2 e (List.mem_of_mem_take he)).2.1).2 f hf); omega
    refine l46_1_1_1_1_0_1_0_0 (σ := Nat × Value) (fun s => s.2) (fun s => .int .i64 (s.1 : Nat))
      (fun s h' => ∃ F' N', h' = ⟨F', M, N'⟩ ∧ subF F F' ∧ N ≤ N' ∧ s.1 ≤ es.length ∧ entsD F' s.2 (layAll (restH a b h) (es.take s.1))) (fun s => es.length - s.1) (0, s.2) rfl rfl
      (fun hw4 => ⟨_, frz_wf hm hM1 hw4, _, N2, rfl, hF1.trans (subF_frzAll hw4), hN2, Nat.zero_le _, by simpa [layAll] using ents_frzA hw4 ho hr⟩) (fun kk s j h1 hI hw4 next => ?_)
    rw [t46_1_1_1_1_0_1_0_0]
    obtain ⟨F4, N4, rfl, hF4, hN4, hi, hent⟩ := hI
    obtain ⟨y1, y2, y3, y4⟩ := hlay s.1
    obtain ⟨esrows, hes1, hes2⟩ := hes.mono hF4
    refine lenF_r hes1 ?_
    refine lss_r (fun hlt => ?_) (fun hge => ?_)
    · have i1 : s.1 < es.length := by omega
      have et := layAll_take' (restH a b h) es i1
      obtain ⟨z1, z2, z3⟩ := er2 _ (List.getElem_mem i1)
      obtain ⟨f1, f2⟩ := fitsF_of z2
      try simp only [sS]
      refine fld_r hes1 hes2 (by decide) i1 (off := 1) (by decide) fun p z r y hR _ hy => ?_
      obtain ⟨fv, rfl, hfv⟩ := hR.at
      have hy' : y = fv := by simpa using hy.symm
      subst hy'
      have hfv' := hfv
      obtain ⟨frows, hfa, _⟩ := hfv'
      refine lenF_r hfa ?_
      refine gtr_r (fun h0 => ?_) (fun h0 => ?_)
      · try simp only [sS]
        refine fld_r hes1 hes2 (by decide) i1 (off := 0) (by decide) fun p z r y hR _ hy => ?_
        obtain ⟨fv, rfl, _⟩ := hR.at
        have hy' : y = .int .u32 es[s.1].1 := by simpa using hy.symm
        subst hy'
        refine fld_r hes1 hes2 (by decide) i1 (off := 1) (by decide) fun p z r y hR _ hy => ?_
        obtain ⟨fv, rfl, hfv⟩ := hR.at
        have hy' : y = fv := by simpa using hy.symm
        subst hy'
        refine rwith_c hent y1 (by omega) y3 y4 hfv (by omega) (fun f hf => by have := inF_len (f2 f hf); omega) (fun v' F6 N6 hw6 hF6 hN6 h6 => ?_)
        rw [t46_1_1_1_1_0_1_0_0_1_1]
        refine inc_r (by omega) ?_
        refine next (s.1 + 1, v') _ _ (by simp only; omega) (fun hw5 => ⟨_, wk_refl hw5, F6, N6, rfl, hF4.trans hF6, by omega, i1, ?_⟩)
        simp only
        rw [et]; unfold lay1; rw [if_pos (by omega)]; exact h6
      · try simp only [sS]
        rw [t46_1_1_1_1_0_1_0_0_1_1]
        refine inc_r (by omega) ?_
        refine next (s.1 + 1, s.2) _ _ (by simp only; omega) (fun hw5 => ⟨_, wk_refl hw5, F4, N4, rfl, hF4, by omega, i1, ?_⟩)
        simp only
        rw [et]; unfold lay1; rw [if_neg (by omega)]; exact hent
    · try simp only [sS]
      rw [List.take_of_length_le (by omega)] at hent y1 y2 y3 y4
      have hent' := hent
      obtain ⟨nrows, hn1, hn2⟩ := hent'
      refine l46_1_1_1_1_1_0_1_0_0 (σ := Nat) (fun i => .int .i64 (i : Nat)) (fun i h' => h' = ⟨F4, M, N4⟩ ∧ i ≤ (layAll (restH a b h) es).length ∧ ∀ e ∈ (layAll (restH a b h) es).take i, e.2.length ≤ 200) (fun i => (layAll (restH a b h) es).length - i) 0 rfl
        (fun hw5 => ⟨_, wk_refl hw5, rfl, Nat.zero_le _, by simp⟩) (fun kk i j h1' hI hw5 next => ?_)
      rw [t46_1_1_1_1_1_0_1_0_0]
      obtain ⟨rfl, hi5, hsh⟩ := hI
      refine lenF_r hn1 ?_
      refine lss_r (fun hlt5 => ?_) (fun hge5 => ?_)
      · have i5 : i < (layAll (restH a b h) es).length := by omega
        try simp only [sS]
        refine fld_r hn1 hn2 (by decide) i5 (off := 1) (by decide) fun p z r y hR _ hy => ?_
        obtain ⟨fv, rfl, hfv⟩ := hR.at
        have hy' : y = fv := by simpa using hy.symm
        subst hy'
        obtain ⟨frows, hfa, _⟩ := hfv
        refine lenF_r hfa ?_
        refine gtr_r (fun h0 => ?_) (fun h0 => ?_)
        · try simp only [sS]
          exact same 3 (by decide) (by rw [hrE]; unfold replH; rw [if_pos (.inr (List.any_eq_true.2 ⟨_, List.getElem_mem i5, decide_eq_true (by omega)⟩))]) F4 M N4 hF4 hN4 (fun _ _ => rfl) _ rfl
        · try simp only [sS]
          refine inc_r (by omega) ?_
          refine next (i + 1) _ _ (by omega) (fun hw6 => ⟨_, wk_refl hw6, rfl, i5, fun e he => ?_⟩)
          rw [List.take_add_one, List.getElem?_eq_getElem i5, Option.toList_some] at he
          rcases List.mem_append.1 he with he | he
          · exact hsh e he
          · rw [List.mem_singleton.1 he]; omega
      · try simp only [sS]
        rw [List.take_of_length_le (by omega)] at hsh
        refine lenF_r hn1 ?_
        refine gtr_r (fun h0 => ?_) (fun h0 => ?_)
        · try simp only [sS]
          exact same 3 (by decide) (by rw [hrE]; unfold replH; rw [if_pos (.inl (by omega))]) F4 M N4 hF4 hN4 (fun _ _ => rfl) _ rfl
        · have hlg : longH (layAll (restH a b h) es) = false := by
            unfold longH
            rw [List.any_eq_false]
            intro e he
            have := hsh e he
            simp; omega
          have e0 : replE l a b h es = 0 := by
            rw [hrE]; unfold replH; rw [if_neg (by rintro (q | q); omega; rw [hlg] at q; cases q)]
          obtain ⟨na, nc, ne⟩ := hent.form
          try simp only [sS]
          refine stM (cs' := [dv, s.2]) ?_ hC.gg (by rw [ne]; rfl) (by rw [ne]; rfl) (by rw [ne]; exact List.all_eq_true.1 rfl)
          refine fun hc => ⟨_, wk_refl hc, fun hw' => ?_⟩
          rw [e0] at k
          refine k s.2 F4 _ N4 hF4 ?_ (fun q hq _ => upd_ne _ _ hq) hN4 hw'
          unfold replF; rw [if_pos e0]
          exact ⟨upd_same _ _ _, hC.dd.mono hF4, hent⟩
end Go.Proofs.YtgjdjdjhoipfmaaGreatDoor.A
open Go Go.RowKit Go.Proofs.YtgjdjdjhoipfmaaGreatDoor.K Go.Proofs.YtgjdjdjhoipfmaaGreatDoor.T
set_option linter.unusedVariables false
set_option linter.unusedSimpArgs false
namespace Go.Proofs.YtgjdjdjhoipfmaaGreatDoor.A
variable {F F' : Nat → Option (List Value)} {M M' : Nat → Option Chunk} {N N' : Nat} {K : Kont} {E : PanK}
theorem fctss_two {b : Nat} {u v : Value} {s t : List Fc} (hF : F b = some [u, v]) (hu : fctsD F u s) (hv : fctsD F v t) (hs : s.length ≤ 1000000) (ht : t.length ≤ 1000000) : fctssD F (.slice (some ⟨b, 0, none⟩) 2 2) [s, t] := by
  obtain ⟨a1, c1, e1⟩ := hu.form
  obtain ⟨a2, c2, e2⟩ := hv.form
  have o1 : [u].length = 1 ∧ ∀ c ∈ [u], c.oneCell' = true := ⟨rfl, fun c hc => by rw [List.mem_singleton.1 hc, e1]; rfl⟩
  have o2 : [v].length = 1 ∧ ∀ c ∈ [v], c.oneCell' = true := ⟨rfl, fun c hc => by rw [List.mem_singleton.1 hc, e2]; rfl⟩
  exact ⟨[[u], [v]], sF_lit hF rfl (by decide), rowsF_snoc1 (rowsF_snoc1 (rowsF.nil _ 1) o1 ⟨u, rfl, hu, by omega⟩) o2 ⟨v, rfl, hv, by omega⟩⟩
set_option maxRecDepth 10000 in
theorem hwithF_c {B : Nat} {v fv : Value} {rows : List (List Value)} {h : List En} {t : Int} {fs : List Fc} (hv : own M B 52 2 v h.length rows.flatten) (hB : B ≤ N) (hr : rowsF (entD F) 2 rows h) (hs : risen h) (hl : h.length ≤ 10000000000) (hm' : ∀ e ∈ h, e.2.length ≤ 1000000) (hf : fctsD F fv fs) (hfl : fs.length ≤ 1000000) (hk : ∀ f ∈ fs, f.1.length ≤ 10000000000)
    (k : ∀ v' F' M' N' rows', subF F F' → own M' B 52 2 v' (withR h t fs).length rows'.flatten → rowsF (entD F') 2 rows' (withR h t fs) → (∀ q, v.ownBlock ≠ some q → q < N → M' q = M q ∧ v'.ownBlock ≠ some q) → N ≤ N' → clean M' N' → (Hp.mk F' M' N').wf → K v' ⟨F', M', N'⟩) :
    callv Tryz.prog (.func (.func 35) #[] #[]) #[v, .int .u32 t, fv] K E ⟨F, M, N⟩ := by
  cases ht : there h t
  · refine hwith_c hv hB hr hs hl ht hf hfl hk ?_
    rw [← withH_new ht, withH_eq]
    exact k
  have hi := there_lt ht
  rw [← withH_eq, withH_old ht hi] at k
  refine callv_of_text mixed Tryz.func35 (by kernel_rfl) (t35 _ E _ _ _) (fun hw => ?_)
  have hm : clean M N := hw.m
  refine find_c hv hr hs (by omega) (fun N1 hN1 hw1 => ?_)
  rw [ht]
  try simp only [sS]
  refine ofld_r (off := 1) hv hr (by decide) hi fun b c r x hvf hcell hri hR hrl hx => ?_
  obtain ⟨ov, rfl, hov, hovl⟩ := hR
  have hx' : x = ov := by simpa using hx.symm
  subst hx'
  have het : h[place h t].1 = t := by rw [there_in hi] at ht; exact of_decide_eq_true ht
  have hom := hm' _ (List.getElem_mem hi)
  refine cclone_c hf (by omega) hk (fun v2 F2 N2 hw2 hF2 hN2 hf2 => ?_)
  obtain ⟨cs, tot, hMb, hcs⟩ := hcell
  refine ⟨⟨cs, .inr ⟨_, _, hMb⟩, by rw [Nat.zero_add]; exact hcs⟩, ?_⟩
  have hov2 := hov.mono hF2
  obtain ⟨a1, c1, e1⟩ := hov2.form
  obtain ⟨a2, c2, e2⟩ := hf2.form
  have hm2 : clean M N2 := hw2.m
  refine nws_r (cs := [x, v2]) (by rw [e1, e2]; kernel_rfl) (fun b9 hb9 => ?_)
  refine callv_go (fun hc => ⟨_, wk_P (p := fun q => q = b9) hc, ?_⟩)
  have hs3 := subF_frzP (p := fun q => q = b9) hc
  have f9 := frzP_at (F := F2) (p := fun q => q = b9) rfl (upd_same M b9 (some (.cells 40 [x, v2] [x, v2].length)))
  have hMK : ∀ q, q < N2 → keepM (upd M b9 (some (.cells 40 [x, v2] [x, v2].length))) (fun q => ¬ q = b9) q = M q := fun q hq => (keepM_in (by omega)).trans (upd_ne _ _ (by omega))
  have hmK : clean (keepM (upd M b9 (some (.cells 40 [x, v2] [x, v2].length))) (fun q => ¬ q = b9)) (b9 + 1) := keepM_clean (hm2.new hb9 _)
  generalize frzP F2 _ _ = F3 at *
  generalize keepM _ _ = M3 at *
  clear hc
  refine concatF_c (ts := [h[place h t].2, fs]) (fctss_two f9 (hov2.mono hs3) (hf2.mono hs3) hom hfl) (by simp; omega) (by simp) (fun v10 F4 N4 hw4 hF4 hN4 h10 => ?_)
  have ef : [h[place h t].2, fs].flatten = h[place h t].2 ++ fs := by simp
  rw [ef] at h10
  obtain ⟨a10, c10, e10⟩ := h10.form
  have hv4 : own M3 B 52 2 v h.length rows.flatten := hv.keep (fun q hq => hMK q (by have := hv.lt hm q hq; omega)) (Nat.le_refl _)
  have F04 := (hF2.trans hs3).trans hF4
  refine oput_r (y := (t, h[place h t].2 ++ fs)) hv4 (hr.mono fun _ _ h => h.mono F04) (by decide) hi (by rw [e10]; rfl) (by rw [e10]; rfl) (fun r' hr' => ?_) (fun p q M5 rows' g1 g2 g3 g4 => ?_)
  · rw [hri] at hr'
    cases hr'
    refine ⟨v10, by simp [het], h10, by simp only [List.length_append]; omega⟩
  exact fun hc => ⟨_, wk_refl hc, fun hw' => k v F4 M5 N4 rows' F04 g1 g2 (fun q hq hqN => ⟨(g3 q hq).trans (hMK q (by omega)), hq⟩) (by omega) (g4 _ hw4.m) hw'⟩
theorem longH_t {h : List En} {i : Nat} (hi : i < h.length) (h0 : 200 < h[i].2.length) : longH h = true := List.any_eq_true.2 ⟨_, List.getElem_mem hi, decide_eq_true h0⟩
theorem long1_c {cs : List Value} {e : En} (he : entD F cs e) (k : ∀ N', N ≤ N' → (Hp.mk F M N').wf → K (.bool (decide (200 < e.2.length))) ⟨F, M, N'⟩) :
    callv Tryz.prog (.func (.func 51) #[] #[]) #[.agg cs.toArray] K E ⟨F, M, N⟩ := by
  refine callv_of_text mixed Tryz.func51 (by kernel_rfl) (t51 _ E _) (fun hw => ?_)
  have hm : clean M N := hw.m
  obtain ⟨v, rfl, hv, hvl⟩ := he
  refine nw_r (cs := [.int .u32 e.1, v]) (fun b hb => ?_)
  try simp only [sS]
  refine ldM (v := v) ?_
  obtain ⟨frows, h1, h2⟩ := hv
  refine lenF_r h1 ?_
  refine gtr_r (fun h0 => ?_) (fun h0 => ?_)
  · rw [decide_eq_true (by omega)] at k
    exact fun hc => ⟨⟨F, M, b + 1⟩, wk_drop hc (subM_drop (subM_refl _) (hm _ hb)), fun hw' => k _ (by omega) hw'⟩
  · rw [decide_eq_false (by omega)] at k
    exact fun hc => ⟨⟨F, M, b + 1⟩, wk_drop hc (subM_drop (subM_refl _) (hm _ hb)), fun hw' => k _ (by omega) hw'⟩
theorem long_c {B : Nat} {v : Value} {rows : List (List Value)} {h : List En} (hv : own M B 52 2 v h.length rows.flatten) (hr : rowsF (entD F) 2 rows h) (hl : h.length ≤ 10000000000) (k : ∀ N', N ≤ N' → (Hp.mk F M N').wf → K (.bool (longH h)) ⟨F, M, N'⟩) :
    callv Tryz.prog (.func (.func 52) #[] #[]) #[v, .func (.func 51) #[] #[]] K E ⟨F, M, N⟩ := by
  refine callv_of_text mixed Tryz.func52 (by kernel_rfl) (t52 _ E _ _) (fun hw => ?_)
  refine callv_of_text mixed Tryz.func91 (by kernel_rfl) (t91 _ E _ _) (fun hw => ?_)
  have hlv : lenV v = some (.int .i64 (h.length : Nat)) := by obtain ⟨a, c, e, _⟩ := hv.form; rw [e]; rfl
  refine pv_r hlv ?_
  refine l91_1_0_1_0_0 (σ := Nat) (fun i => .int .i64 (i : Nat)) (fun i h' => ∃ N', h' = ⟨F, M, N'⟩ ∧ N ≤ N' ∧ i ≤ h.length ∧ longH h = longH (h.drop i)) (fun i => h.length - i) 0 rfl
    (fun hw1 => ⟨_, wk_refl hw1, N, rfl, Nat.le_refl _, Nat.zero_le _, rfl⟩) (fun kk i j h1 hI hw1 next => ?_)
  rw [t91_1_0_1_0_0]
  obtain ⟨N1, rfl, hN1, hi, he⟩ := hI
  refine lss_r (fun hlt => ?_) (fun hge => ?_)
  · have i1 : i < h.length := by omega
    try simp only [sS]
    refine orow_r hv hr (by decide) i1 fun q r _ hR _ _ => long1_c hR (fun N2 hN2 hw2 => ?_)
    by_cases h0 : 200 < h[i].2.length
    · rw [decide_eq_true h0]
      refine cnd_t ?_
      refine fun hc => ⟨_, wk_refl hc, fun hw' => geq_t (by omega) fun hc => ⟨_, wk_refl hc, fun hw' => ?_⟩⟩
      have := k N2 (by omega) hw'
      rw [longH_t i1 h0] at this
      exact this
    · rw [decide_eq_false h0]
      refine cnd_f ?_
      refine inc_r (by omega) ?_
      refine next (i + 1) _ _ (by omega) (fun hw3 => ⟨_, wk_refl hw3, N2, rfl, by omega, i1, ?_⟩)
      rw [he, List.drop_eq_getElem_cons i1]
      unfold longH
      rw [List.any_cons, decide_eq_false h0, Bool.false_or]
  · try simp only [sS]
    refine fun hc => ⟨_, wk_refl hc, fun hw' => geq_f (by omega) fun hc => ⟨_, wk_refl hc, fun hw' => ?_⟩⟩
    have := k N1 hN1 hw'
    rw [he, List.drop_eq_nil_of_le (by omega)] at this
    exact this
end Go.Proofs.YtgjdjdjhoipfmaaGreatDoor.A
open Go Go.RowKit Go.Proofs.YtgjdjdjhoipfmaaGreatDoor.K Go.Proofs.YtgjdjdjhoipfmaaGreatDoor.T
set_option linter.unusedVariables false
set_option linter.unusedSimpArgs false
namespace Go.Proofs.YtgjdjdjhoipfmaaGreatDoor.A
variable {F F' : Nat → Option (List Value)} {M M' : Nat → Option Chunk} {N N' : Nat} {K : Kont} {E : PanK}
theorem layAll_take (h es : List En) {i : Nat} (hi : i < es.length) : layAll h (es.take (i + 1)) = lay1 (layAll h (es.take i)) es[i] := by
  unfold layAll
  rw [List.take_add_one, List.getElem?_eq_getElem hi, Option.toList_some, List.foldl_append]; rfl
set_option maxRecDepth 10000 in
set_option maxHeartbeats 4000000 in
theorem creplace_c {B g : Nat} {hv dv ev : Value} {rows : List (List Value)} {l : List Dm} {h es : List En} {a b : Int} (hC : isCube F M B g hv dv rows l h) (hB : B ≤ N) (o : okH l 5000 200 h) (hdl : l.length ≤ 1000) (hes : entsD F ev es) (hel : es.length ≤ 140737488351232) (heT : ∀ e ∈ es, e.1 < 4294967296)
    (k : ∀ hv' F' M' N' rows', subF F F' → isCube F' M' B g hv' dv rows' l (replF l a b h es) → (∀ q, hv.ownBlock ≠ some q → q ≠ g → q < N → M' q = M q ∧ hv'.ownBlock ≠ some q) → N ≤ N' → clean M' N' → (Hp.mk F' M' N').wf → K (.int .u16 ((replE l a b h es : Nat) : Int)) ⟨F', M', N'⟩) :
    callv Tryz.prog (.func (.func 26) #[] #[]) #[.pointer (some ⟨g, 0, none⟩), .int .i64 a, .int .i64 b, ev] K E ⟨F, M, N⟩ := by
  refine callv_of_text mixed Tryz.func26 (by kernel_rfl) (t26 _ E _ _ _ _) (fun hw => ?_)
  have hm : clean M N := hw.m
  have hgN := hm.lt hC.gg
  have hol := o.le
  have hgB := hC.gB
  have hlv : lenV hv = some (.int .i64 (h.length : Nat)) := by obtain ⟨x, c, e, _⟩ := hC.oo.form; rw [e]; rfl
  have same : replE l a b h es ≠ 0 → ∀ F' M' N', (Hp.mk F' M' N').wf → subF F F' → N ≤ N' → (∀ q, q < N → M' q = M q) → K (.int .u16 ((replE l a b h es : Nat) : Int)) ⟨F', M', N'⟩ := fun hne F' M' N' hw' hF hN hM => by
    refine k hv F' M' N' rows hF ?_ (fun q hq _ hqN => ⟨hM q hqN, hq⟩) hN hw'.m hw'
    unfold replF; rw [if_neg hne]
    exact hC.keep hF (fun q hq => hM q (hC.lt hm q hq).2)
  refine within_cube_c (fun w F1 N1 hw1 hF1 hN1 hW => ?_)
  refine cright_c (hC.keep (M' := M) hF1 (fun _ _ => rfl)) hdl (hes.mono hF1) (by omega) hW (fun F2 N2 hw2 hF2 hN2 => ?_)
  have F02 := hF1.trans hF2
  cases hrt : rightF l a b 0 es
  · have e1 : replE l a b h es = 1 := by unfold replE; rw [if_pos hrt]
    try simp only [sS]
    refine fun hc => ⟨_, wk_refl hc, fun hw' => ?_⟩
    have := same (by omega) _ _ _ hw' F02 (by omega) (fun _ _ => rfl)
    rw [e1] at this; exact this
  have hrE : replE l a b h es = if 5000 < (replH a b h es).length ∨ longH (replH a b h es) = true then 3 else 0 := by unfold replE; rw [if_neg (by rw [hrt]; decide)]
  obtain ⟨er1, er2⟩ := rightF_all hrt
  have hen := rightF_len hrt (by decide : (0 : Int) < 4294967296) heT
  try simp only [sS]
  refine ldM (v := hv) ?_ hC.gg
  refine pv_r hlv ?_
  refine l26_1_1_1_1_0_1_0_0 (σ := Nat × Value) (fun s => s.2) (fun s => .int .i64 (s.1 : Nat))
    (fun s h' => ∃ F' M' N' rows', h' = ⟨F', M', N'⟩ ∧ subF F2 F' ∧ N ≤ N' ∧ (∀ q, q < N → M' q = M q) ∧ clean M' N' ∧ s.1 ≤ h.length ∧ own M' N 52 2 s.2 (restH a b (h.take s.1)).length rows'.flatten ∧ rowsF (entD F') 2 rows' (restH a b (h.take s.1))) (fun s => h.length - s.1) (0, .slice none 0 0) rfl rfl
    (fun hw3 => ⟨_, wk_refl hw3, F2, M, N2, [], rfl, subF.refl _, by omega, fun _ _ => rfl, hw2.m, Nat.zero_le _, own.nil, rowsF.nil _ _⟩) (fun kk s j h1 hI hw3 next => ?_)
  · rw [t26_1_1_1_1_0_1_0_0]
    obtain ⟨F3, M3, N3, rows3, rfl, hF3, hN3, hM3, hm3, hi, ho, hr⟩ := hI
    refine lss_r (fun hlt => ?_) (fun hge => ?_)
    · have i1 : s.1 < h.length := by omega
      have e1 := take_fm (restE a b) h i1
      have hle : (restH a b (h.take s.1)).length ≤ s.1 := fm_len (restE a b) h s.1
      try simp only [sS]
      have hoo1 : own M3 B 52 2 hv h.length rows.flatten := hC.oo.keep (fun q hq => hM3 q (hC.oo.lt hm q hq)) (Nat.le_refl _)
      refine orow_r hoo1 hC.rr (by decide) i1 fun p r _ hR _ hr1 => ?_
      obtain ⟨fv, rfl, hfv, hfl⟩ := hR
      have hfm := o.fl _ (List.getElem_mem i1)
      refine nw_r (fun b4 hb4 => ?_)
      refine stM (cs' := [.int .u32 h[s.1].1, fv]) ?_ (upd_same _ _ _) rfl rfl hr1
      rw [upd_upd]
      have hbox := upd_same M3 b4 (some (.cells 52 [.int .u32 h[s.1].1, fv] [Value.int .u32 0, Value.slice none 0 0].length))
      have ho2 := ho.box hm3 hb4 (some (.cells 52 [.int .u32 h[s.1].1, fv] [Value.int .u32 0, Value.slice none 0 0].length))
      have hm4 := hm3.new hb4 (some (.cells 52 [.int .u32 h[s.1].1, fv] [Value.int .u32 0, Value.slice none 0 0].length))
      have hM4 : ∀ q, q < N → upd M3 b4 (some (.cells 52 [.int .u32 h[s.1].1, fv] [Value.int .u32 0, Value.slice none 0 0].length)) q = M q := fun q hq => (upd_ne _ _ (by omega)).trans (hM3 q hq)
      generalize upd M3 b4 _ = M4 at *
      try simp only [sS]
      refine ldM (v := fv) ?_ hbox
      have hfv3 := hfv.mono (F02.trans hF3)
      have hfv3' := hfv3
      obtain ⟨frows0, hfv3a, _⟩ := hfv3'
      refine chosen_c hfv3 (hW.mono (hF2.trans hF3)) (by omega) (o.keys hdl (List.getElem_mem i1)) (fun v4 F4 N4 hw4 hF4 hN4 hf4 => ?_)
      rw [ofK_false] at hf4
      obtain ⟨frows, hf4a, hf4b⟩ := hf4
      have hF4' := hF3.trans hF4
      have hflen : (h[s.1].2.filter (outR a b)).length ≤ 200 := by have := List.length_filter_le (outR a b) h[s.1].2; omega
      obtain ⟨a5, c5, e5, _⟩ := hf4a.form
      have he4 : entD F4 [.int .u32 h[s.1].1, v4] (h[s.1].1, h[s.1].2.filter (outR a b)) := ⟨v4, rfl, ⟨frows, hf4a, hf4b⟩, by simp only; omega⟩
      refine lenF_r hf4a ?_
      have skip : ¬ (0 < (h[s.1].2.filter (outR a b)).length ∨ h[s.1].2.length = 0) → restH a b (h.take (s.1 + 1)) = restH a b (h.take s.1) := fun hn => by
        unfold restH
        rw [e1]
        unfold restE
        rw [if_neg hn]; simp
      have take1 : (0 < (h[s.1].2.filter (outR a b)).length ∨ h[s.1].2.length = 0) → restH a b (h.take (s.1 + 1)) = restH a b (h.take s.1) ++ [(h[s.1].1, h[s.1].2.filter (outR a b))] := fun hn => by
        unfold restH
        rw [e1]
        unfold restE
        rw [if_pos hn]; rfl
      refine gtr_r (fun h0 => ?_) (fun h0 => ?_)
      rotate_left
      try simp only [sS]
      refine ldM (v := fv) ?_ hbox
      try simp only [sS]
      refine lenF_r hfv3a ?_
      try simp only [sS]
      refine eql_r (fun h9 => ?_) (fun h9 => ?_)
      rotate_left
      · try simp only [sS]
        rw [t26_1_1_1_1_0_1_0_0_1_1_1]
        refine inc_r (by omega) ?_
        refine next (s.1 + 1, s.2) _ _ (by simp only; omega) (fun hw5 => ⟨_, wk_refl hw5, F4, M4, N4, rows3, rfl, hF4', by omega, hM4, hw4.m, i1, ?_, ?_⟩)
        · simp only
          rw [skip (by omega)]; exact ho2
        · simp only
          rw [skip (by omega)]; exact hr.mono fun _ _ h => h.mono hF4
      all_goals
        try simp only [sS]
        refine ldM (v := .int .u32 h[s.1].1) ?_ hbox
        refine pv_r (v := .agg #[.int .u32 h[s.1].1, v4]) (by rw [e5]; kernel_rfl) ?_
        refine push_r (new := [.int .u32 h[s.1].1, v4]) ho2 hw4.m (by omega) (by rw [e5]; kernel_rfl) rfl he4.one.2 (by omega) (by unfold maxLen; omega) (fun p v' M5 N5 g1 g2 g3 g4 => ?_)
        rw [t26_1_1_1_1_0_1_0_0_1_1_1]
        refine inc_r (by omega) ?_
        refine next (s.1 + 1, v') _ _ (by simp only; omega) (fun hw5 => ⟨_, wk_refl hw5, F4, M5, N5, rows3 ++ [[.int .u32 h[s.1].1, v4]], rfl, hF4', by omega, fun q hq => ?_, g4, i1, ?_, ?_⟩)
        · exact ((g2 q (fun e => by have := (ho2.ge q e).1; omega) (by omega)).1).trans (hM4 q hq)
        · simp only
          rw [take1 (by omega), List.length_append, List.length_singleton]
          exact (by simpa using g1 : own M5 N 52 2 v' _ (rows3 ++ [[.int .u32 h[s.1].1, v4]]).flatten)
        · simp only
          rw [take1 (by omega)]
          exact rowsF_snoc1 (hr.mono fun _ _ h => h.mono hF4) he4.one he4
    · try simp only [sS]
      rw [List.take_of_length_le (by omega)] at ho hr
      have oR := o.rest a b
      have F03 := F02.trans hF3
      obtain ⟨erows, hes1, hes2⟩ := hes.mono F03
      have hlay : ∀ i, risen (layAll (restH a b h) (es.take i)) ∧ (layAll (restH a b h) (es.take i)).length ≤ 9000000000 ∧ ∀ e ∈ layAll (restH a b h) (es.take i), e.2.length ≤ 1000000 := fun i => by
        have x1 := layAll_len (es.take i) (restH a b h)
        have x2 := oR.le
        rw [List.length_take] at x1
        have x3 : risen (es.take i) := er1.sublist (List.take_sublist _ _)
        refine ⟨layAll_risen oR.rs, by omega, fun e he => ?_⟩
        have := layAll_fl oR.rs x3 oR.fl (fun e he => (fitsF_of (er2 e (List.mem_of_mem_take he)).2.1).1) e he
        omega
      refine lenF_r hes1 ?_
      refine l26_1_1_1_1_1_0_1_0_0 (σ := Nat × Value) (fun s => s.2) (fun s => .int .i64 (s.1 : Nat))
        (fun s h' => ∃ F' M' N' rows', h' = ⟨F', M', N'⟩ ∧ subF F3 F' ∧ N ≤ N' ∧ (∀ q, q < N → M' q = M q) ∧ clean M' N' ∧ s.1 ≤ es.length ∧ own M' N 52 2 s.2 (layAll (restH a b h) (es.take s.1)).length rows'.flatten ∧ rowsF (entD F') 2 rows' (layAll (restH a b h) (es.take s.1))) (fun s => es.length - s.1) (0, s.2) rfl rfl
        (fun hw4 => ⟨_, wk_refl hw4, F3, M3, N3, rows3, rfl, subF.refl _, hN3, hM3, hm3, Nat.zero_le _, ho, hr⟩) (fun kk s j h1 hI hw4 next => ?_)
      rw [t26_1_1_1_1_1_0_1_0_0]
      obtain ⟨F4, M4, N4, rows4, rfl, hF4, hN4, hM4, hm4, hi, ho, hr⟩ := hI
      obtain ⟨y1, y2, y3⟩ := hlay s.1
      refine lss_r (fun hlt => ?_) (fun hge => ?_)
      · have i1 : s.1 < es.length := by omega
        have et := layAll_take (restH a b h) es i1
        obtain ⟨z1, z2, z3⟩ := er2 _ (List.getElem_mem i1)
        obtain ⟨f1, f2⟩ := fitsF_of z2
        try simp only [sS]
        refine row_r (hes1.mono hF4) (hes2.mono fun _ _ h => h.mono hF4) (by decide) i1 (fun p r _ hR hrl hr1 => ?_)
        obtain ⟨fv, hre, hfv, hfl⟩ := hR
        subst hre
        refine nw_r (fun b4 hb4 => ?_)
        refine stM (cs' := [.int .u32 es[s.1].1, fv]) ?_ (upd_same _ _ _) rfl rfl hr1
        rw [upd_upd]
        have hbox := upd_same M4 b4 (some (.cells 52 [.int .u32 es[s.1].1, fv] [Value.int .u32 0, Value.slice none 0 0].length))
        have ho2 := ho.box hm4 hb4 (some (.cells 52 [.int .u32 es[s.1].1, fv] [Value.int .u32 0, Value.slice none 0 0].length))
        have hm5 := hm4.new hb4 (some (.cells 52 [.int .u32 es[s.1].1, fv] [Value.int .u32 0, Value.slice none 0 0].length))
        have hM5 : ∀ q, q < N → upd M4 b4 (some (.cells 52 [.int .u32 es[s.1].1, fv] [Value.int .u32 0, Value.slice none 0 0].length)) q = M q := fun q hq => (upd_ne _ _ (by omega)).trans (hM4 q hq)
        generalize upd M4 b4 _ = M5 at *
        try simp only [sS]
        refine ldM (v := fv) ?_ hbox
        have hfv' := hfv
        obtain ⟨frows, hfa, _⟩ := hfv'
        refine lenF_r hfa ?_
        refine gtr_r (fun h0 => ?_) (fun h0 => ?_)
        · try simp only [sS]
          refine ldM (v := .int .u32 es[s.1].1) ?_ hbox
          try simp only [sS]
          refine ldM (v := fv) ?_ hbox
          refine hwithF_c ho2 (by omega) hr y1 (by omega) y3 hfv (by omega) (fun f hf => by have := inF_len (f2 f hf); omega) (fun v' F6 M6 N6 rows6 hF6 g1 g2 g3 g4 g5 g6 => ?_)
          rw [t26_1_1_1_1_1_0_1_0_0_1_1_1]
          refine inc_r (by omega) ?_
          have e3 : layAll (restH a b h) (es.take (s.1 + 1)) = withR (layAll (restH a b h) (es.take s.1)) es[s.1].1 es[s.1].2 := by
            rw [et]; unfold lay1; rw [if_pos (by omega)]
          refine next (s.1 + 1, v') _ _ (by simp only; omega) (fun hw5 => ⟨_, wk_refl hw5, F6, M6, N6, rows6, rfl, hF4.trans hF6, by omega, fun q hq => ?_, g5, i1, ?_, ?_⟩)
          · exact ((g3 q (fun e => by have := (ho2.ge q e).1; omega) (by omega)).1).trans (hM5 q hq)
          · simp only
            rw [e3]; exact g1
          · simp only
            rw [e3]; exact g2
        · try simp only [sS]
          rw [t26_1_1_1_1_1_0_1_0_0_1_1_1]
          refine inc_r (by omega) ?_
          have e3 : layAll (restH a b h) (es.take (s.1 + 1)) = layAll (restH a b h) (es.take s.1) := by
            rw [et]; unfold lay1; rw [if_neg (by omega)]
          refine next (s.1 + 1, s.2) _ _ (by simp only; omega) (fun hw5 => ⟨_, wk_refl hw5, F4, M5, _, rows4, rfl, hF4, by omega, hM5, hm5, i1, ?_, ?_⟩)
          · simp only
            rw [e3]; exact ho2
          · simp only
            rw [e3]; exact hr
      · try simp only [sS]
        rw [List.take_of_length_le (by omega)] at ho hr y1 y2 y3
        have F04 := F03.trans hF4
        have hlo : lenV s.2 = some (.int .i64 ((layAll (restH a b h) es).length : Nat)) := by obtain ⟨x, c, e, _⟩ := ho.form; rw [e]; rfl
        have bad : replE l a b h es = 3 → ∀ N', N4 ≤ N' → ∀ h', h' = (⟨F4, M4, N'⟩ : Hp) → h'.wf → ∃ h'', h'.wk h'' ∧ (h''.wf → K (.int .u16 3) h'') := fun e3 N' hN' h' e' hc => by
          subst e'
          refine ⟨_, wk_refl hc, fun hw' => ?_⟩
          have := same (by omega) _ _ _ hw' F04 (by omega) hM4
          rw [e3] at this; exact this
        refine pv_r hlo ?_
        refine gtr_r (fun h0 => ?_) (fun h0 => ?_)
        · try simp only [sS]
          exact bad (by rw [hrE]; unfold replH; rw [if_pos (.inl (by omega))]) N4 (Nat.le_refl _) _ rfl
        · try simp only [sS]
          refine long_c ho hr (by omega) (fun N5 hN5 hw5 => ?_)
          cases hlg : longH (layAll (restH a b h) es)
          · have e0 : replE l a b h es = 0 := by
              rw [hrE]; unfold replH; rw [if_neg (by rintro (q | q); omega; rw [hlg] at q; cases q)]
            obtain ⟨xa, xc, xe, _⟩ := ho.form
            try simp only [sS]
            refine stM (cs' := [s.2, dv]) ?_ ((hM4 g hgN).trans hC.gg) (by rw [xe]; rfl) (by rw [xe]; rfl) (by rw [xe]; exact List.all_eq_true.1 rfl)
            have hsg : s.2.ownBlock ≠ some g := fun e => by have := (ho.ge g e).1; omega
            refine fun hc => ⟨_, wk_refl hc, fun hw' => ?_⟩
            rw [e0] at k
            refine k s.2 F4 _ N5 rows4 F04 ?_ (fun q hq hqg hqN => ⟨(upd_ne _ _ hqg).trans (hM4 q hqN), fun e => by have := (ho.ge q e).1; omega⟩) (by omega) (clean.set hw5.m (by omega) _) hw'
            unfold replF; rw [if_pos e0]
            exact ⟨upd_same _ _ _, hgB, ho.keep (fun q hq => upd_ne _ _ (fun e => hsg (e ▸ hq))) hB, hr, hsg, hC.dd.mono F04, y1⟩
          · try simp only [sS]
            exact bad (by rw [hrE]; unfold replH; rw [if_pos (.inr hlg)]) N5 hN5 _ rfl
end Go.Proofs.YtgjdjdjhoipfmaaGreatDoor.A
open Go Go.RowKit Go.Proofs.YtgjdjdjhoipfmaaGreatDoor.K
set_option linter.unusedVariables false
set_option maxRecDepth 100000
namespace Go.Proofs.YtgjdjdjhoipfmaaGreatDoor.T
section
variable (K : Kont) (E : PanK) (k1 k2 k3 k4 k5 : Env → Hp → Prop) (x0 x1 x2 x3 x4 x5 x6 x7 x8 x9 x10 x11 x12 x13 x14 x15 x16 x17 x18 x19 x20 x21 x22 x23 x24 x25 x26 x27 x28 x29 x30 x31 x32 x33 x34 x35 x36 x37 x38 x39 x40 x41 x42 x43 x44 x45 x46 x47 x48 x49 x50 x51 x52 x53 x54 x55 x56 x57 x58 x59 x60 x61 x62 x63 x64 x65 x66 x67 x68 x69 x70 x71 x72 x73 x74 x75 x76 x77 x78 x79 x80 x81 x82 x83 x84 x85 x86 x87 x88 x89 x90 x91 x92 x93 x94 x95 x96 x97 x98 x99 x100 x101 x102 x103 x104 x105 x106 x107 x108 x109 x110 x111 x112 v0 v1 v2 v3 v4 v5 v6 v7 v8 v9 v10 v11 v12 v13 v14 v15 v16 v17 v18 v19 v20 v21 v22 v23 v24 v25 v26 v27 v28 v29 v30 v31 v32 v33 v34 v35 v36 v37 v38 v39 v40 v41 v42 v43 v44 v45 v46 v47 v48 v49 v50 v51 v52 v53 v54 v55 v56 v57 v58 v59 v60 v61 v62 v63 v64 v65 v66 v67 v68 v69 v70 v71 v72 v73 v74 v75 v76 v77 v78 v79 v80 v81 v82 v83 v84 v85 v86 v87 v88 v89 v90 v91 v92 v93 v94 v95 v96 v97 v98 v99 v100 v101 v102 v103 v104 v105 v106 v107 v108 v109 v110 v111 v112 : Value) (j : Nat → Value)
abbrev q21 : QD := bodyQ Tryz.prog Tryz.f21.results.toList K E
abbrev d21 (p : List Nat) : QD → Env → Hp → Prop := den Tryz.prog (sel (bodyOf Tryz.f21) p)
def m21_1_1_0_1_0_0 (j : Nat → Value) : Env := #[x0, x1, x2, v3, v4, (j 5), (j 6), (j 7), (j 8), (j 9), (j 10), (j 11), (j 12), (j 13), (j 14), (j 15), (j 16), (j 17), (j 18), (j 19), (j 20), (j 21), (j 22), (j 23), (j 24), (j 25), (j 26), (j 27), (j 28), (j 29), (j 30), (j 31), (j 32), (j 33), (j 34), (j 35), (j 36), (j 37), (j 38), (j 39), (j 40), (j 41), (j 42), (j 43), (j 44), (j 45), (j 46), (j 47), (j 48), (j 49), (j 50), x51]
def m21_1_1_0_1_0_0_1_0_0_1_1_0_0 (j : Nat → Value) : Env := #[x0, x1, x2, v3, x4, v5, x6, x7, x8, x9, x10, x11, x12, x13, x14, x15, x16, x17, x18, x19, x20, x21, x22, x23, x24, x25, x26, x27, (j 28), (j 29), (j 30), (j 31), (j 32), (j 33), (j 34), (j 35), (j 36), (j 37), (j 38), (j 39), (j 40), (j 41), (j 42), (j 43), (j 44), (j 45), (j 46), (j 47), (j 48), (j 49), (j 50), x51]
theorem t21 : d21 [] (q21 K E) #[x0, U, U, U, U, U, U, U, U, U, U, U, U, U, U, U, U, U, U, U, U, U, U, U, U, U, U, U, U, U, U, U, U, U, U, U, U, U, U, U, U, U, U, U, U, U, U, U, U, U, U, U] =
  lp (fun k1 => d21 [1, 1, 0, 1, 0, 0] (thenD k1 (blk 0 (thenD (d21 [1, 1, 1] (q21 K E)) (q21 K E))))) (m21_1_1_0_1_0_0 x0 U (.int .i64 0) U (.int .i64 0) (.int .i64 0) (jf #[])) := by kernel_rfl
theorem t21_1_1_0_1_0_0 : d21 [1, 1, 0, 1, 0, 0] (thenD k1 (blk 0 (thenD (d21 [1, 1, 1] (q21 K E)) (q21 K E)))) (m21_1_1_0_1_0_0 x0 x1 x2 x51 v3 v4 j) =
  pv (lenV x0) fun t1 =>
  pv (binV .none .lss v4 t1) fun t2 =>
  cnd t2 (
   pv (iaV none 8 x0 v4) fun t3 =>
   pv (faV 2 t3) fun t4 =>
   ld false 1 t4 fun t5 =>
   pv (lenV t5) fun t6 =>
   pv (binV .none .add (.int .i64 1) t6) fun t7 =>
   pv (iaV none 8 x0 v4) fun t8 =>
   pv (faV 4 t8) fun t9 =>
   ld false 1 t9 fun t10 =>
   pv (lenV t10) fun t11 =>
   pv (binV .none .add t7 t11) fun t12 =>
   pv (binV .none .add v3 t12) fun t13 =>
   lp (fun k2 => d21 [1, 1, 0, 1, 0, 0, 1, 0, 0, 1, 1, 0, 0] (thenD k2 (blk 2 (blk 1 (thenD (d21 [1, 1, 0, 1, 0, 0, 1, 1] (thenD k1 (blk 0 (thenD (d21 [1, 1, 1] (q21 K E)) (q21 K E))))) (thenD k1 (blk 0 (thenD (d21 [1, 1, 1] (q21 K E)) (q21 K E))))))))) (m21_1_1_0_1_0_0_1_0_0_1_1_0_0 x0 x1 x2 v4 v4 x0 t1 t2 (j 10) (j 11) v3 x0 v4 t3 t4 t5 t6 t7 x0 v4 t8 t9 t10 t11 t12 t13 x51 t13 (.int .i64 0) (jf #[U, U, U, U, U, U, U, U, U, U, U, U, U, U, U, U, U, U, U, U, U, U, U, U, U, U, U, U, (j 28), (j 29), (j 30), (j 31), (j 32), (j 33), (j 34), (j 35), (j 36), (j 37), (j 38), (j 39), (j 40), (j 41), (j 42), (j 43), (j 44), (j 45), (j 46), (j 47), (j 48), (j 49), (j 50)]))) (
   K v3) := by kernel_rfl
theorem t21_1_1_0_1_0_0_1_0_0_1_1_0_0 : d21 [1, 1, 0, 1, 0, 0, 1, 0, 0, 1, 1, 0, 0] (thenD k2 (blk 2 (blk 1 (thenD (d21 [1, 1, 0, 1, 0, 0, 1, 1] (thenD k1 (blk 0 (thenD (d21 [1, 1, 1] (q21 K E)) (q21 K E))))) (thenD k1 (blk 0 (thenD (d21 [1, 1, 1] (q21 K E)) (q21 K E)))))))) (m21_1_1_0_1_0_0_1_0_0_1_1_0_0 x0 x1 x2 x4 x6 x7 x8 x9 x10 x11 x12 x13 x14 x15 x16 x17 x18 x19 x20 x21 x22 x23 x24 x25 x26 x27 x51 v3 v5 j) =
  pv (iaV none 8 x0 x4) fun t1 =>
  pv (faV 7 t1) fun t2 =>
  ld false 1 t2 fun t3 =>
  pv (lenV t3) fun t4 =>
  pv (binV .none .lss v5 t4) fun t5 =>
  cnd t5 (
   pv (iaV none 8 x0 x4) fun t6 =>
   pv (faV 7 t6) fun t7 =>
   ld false 1 t7 fun t8 =>
   pv (iaV none 2 t8 v5) fun t9 =>
   pv (faV 1 t9) fun t10 =>
   ld false 1 t10 fun t11 =>
   pv (lenV t11) fun t12 =>
   pv (binV .none .add (.int .i64 1) t12) fun t13 =>
   pv (binV .none .add v3 t13) fun t14 =>
   pv (binV .none .add v5 (.int .i64 1)) fun t15 =>
   k2 (m21_1_1_0_1_0_0_1_0_0_1_1_0_0 x0 x1 x2 x4 x6 x7 x8 x9 x10 x11 x12 x13 x14 x15 x16 x17 x18 x19 x20 x21 x22 x23 x24 x25 x26 x27 x51 t14 t15 (jf #[U, U, U, U, U, U, U, U, U, U, U, U, U, U, U, U, U, U, U, U, U, U, U, U, U, U, U, U, v5, x0, x4, t1, t2, t3, t4, t5, v5, t15, v3, x0, x4, t6, t7, t8, v5, t9, t10, t11, t12, t13, t14]))) (
   pv (binV .none .add x4 (.int .i64 1)) fun t16 =>
   k1 (m21_1_1_0_1_0_0 x0 x1 x2 x51 v3 t16 (jf #[U, U, U, U, U, v5, x6, x7, x8, x9, x4, t16, x12, x13, x14, x15, x16, x17, x18, x19, x20, x21, x22, x23, x24, x25, x26, x27, v5, x0, x4, t1, t2, t3, t4, t5, (j 36), (j 37), (j 38), (j 39), (j 40), (j 41), (j 42), (j 43), (j 44), (j 45), (j 46), (j 47), (j 48), (j 49), (j 50)]))) := by kernel_rfl
abbrev q23 : QD := bodyQ Tryz.prog Tryz.f23.results.toList K E
abbrev d23 (p : List Nat) : QD → Env → Hp → Prop := den Tryz.prog (sel (bodyOf Tryz.f23) p)
theorem t23 : d23 [] (q23 K E) #[x0, x1, x2, x3, U, U, U, U, U, U, U, U, U, U, U, U, U, U, U, U, U, U, U, U, U, U, U, U, U, U, U, U, U, U, U, U, U, U, U, U, U, U, U, U, U, U, U, U, U, U, U, U, U, U, U, U, U, U, U, U, U, U, U, U, U, U, U, U, U, U, U, U, U, U, U, U, U, U, U, U, U, U, U, U, U, U, U, U, U, U, U, U, U, U, U, U, U, U, U, U, U, U, U, U, U, U, U, U, U, U, U, U, U] =
  nw 62 (Value.cells x3).toList fun t1 =>
  pv (faV 2 t1) fun t2 =>
  ld false 1 t2 fun t3 =>
  pv (faV 3 t1) fun t4 =>
  ld false 1 t4 fun t5 =>
  callv Tryz.prog (.func (.func 16) #[] #[]) #[x2, t3, t5] (fun t6 =>
  pv (faV 0 t1) fun t7 =>
  ld false 1 t7 fun t8 =>
  pv (binV .none .rem t8 (.int .u8 6)) fun t9 =>
  pv (binV .none .eql t9 (.int .u8 4)) fun t10 =>
  cnd t10 (
   pv (faV 1 t1) fun t11 =>
   ld false 1 t11 fun t12 =>
   pv (faV 4 t1) fun t13 =>
   ld false 1 t13 fun t14 =>
   pv (faV 1 t1) fun t15 =>
   ld false 1 t15 fun t16 =>
   pv (faV 4 t1) fun t17 =>
   ld false 1 t17 fun t18 =>
   callv Tryz.prog (.func (.func 15) #[] #[]) #[x0, t12, t14] (fun t19 h20 => (ldV h20 false 1 t17 t18) ∧ (ldV h20 false 1 t15 t16) ∧ (
    pv (cvV .i64 t19) fun t21 =>
    callv Tryz.prog (.func (.func 44) #[] #[]) #[x1, t16, t18] (fun t22 =>
    pv (binV .none .eql t21 t22) fun t23 =>
    gdK t23 true (fun k => k x0) fun t24 =>
    gdK t23 true (fun k => pv (faV 4 t1) k) fun t25 =>
    gdK t23 true (fun k => ld false 1 t25 k) fun t26 =>
    gdK t23 true (fun k => k x1) fun t27 =>
    gdK t23 true (fun k => pv (faV 4 t1) k) fun t28 =>
    gdK t23 true (fun k => ld false 1 t28 k) fun t29 =>
    gdK t23 true (fun k => callv Tryz.prog (.func (.func 34) #[] #[]) #[t24, t26] k E) (fun t30 h31 => (isB t23 true = true → ldV h31 false 1 t28 t29) ∧ (
     gdK t23 true (fun k => callv Tryz.prog (.func (.func 45) #[] #[]) #[t27, t29] k E) fun t32 =>
     gdK t23 true (fun k => pv (binV .bool .eql t30 t32) k) fun t33 =>
     pv (pickV t23 t33 (.bool false)) fun t34 =>
     d23 [1, 1, 1, 1] (q23 K E) #[x0, x1, x2, x3, U, U, U, t1, (.int .i64 0), t6, t34, U, x2, t2, t3, t4, t5, t6, t7, t8, t9, U, U, U, U, U, U, U, U, U, U, U, U, U, U, t10, t10, x0, t11, t12, t13, t14, t19, t21, x1, t15, t16, t17, t18, t22, t23, t23, t24, t25, t26, t30, t27, t28, t29, t32, t33, t34, U, U, U, U, U, U, U, U, U, U, U, U, U, U, U, U, U, U, U, U, U, U, U, U, U, U, U, U, U, U, U, U, U, U, U, U, U, U, U, U, U, U, U, U, U, U, U, U, U, U, U]) h31)) E) h20) E) (
   pv (binV .none .eql t9 (.int .u8 5)) fun t35 =>
   cnd t35 (
    pv (faV 5 t1) fun t36 =>
    ld false 1 t36 fun t37 =>
    pv (cvV .i64 t37) fun t38 =>
    pv (faV 6 t1) fun t39 =>
    ld false 1 t39 fun t40 =>
    pv (cvV .i64 t40) fun t41 =>
    pv (faV 7 t1) fun t42 =>
    ld false 1 t42 fun t43 =>
    pv (faV 5 t1) fun t44 =>
    ld false 1 t44 fun t45 =>
    pv (cvV .i64 t45) fun t46 =>
    pv (faV 6 t1) fun t47 =>
    ld false 1 t47 fun t48 =>
    pv (cvV .i64 t48) fun t49 =>
    pv (faV 7 t1) fun t50 =>
    ld false 1 t50 fun t51 =>
    callv Tryz.prog (.func (.func 26) #[] #[]) #[x0, t38, t41, t43] (fun t52 h53 => (ldV h53 false 1 t50 t51) ∧ (ldV h53 false 1 t47 t48) ∧ (ldV h53 false 1 t44 t45) ∧ (
     pv (cvV .i64 t52) fun t54 =>
     callv Tryz.prog (.func (.func 46) #[] #[]) #[x1, t46, t49, t51] (fun t55 =>
     pv (binV .none .eql t54 t55) fun t56 =>
     ld true 8 t1 fun t57 =>
     callv Tryz.prog (.func (.func 47) #[] #[]) #[x2, t57] (fun t58 =>
     gdK t56 true (fun k => k x0) fun t59 =>
     gdK t56 true (fun k => pv (faV 5 t1) k) fun t60 =>
     gdK t56 true (fun k => ld false 1 t60 k) fun t61 =>
     gdK t56 true (fun k => pv (cvV .i64 t61) k) fun t62 =>
     gdK t56 true (fun k => pv (faV 6 t1) k) fun t63 =>
     gdK t56 true (fun k => ld false 1 t63 k) fun t64 =>
     gdK t56 true (fun k => pv (cvV .i64 t64) k) fun t65 =>
     gdK t56 true (fun k => k t58) fun t66 =>
     gdK t56 true (fun k => k x1) fun t67 =>
     gdK t56 true (fun k => pv (faV 5 t1) k) fun t68 =>
     gdK t56 true (fun k => ld false 1 t68 k) fun t69 =>
     gdK t56 true (fun k => pv (cvV .i64 t69) k) fun t70 =>
     gdK t56 true (fun k => pv (faV 6 t1) k) fun t71 =>
     gdK t56 true (fun k => ld false 1 t71 k) fun t72 =>
     gdK t56 true (fun k => pv (cvV .i64 t72) k) fun t73 =>
     gdK t56 true (fun k => k t58) fun t74 =>
     gdK t56 true (fun k => callv Tryz.prog (.func (.func 26) #[] #[]) #[t59, t62, t65, t66] k E) (fun t75 h76 => (isB t56 true = true → ldV h76 false 1 t71 t72) ∧ (isB t56 true = true → ldV h76 false 1 t68 t69) ∧ (
      gdK t56 true (fun k => pv (cvV .i64 t75) k) fun t77 =>
      gdK t56 true (fun k => callv Tryz.prog (.func (.func 46) #[] #[]) #[t67, t70, t73, t74] k E) fun t78 =>
      gdK t56 true (fun k => pv (binV .none .eql t77 t78) k) fun t79 =>
      pv (pickV t56 t79 (.bool false)) fun t80 =>
      d23 [1, 1, 1, 1] (q23 K E) #[x0, x1, x2, x3, U, U, U, t1, (.int .i64 0), t6, t80, t58, x2, t2, t3, t4, t5, t6, t7, t8, t9, U, U, U, U, U, U, U, U, U, U, U, U, U, U, t10, t10, U, U, U, U, U, U, U, U, U, U, U, U, U, U, U, U, U, U, U, U, U, U, U, U, U, t35, t35, x0, t36, t37, t38, t39, t40, t41, t42, t43, t52, t54, x1, t44, t45, t46, t47, t48, t49, t50, t51, t55, t56, x2, t57, t58, t56, t56, t59, t60, t61, t62, t63, t64, t65, t66, t75, t77, t67, t68, t69, t70, t71, t72, t73, t74, t78, t79, t80, U]) h76)) E) E) h53) E) (
    pv (faV 1 t1) fun t81 =>
    ld false 1 t81 fun t82 =>
    pv (binV .none .rem t82 (.int .u32 40)) fun t83 =>
    pv (faV 1 t1) fun t84 =>
    ld false 1 t84 fun t85 =>
    pv (binV .none .rem t85 (.int .u32 40)) fun t86 =>
    callv Tryz.prog (.func (.func 15) #[] #[]) #[x0, t83, t6] (fun t87 h88 => (ldV h88 false 1 t84 t85) ∧ (
     pv (cvV .i64 t87) fun t89 =>
     callv Tryz.prog (.func (.func 44) #[] #[]) #[x1, t86, t6] (fun t90 =>
     pv (binV .none .eql t89 t90) fun t91 =>
     d23 [1, 1, 1, 1] (q23 K E) #[x0, x1, x2, x3, U, U, U, t1, (.int .i64 0), t6, t91, U, x2, t2, t3, t4, t5, t6, t7, t8, t9, x0, t81, t82, t83, t6, t87, t89, x1, t84, t85, t86, t6, t90, t91, t10, t10, U, U, U, U, U, U, U, U, U, U, U, U, U, U, U, U, U, U, U, U, U, U, U, U, U, t35, t35, U, U, U, U, U, U, U, U, U, U, U, U, U, U, U, U, U, U, U, U, U, U, U, U, U, U, U, U, U, U, U, U, U, U, U, U, U, U, U, U, U, U, U, U, U, U, U, U, U]) E) h88) E))) E := by kernel_rfl
theorem t23_1_1_1_1 : d23 [1, 1, 1, 1] (q23 K E) #[x0, x1, x2, x3, x4, x5, x6, x7, x8, x9, x10, x11, x12, x13, x14, x15, x16, x17, x18, x19, x20, x21, x22, x23, x24, x25, x26, x27, x28, x29, x30, x31, x32, x33, x34, x35, x36, x37, x38, x39, x40, x41, x42, x43, x44, x45, x46, x47, x48, x49, x50, x51, x52, x53, x54, x55, x56, x57, x58, x59, x60, x61, x62, x63, x64, x65, x66, x67, x68, x69, x70, x71, x72, x73, x74, x75, x76, x77, x78, x79, x80, x81, x82, x83, x84, x85, x86, x87, x88, x89, x90, x91, x92, x93, x94, x95, x96, x97, x98, x99, x100, x101, x102, x103, x104, x105, x106, x107, x108, x109, x110, x111, x112] =
  cnd x10 (
   K (.int .i64 1)) (
   K (.int .i64 0)) := by kernel_rfl
abbrev q25 : QD := bodyQ Tryz.prog Tryz.f25.results.toList K E
abbrev d25 (p : List Nat) : QD → Env → Hp → Prop := den Tryz.prog (sel (bodyOf Tryz.f25) p)
abbrev q47 : QD := bodyQ Tryz.prog Tryz.f47.results.toList K E
abbrev d47 (p : List Nat) : QD → Env → Hp → Prop := den Tryz.prog (sel (bodyOf Tryz.f47) p)
def m47_1_1_0_1_0_0 (j : Nat → Value) : Env := #[x0, x1, x2, x3, x4, v5, v6, (j 7), (j 8), (j 9), (j 10), (j 11), (j 12), (j 13), (j 14), (j 15), (j 16), (j 17), (j 18), (j 19), (j 20), (j 21), (j 22), (j 23), (j 24), (j 25), (j 26), (j 27), (j 28), (j 29), (j 30), (j 31), (j 32), (j 33), (j 34), (j 35), (j 36), (j 37), (j 38), (j 39), (j 40), (j 41), (j 42), (j 43), (j 44), (j 45), (j 46), (j 47), (j 48), (j 49), (j 50), (j 51), (j 52), (j 53), (j 54), (j 55), (j 56), (j 57), (j 58), (j 59), (j 60), (j 61), (j 62), (j 63), (j 64), (j 65), (j 66), (j 67), (j 68), (j 69), (j 70), (j 71), (j 72), (j 73), (j 74), (j 75), (j 76), (j 77), (j 78), (j 79), (j 80), (j 81), (j 82), (j 83), (j 84), (j 85), (j 86), (j 87), x88]
def m47_1_1_0_1_0_0_1_0_0_1_1_0_1_0_0 (j : Nat → Value) : Env := #[x0, x1, x2, x3, x4, x5, x6, x7, v8, v9, x10, x11, x12, x13, x14, x15, x16, x17, x18, x19, x20, x21, x22, x23, x24, x25, x26, (j 27), (j 28), (j 29), (j 30), (j 31), (j 32), (j 33), (j 34), (j 35), (j 36), (j 37), (j 38), (j 39), (j 40), (j 41), (j 42), (j 43), (j 44), (j 45), (j 46), (j 47), (j 48), (j 49), (j 50), (j 51), (j 52), (j 53), (j 54), (j 55), (j 56), (j 57), (j 58), (j 59), (j 60), (j 61), (j 62), (j 63), (j 64), (j 65), (j 66), (j 67), (j 68), (j 69), (j 70), x71, x72, x73, x74, x75, x76, x77, x78, x79, x80, x81, x82, x83, x84, x85, x86, x87, x88]
theorem t47 : d47 [] (q47 K E) #[x0, x1, U, U, U, U, U, U, U, U, U, U, U, U, U, U, U, U, U, U, U, U, U, U, U, U, U, U, U, U, U, U, U, U, U, U, U, U, U, U, U, U, U, U, U, U, U, U, U, U, U, U, U, U, U, U, U, U, U, U, U, U, U, U, U, U, U, U, U, U, U, U, U, U, U, U, U, U, U, U, U, U, U, U, U, U, U, U, U] =
  nw 62 (Value.cells x1).toList fun t1 =>
  lp (fun k1 => d47 [1, 1, 0, 1, 0, 0] (thenD k1 (blk 0 (thenD (d47 [1, 1, 1] (q47 K E)) (q47 K E))))) (m47_1_1_0_1_0_0 x0 x1 U t1 (.slice none 0 0) U (.slice none 0 0) (.int .i64 0) (jf #[])) := by kernel_rfl
theorem t47_1_1_0_1_0_0 : d47 [1, 1, 0, 1, 0, 0] (thenD k1 (blk 0 (thenD (d47 [1, 1, 1] (q47 K E)) (q47 K E)))) (m47_1_1_0_1_0_0 x0 x1 x2 x3 x4 x88 v5 v6 j) =
  pv (faV 7 x3) fun t1 =>
  ld false 1 t1 fun t2 =>
  pv (lenV t2) fun t3 =>
  pv (binV .none .lss v6 t3) fun t4 =>
  gdK t4 true (fun k => k v6) fun t5 =>
  gdK t4 true (fun k => pv (binV .none .lss t5 (.int .i64 20)) k) fun t6 =>
  pv (pickV t4 t6 (.bool false)) fun t7 =>
  cnd t7 (
   pv (faV 2 x3) fun t8 =>
   ld false 1 t8 fun t9 =>
   pv (faV 3 x3) fun t10 =>
   ld false 1 t10 fun t11 =>
   callv Tryz.prog (.func (.func 16) #[] #[]) #[x0, t9, t11] (fun t12 =>
   lp (fun k2 => d47 [1, 1, 0, 1, 0, 0, 1, 0, 0, 1, 1, 0, 1, 0, 0] (thenD k2 (blk 2 (thenD (d47 [1, 1, 0, 1, 0, 0, 1, 0, 0, 1, 1, 1] (blk 1 (thenD (d47 [1, 1, 0, 1, 0, 0, 1, 1] (thenD k1 (blk 0 (thenD (d47 [1, 1, 1] (q47 K E)) (q47 K E))))) (thenD k1 (blk 0 (thenD (d47 [1, 1, 1] (q47 K E)) (q47 K E))))))) (blk 1 (thenD (d47 [1, 1, 0, 1, 0, 0, 1, 1] (thenD k1 (blk 0 (thenD (d47 [1, 1, 1] (q47 K E)) (q47 K E))))) (thenD k1 (blk 0 (thenD (d47 [1, 1, 1] (q47 K E)) (q47 K E)))))))))) (m47_1_1_0_1_0_0_1_0_0_1_1_0_1_0_0 x0 x1 x2 x3 x4 v5 v6 t12 v6 t1 t2 t3 t4 t4 t5 t6 t7 (j 19) (j 20) x0 t8 t9 t10 t11 t12 (j 71) (j 72) (j 73) (j 74) (j 75) (j 76) (j 77) (j 78) (j 79) (j 80) (j 81) (j 82) (j 83) (j 84) (j 85) (j 86) (j 87) x88 (.slice none 0 0) (.int .i64 0) (jf #[U, U, U, U, U, U, U, U, U, U, U, U, U, U, U, U, U, U, U, U, U, U, U, U, U, U, U, (j 27), (j 28), (j 29), (j 30), (j 31), (j 32), (j 33), (j 34), (j 35), (j 36), (j 37), (j 38), (j 39), (j 40), (j 41), (j 42), (j 43), (j 44), (j 45), (j 46), (j 47), (j 48), (j 49), (j 50), (j 51), (j 52), (j 53), (j 54), (j 55), (j 56), (j 57), (j 58), (j 59), (j 60), (j 61), (j 62), (j 63), (j 64), (j 65), (j 66), (j 67), (j 68), (j 69), (j 70)]))) E) (
   K v5) := by kernel_rfl
theorem t47_1_1_0_1_0_0_1_0_0_1_1_0_1_0_0 : d47 [1, 1, 0, 1, 0, 0, 1, 0, 0, 1, 1, 0, 1, 0, 0] (thenD k2 (blk 2 (thenD (d47 [1, 1, 0, 1, 0, 0, 1, 0, 0, 1, 1, 1] (blk 1 (thenD (d47 [1, 1, 0, 1, 0, 0, 1, 1] (thenD k1 (blk 0 (thenD (d47 [1, 1, 1] (q47 K E)) (q47 K E))))) (thenD k1 (blk 0 (thenD (d47 [1, 1, 1] (q47 K E)) (q47 K E))))))) (blk 1 (thenD (d47 [1, 1, 0, 1, 0, 0, 1, 1] (thenD k1 (blk 0 (thenD (d47 [1, 1, 1] (q47 K E)) (q47 K E))))) (thenD k1 (blk 0 (thenD (d47 [1, 1, 1] (q47 K E)) (q47 K E))))))))) (m47_1_1_0_1_0_0_1_0_0_1_1_0_1_0_0 x0 x1 x2 x3 x4 x5 x6 x7 x10 x11 x12 x13 x14 x15 x16 x17 x18 x19 x20 x21 x22 x23 x24 x25 x26 x71 x72 x73 x74 x75 x76 x77 x78 x79 x80 x81 x82 x83 x84 x85 x86 x87 x88 v8 v9 j) =
  pv (lenV x7) fun t1 =>
  pv (binV .none .lss v9 t1) fun t2 =>
  cnd t2 (
   pv (iaV none 2 x7 v9) fun t3 =>
   pv (faV 0 t3) fun t4 =>
   ld false 1 t4 fun t5 =>
   pv (iaV none 1 t5 (.int .i64 0)) fun t6 =>
   ld false 1 t6 fun t7 =>
   pv (faV 5 x3) fun t8 =>
   ld false 1 t8 fun t9 =>
   pv (cvV .i64 t9) fun t10 =>
   pv (binV .none .geq t7 t10) fun t11 =>
   gdK t11 true (fun k => k x7) fun t12 =>
   gdK t11 true (fun k => k v9) fun t13 =>
   gdK t11 true (fun k => pv (iaV none 2 t12 t13) k) fun t14 =>
   gdK t11 true (fun k => pv (faV 0 t14) k) fun t15 =>
   gdK t11 true (fun k => ld false 1 t15 k) fun t16 =>
   gdK t11 true (fun k => pv (iaV none 1 t16 (.int .i64 0)) k) fun t17 =>
   gdK t11 true (fun k => ld false 1 t17 k) fun t18 =>
   gdK t11 true (fun k => pv (faV 6 x3) k) fun t19 =>
   gdK t11 true (fun k => ld false 1 t19 k) fun t20 =>
   gdK t11 true (fun k => pv (cvV .i64 t20) k) fun t21 =>
   gdK t11 true (fun k => pv (binV .none .lss t18 t21) k) fun t22 =>
   pv (pickV t11 t22 (.bool false)) fun t23 =>
   gdK t23 true (fun k => k v9) fun t24 =>
   gdK t23 true (fun k => k x6) fun t25 =>
   gdK t23 true (fun k => pv (binV .none .add t25 (.int .i64 1)) k) fun t26 =>
   gdK t23 true (fun k => pv (binV .none .rem t24 t26) k) fun t27 =>
   gdK t23 true (fun k => pv (binV .none .eql t27 (.int .i64 0)) k) fun t28 =>
   pv (pickV t23 t28 (.bool false)) fun t29 =>
   cnd t29 (
    pv (iaV none 2 x7 v9) fun t30 =>
    ld true 2 t30 fun t31 =>
    nws 48 1 (bsC #[(.slice none 0 0), (.int .i64 0)] 2 1 #[(0, t31)]) fun t32 =>
    appX 48 2 32 v8 t32 fun t33 =>
    d47 [1, 1, 0, 1, 0, 0, 1, 0, 0, 1, 1, 0, 1, 0, 0, 1, 1] (thenD k2 (blk 2 (thenD (d47 [1, 1, 0, 1, 0, 0, 1, 0, 0, 1, 1, 1] (blk 1 (thenD (d47 [1, 1, 0, 1, 0, 0, 1, 1] (thenD k1 (blk 0 (thenD (d47 [1, 1, 1] (q47 K E)) (q47 K E))))) (thenD k1 (blk 0 (thenD (d47 [1, 1, 1] (q47 K E)) (q47 K E))))))) (blk 1 (thenD (d47 [1, 1, 0, 1, 0, 0, 1, 1] (thenD k1 (blk 0 (thenD (d47 [1, 1, 1] (q47 K E)) (q47 K E))))) (thenD k1 (blk 0 (thenD (d47 [1, 1, 1] (q47 K E)) (q47 K E))))))))) #[x0, x1, x2, x3, x4, x5, x6, x7, t33, v9, x10, x11, x12, x13, x14, x15, x16, x17, x18, x19, x20, x21, x22, x23, x24, x25, x26, v9, x7, t1, t2, (j 31), (j 32), x7, v9, t3, t4, t5, t6, t7, t8, t9, t10, t11, t11, t12, t13, t14, t15, t16, t17, t18, t19, t20, t21, t22, t23, t23, t24, t25, t26, t27, t28, t29, v8, x7, v9, t30, t31, t32, t33, x71, x72, x73, x74, x75, x76, x77, x78, x79, x80, x81, x82, x83, x84, x85, x86, x87, x88]) (
    d47 [1, 1, 0, 1, 0, 0, 1, 0, 0, 1, 1, 0, 1, 0, 0, 1, 1] (thenD k2 (blk 2 (thenD (d47 [1, 1, 0, 1, 0, 0, 1, 0, 0, 1, 1, 1] (blk 1 (thenD (d47 [1, 1, 0, 1, 0, 0, 1, 1] (thenD k1 (blk 0 (thenD (d47 [1, 1, 1] (q47 K E)) (q47 K E))))) (thenD k1 (blk 0 (thenD (d47 [1, 1, 1] (q47 K E)) (q47 K E))))))) (blk 1 (thenD (d47 [1, 1, 0, 1, 0, 0, 1, 1] (thenD k1 (blk 0 (thenD (d47 [1, 1, 1] (q47 K E)) (q47 K E))))) (thenD k1 (blk 0 (thenD (d47 [1, 1, 1] (q47 K E)) (q47 K E))))))))) #[x0, x1, x2, x3, x4, x5, x6, x7, v8, v9, x10, x11, x12, x13, x14, x15, x16, x17, x18, x19, x20, x21, x22, x23, x24, x25, x26, v9, x7, t1, t2, (j 31), (j 32), x7, v9, t3, t4, t5, t6, t7, t8, t9, t10, t11, t11, t12, t13, t14, t15, t16, t17, t18, t19, t20, t21, t22, t23, t23, t24, t25, t26, t27, t28, t29, (j 64), (j 65), (j 66), (j 67), (j 68), (j 69), (j 70), x71, x72, x73, x74, x75, x76, x77, x78, x79, x80, x81, x82, x83, x84, x85, x86, x87, x88])) (
   pv (cvV .u32 x6) fun t34 =>
   pv (binV .none .mul t34 (.int .u32 3)) fun t35 =>
   pv (binV .none .add t35 (.int .u32 1)) fun t36 =>
   pv (faV 7 x3) fun t37 =>
   ld false 1 t37 fun t38 =>
   pv (iaV none 2 t38 x6) fun t39 =>
   pv (faV 0 t39) fun t40 =>
   ld false 1 t40 fun t41 =>
   pv (binV .none .rem t41 (.int .u32 3)) fun t42 =>
   pv (binV .none .add t36 t42) fun t43 =>
   pv (bdC #[(.int .u32 0), (.slice none 0 0)] [(0, 1), (1, 1)] #[(0, t43), (1, v8)]) fun t44 =>
   nws 52 1 (bsC #[(.int .u32 0), (.slice none 0 0)] 2 1 #[(0, t44)]) fun t45 =>
   appX 52 2 32 x5 t45 fun t46 =>
   pv (binV .none .add x6 (.int .i64 1)) fun t47 =>
   k1 (m47_1_1_0_1_0_0 x0 x1 x2 x3 x4 x88 t46 t47 (jf #[U, U, U, U, U, U, U, x7, v8, v9, x10, x11, x12, x13, x14, x15, x16, x17, x18, x6, t47, x21, x22, x23, x24, x25, x26, v9, x7, t1, t2, (j 31), (j 32), (j 33), (j 34), (j 35), (j 36), (j 37), (j 38), (j 39), (j 40), (j 41), (j 42), (j 43), (j 44), (j 45), (j 46), (j 47), (j 48), (j 49), (j 50), (j 51), (j 52), (j 53), (j 54), (j 55), (j 56), (j 57), (j 58), (j 59), (j 60), (j 61), (j 62), (j 63), (j 64), (j 65), (j 66), (j 67), (j 68), (j 69), (j 70), x5, x6, t34, t35, t36, t37, t38, x6, t39, t40, t41, t42, t43, v8, t44, t45, t46]))) := by kernel_rfl
theorem t47_1_1_0_1_0_0_1_0_0_1_1_0_1_0_0_1_1 : d47 [1, 1, 0, 1, 0, 0, 1, 0, 0, 1, 1, 0, 1, 0, 0, 1, 1] (thenD k2 (blk 2 (thenD (d47 [1, 1, 0, 1, 0, 0, 1, 0, 0, 1, 1, 1] (blk 1 (thenD (d47 [1, 1, 0, 1, 0, 0, 1, 1] (thenD k1 (blk 0 (thenD (d47 [1, 1, 1] (q47 K E)) (q47 K E))))) (thenD k1 (blk 0 (thenD (d47 [1, 1, 1] (q47 K E)) (q47 K E))))))) (blk 1 (thenD (d47 [1, 1, 0, 1, 0, 0, 1, 1] (thenD k1 (blk 0 (thenD (d47 [1, 1, 1] (q47 K E)) (q47 K E))))) (thenD k1 (blk 0 (thenD (d47 [1, 1, 1] (q47 K E)) (q47 K E))))))))) #[x0, x1, x2, x3, x4, x5, x6, x7, x8, x9, x10, x11, x12, x13, x14, x15, x16, x17, x18, x19, x20, x21, x22, x23, x24, x25, x26, x27, x28, x29, x30, x31, x32, x33, x34, x35, x36, x37, x38, x39, x40, x41, x42, x43, x44, x45, x46, x47, x48, x49, x50, x51, x52, x53, x54, x55, x56, x57, x58, x59, x60, x61, x62, x63, x64, x65, x66, x67, x68, x69, x70, x71, x72, x73, x74, x75, x76, x77, x78, x79, x80, x81, x82, x83, x84, x85, x86, x87, x88] =
  pv (binV .none .add x9 (.int .i64 1)) fun t1 =>
  k2 (m47_1_1_0_1_0_0_1_0_0_1_1_0_1_0_0 x0 x1 x2 x3 x4 x5 x6 x7 x10 x11 x12 x13 x14 x15 x16 x17 x18 x19 x20 x21 x22 x23 x24 x25 x26 x71 x72 x73 x74 x75 x76 x77 x78 x79 x80 x81 x82 x83 x84 x85 x86 x87 x88 x8 t1 (jf #[U, U, U, U, U, U, U, U, U, U, U, U, U, U, U, U, U, U, U, U, U, U, U, U, U, U, U, x27, x28, x29, x30, x9, t1, x33, x34, x35, x36, x37, x38, x39, x40, x41, x42, x43, x44, x45, x46, x47, x48, x49, x50, x51, x52, x53, x54, x55, x56, x57, x58, x59, x60, x61, x62, x63, x64, x65, x66, x67, x68, x69, x70])) := by kernel_rfl
end
section
variable {K : Kont} {E : PanK} {k1 k2 k3 k4 k5 : Env → Hp → Prop} {σ : Type} {x0 x1 x2 x3 x4 x5 x6 x7 x8 x9 x10 x11 x12 x13 x14 x15 x16 x17 x18 x19 x20 x21 x22 x23 x24 x25 x26 x27 x28 x29 x30 x31 x32 x33 x34 x35 x36 x37 x38 x39 x40 x41 x42 x43 x44 x45 x46 x47 x48 x49 x50 x51 x52 x53 x54 x55 x56 x57 x58 x59 x60 x61 x62 x63 x64 x65 x66 x67 x68 x69 x70 x71 x72 x73 x74 x75 x76 x77 x78 x79 x80 x81 x82 x83 x84 x85 x86 x87 x88 x89 x90 x91 x92 x93 x94 x95 x96 x97 x98 x99 x100 x101 x102 x103 x104 x105 x106 x107 x108 x109 x110 x111 x112 v0 v1 v2 v3 v4 v5 v6 v7 v8 v9 v10 v11 v12 v13 v14 v15 v16 v17 v18 v19 v20 v21 v22 v23 v24 v25 v26 v27 v28 v29 v30 v31 v32 v33 v34 v35 v36 v37 v38 v39 v40 v41 v42 v43 v44 v45 v46 v47 v48 v49 v50 v51 v52 v53 v54 v55 v56 v57 v58 v59 v60 v61 v62 v63 v64 v65 v66 v67 v68 v69 v70 v71 v72 v73 v74 v75 v76 v77 v78 v79 v80 v81 v82 v83 v84 v85 v86 v87 v88 v89 v90 v91 v92 v93 v94 v95 v96 v97 v98 v99 v100 v101 v102 v103 v104 v105 v106 v107 v108 v109 v110 v111 v112 : Value} {h : Hp} {j : Nat → Value}
theorem l21_1_1_0_1_0_0 (f3 f4 : σ → Value) (I : σ → Hp → Prop) (μ : σ → Nat) (s0 : σ) (e3 : v3 = f3 s0) (e4 : v4 = f4 s0) (h0 : h.wf → ∃ h', h.wk h' ∧ I s0 h')
 (round : ∀ (k1 : Env → Hp → Prop) (s : σ) (j : Nat → Value) (h : Hp), I s h → h.wf → (∀ s' j' h', μ s' < μ s → (h'.wf → ∃ h'', h'.wk h'' ∧ I s' h'') → k1 (m21_1_1_0_1_0_0 x0 x1 x2 x51 (f3 s') (f4 s') j') h') → d21 [1, 1, 0, 1, 0, 0] (thenD k1 (blk 0 (thenD (d21 [1, 1, 1] (q21 K E)) (q21 K E)))) (m21_1_1_0_1_0_0 x0 x1 x2 x51 (f3 s) (f4 s) j) h) :
 lp (fun k1 => d21 [1, 1, 0, 1, 0, 0] (thenD k1 (blk 0 (thenD (d21 [1, 1, 1] (q21 K E)) (q21 K E))))) (m21_1_1_0_1_0_0 x0 x1 x2 x51 v3 v4 j) h := by
 subst e3
 subst e4
 exact loop_r (fun s j => m21_1_1_0_1_0_0 x0 x1 x2 x51 (f3 s) (f4 s) j) I μ round s0 j h0
theorem l21_1_1_0_1_0_0_1_0_0_1_1_0_0 (f3 f5 : σ → Value) (I : σ → Hp → Prop) (μ : σ → Nat) (s0 : σ) (e3 : v3 = f3 s0) (e5 : v5 = f5 s0) (h0 : h.wf → ∃ h', h.wk h' ∧ I s0 h')
 (round : ∀ (k2 : Env → Hp → Prop) (s : σ) (j : Nat → Value) (h : Hp), I s h → h.wf → (∀ s' j' h', μ s' < μ s → (h'.wf → ∃ h'', h'.wk h'' ∧ I s' h'') → k2 (m21_1_1_0_1_0_0_1_0_0_1_1_0_0 x0 x1 x2 x4 x6 x7 x8 x9 x10 x11 x12 x13 x14 x15 x16 x17 x18 x19 x20 x21 x22 x23 x24 x25 x26 x27 x51 (f3 s') (f5 s') j') h') → d21 [1, 1, 0, 1, 0, 0, 1, 0, 0, 1, 1, 0, 0] (thenD k2 (blk 2 (blk 1 (thenD (d21 [1, 1, 0, 1, 0, 0, 1, 1] (thenD k1 (blk 0 (thenD (d21 [1, 1, 1] (q21 K E)) (q21 K E))))) (thenD k1 (blk 0 (thenD (d21 [1, 1, 1] (q21 K E)) (q21 K E)))))))) (m21_1_1_0_1_0_0_1_0_0_1_1_0_0 x0 x1 x2 x4 x6 x7 x8 x9 x10 x11 x12 x13 x14 x15 x16 x17 x18 x19 x20 x21 x22 x23 x24 x25 x26 x27 x51 (f3 s) (f5 s) j) h) :
 lp (fun k2 => d21 [1, 1, 0, 1, 0, 0, 1, 0, 0, 1, 1, 0, 0] (thenD k2 (blk 2 (blk 1 (thenD (d21 [1, 1, 0, 1, 0, 0, 1, 1] (thenD k1 (blk 0 (thenD (d21 [1, 1, 1] (q21 K E)) (q21 K E))))) (thenD k1 (blk 0 (thenD (d21 [1, 1, 1] (q21 K E)) (q21 K E))))))))) (m21_1_1_0_1_0_0_1_0_0_1_1_0_0 x0 x1 x2 x4 x6 x7 x8 x9 x10 x11 x12 x13 x14 x15 x16 x17 x18 x19 x20 x21 x22 x23 x24 x25 x26 x27 x51 v3 v5 j) h := by
 subst e3
 subst e5
 exact loop_r (fun s j => m21_1_1_0_1_0_0_1_0_0_1_1_0_0 x0 x1 x2 x4 x6 x7 x8 x9 x10 x11 x12 x13 x14 x15 x16 x17 x18 x19 x20 x21 x22 x23 x24 x25 x26 x27 x51 (f3 s) (f5 s) j) I μ round s0 j h0
theorem l47_1_1_0_1_0_0 (f5 f6 : σ → Value) (I : σ → Hp → Prop) (μ : σ → Nat) (s0 : σ) (e5 : v5 = f5 s0) (e6 : v6 = f6 s0) (h0 : h.wf → ∃ h', h.wk h' ∧ I s0 h')
 (round : ∀ (k1 : Env → Hp → Prop) (s : σ) (j : Nat → Value) (h : Hp), I s h → h.wf → (∀ s' j' h', μ s' < μ s → (h'.wf → ∃ h'', h'.wk h'' ∧ I s' h'') → k1 (m47_1_1_0_1_0_0 x0 x1 x2 x3 x4 x88 (f5 s') (f6 s') j') h') → d47 [1, 1, 0, 1, 0, 0] (thenD k1 (blk 0 (thenD (d47 [1, 1, 1] (q47 K E)) (q47 K E)))) (m47_1_1_0_1_0_0 x0 x1 x2 x3 x4 x88 (f5 s) (f6 s) j) h) :
 lp (fun k1 => d47 [1, 1, 0, 1, 0, 0] (thenD k1 (blk 0 (thenD (d47 [1, 1, 1] (q47 K E)) (q47 K E))))) (m47_1_1_0_1_0_0 x0 x1 x2 x3 x4 x88 v5 v6 j) h := by
 subst e5
 subst e6
 exact loop_r (fun s j => m47_1_1_0_1_0_0 x0 x1 x2 x3 x4 x88 (f5 s) (f6 s) j) I μ round s0 j h0
theorem l47_1_1_0_1_0_0_1_0_0_1_1_0_1_0_0 (f8 f9 : σ → Value) (I : σ → Hp → Prop) (μ : σ → Nat) (s0 : σ) (e8 : v8 = f8 s0) (e9 : v9 = f9 s0) (h0 : h.wf → ∃ h', h.wk h' ∧ I s0 h')
 (round : ∀ (k2 : Env → Hp → Prop) (s : σ) (j : Nat → Value) (h : Hp), I s h → h.wf → (∀ s' j' h', μ s' < μ s → (h'.wf → ∃ h'', h'.wk h'' ∧ I s' h'') → k2 (m47_1_1_0_1_0_0_1_0_0_1_1_0_1_0_0 x0 x1 x2 x3 x4 x5 x6 x7 x10 x11 x12 x13 x14 x15 x16 x17 x18 x19 x20 x21 x22 x23 x24 x25 x26 x71 x72 x73 x74 x75 x76 x77 x78 x79 x80 x81 x82 x83 x84 x85 x86 x87 x88 (f8 s') (f9 s') j') h') → d47 [1, 1, 0, 1, 0, 0, 1, 0, 0, 1, 1, 0, 1, 0, 0] (thenD k2 (blk 2 (thenD (d47 [1, 1, 0, 1, 0, 0, 1, 0, 0, 1, 1, 1] (blk 1 (thenD (d47 [1, 1, 0, 1, 0, 0, 1, 1] (thenD k1 (blk 0 (thenD (d47 [1, 1, 1] (q47 K E)) (q47 K E))))) (thenD k1 (blk 0 (thenD (d47 [1, 1, 1] (q47 K E)) (q47 K E))))))) (blk 1 (thenD (d47 [1, 1, 0, 1, 0, 0, 1, 1] (thenD k1 (blk 0 (thenD (d47 [1, 1, 1] (q47 K E)) (q47 K E))))) (thenD k1 (blk 0 (thenD (d47 [1, 1, 1] (q47 K E)) (q47 K E))))))))) (m47_1_1_0_1_0_0_1_0_0_1_1_0_1_0_0 x0 x1 x2 x3 x4 x5 x6 x7 x10 x11 x12 x13 x14 x15 x16 x17 x18 x19 x20 x21 x22 x23 x24 x25 x26 x71 x72 x73 x74 x75 x76 x77 x78 x79 x80 x81 x82 x83 x84 x85 x86 x87 x88 (f8 s) (f9 s) j) h) :
 lp (fun k2 => d47 [1, 1, 0, 1, 0, 0, 1, 0, 0, 1, 1, 0, 1, 0, 0] (thenD k2 (blk 2 (thenD (d47 [1, 1, 0, 1, 0, 0, 1, 0, 0, 1, 1, 1] (blk 1 (thenD (d47 [1, 1, 0, 1, 0, 0, 1, 1] (thenD k1 (blk 0 (thenD (d47 [1, 1, 1] (q47 K E)) (q47 K E))))) (thenD k1 (blk 0 (thenD (d47 [1, 1, 1] (q47 K E)) (q47 K E))))))) (blk 1 (thenD (d47 [1, 1, 0, 1, 0, 0, 1, 1] (thenD k1 (blk 0 (thenD (d47 [1, 1, 1] (q47 K E)) (q47 K E))))) (thenD k1 (blk 0 (thenD (d47 [1, 1, 1] (q47 K E)) (q47 K E)))))))))) (m47_1_1_0_1_0_0_1_0_0_1_1_0_1_0_0 x0 x1 x2 x3 x4 x5 x6 x7 x10 x11 x12 x13 x14 x15 x16 x17 x18 x19 x20 x21 x22 x23 x24 x25 x26 x71 x72 x73 x74 x75 x76 x77 x78 x79 x80 x81 x82 x83 x84 x85 x86 x87 x88 v8 v9 j) h := by
 subst e8
 subst e9
 exact loop_r (fun s j => m47_1_1_0_1_0_0_1_0_0_1_1_0_1_0_0 x0 x1 x2 x3 x4 x5 x6 x7 x10 x11 x12 x13 x14 x15 x16 x17 x18 x19 x20 x21 x22 x23 x24 x25 x26 x71 x72 x73 x74 x75 x76 x77 x78 x79 x80 x81 x82 x83 x84 x85 x86 x87 x88 (f8 s) (f9 s) j) I μ round s0 j h0
end
end Go.Proofs.YtgjdjdjhoipfmaaGreatDoor.T
open Go Go.RowKit Go.Proofs.YtgjdjdjhoipfmaaGreatDoor.K Go.Proofs.YtgjdjdjhoipfmaaGreatDoor.T
set_option linter.unusedVariables false
set_option linter.unusedSimpArgs false
namespace Go.Proofs.YtgjdjdjhoipfmaaGreatDoor.A
variable {F F' : Nat → Option (List Value)} {M M' : Nat → Option Chunk} {N N' : Nat} {K : Kont} {E : PanK}
structure OpC where
  kind : Int
  at' : Int
  keys : List (List Int)
  v : List Int
  facts : List Fc
  fr : Int
  to : Int
  L : List En
structure OpC.ok (o : OpC) : Prop where
  kd : 0 ≤ o.kind ∧ o.kind < 256
  ta : 0 ≤ o.at' ∧ o.at' < 4294967296
  kl : o.keys.length ≤ 140737488351232
  kc : ∀ k ∈ o.keys, ∀ x ∈ k, 0 ≤ x ∧ x < 65536
  vl : o.v.length ≤ 140737488351232
  vc : ∀ x ∈ o.v, i64 x
  fl : o.facts.length ≤ 140737488351232
  fc : ∀ f ∈ o.facts, i64 f.2
  fo : 0 ≤ o.fr ∧ o.fr < 65536
  tt : 0 ≤ o.to ∧ o.to < 65536
  ll : o.L.length ≤ 140737488351232
  lt : ∀ e ∈ o.L, 0 ≤ e.1 ∧ e.1 < 4294967296
  lc : ∀ e ∈ o.L, ∀ f ∈ e.2, i64 f.2
def opcD (F : Nat → Option (List Value)) (cs : List Value) (o : OpC) : Prop := ∃ k v f L, cs = [.int .u8 o.kind, .int .u32 o.at', k, v, f, .int .u16 o.fr, .int .u16 o.to, L] ∧ kksD .u16 F k o.keys ∧ sF F 1 v o.v.length (ic o.v) ∧ fctsD F f o.facts ∧ entsD F L o.L ∧ o.ok
theorem opcD.mono {cs : List Value} {o : OpC} (h : opcD F cs o) (hF : subF F F') : opcD F' cs o := let ⟨k, v, f, L, e, h1, h2, h3, h4, h5⟩ := h; ⟨k, v, f, L, e, h1.mono hF, h2.mono hF, h3.mono hF, h4.mono hF, h5⟩
theorem kksD.form {k : IntKind} {v : Value} {ks : List (List Int)} (h : kksD k F v ks) : ∃ a c, v = .slice a ks.length c := let ⟨rows, h1, _⟩ := h; let ⟨a, c, h2, _⟩ := h1.form; ⟨a, c, h2⟩
theorem opcD.one {cs : List Value} {o : OpC} (h : opcD F cs o) : cs.length = 8 ∧ ∀ c ∈ cs, c.oneCell' = true := by
  obtain ⟨k, v, f, L, rfl, h1, h2, h3, h4, _⟩ := h
  obtain ⟨a1, c1, rfl⟩ := h1.form
  obtain ⟨a2, c2, rfl, _⟩ := h2.form
  obtain ⟨a3, c3, rfl⟩ := h3.form
  obtain ⟨a4, c4, rfl⟩ := h4.form
  exact ⟨rfl, List.all_eq_true.1 rfl⟩
def opsD (F : Nat → Option (List Value)) (v : Value) (l : List OpC) : Prop := ∃ rows, sF F 8 v l.length rows.flatten ∧ rowsF (opcD F) 8 rows l
theorem opsD.mono {v : Value} {l : List OpC} (h : opsD F v l) (hF : subF F F') : opsD F' v l := let ⟨rows, h1, h2⟩ := h; ⟨rows, h1.mono hF, h2.mono fun _ _ hr => hr.mono hF⟩
theorem add_any {e : EqK} {a b : Int} {h : Hp} (k : ∀ r : Int, K (.int .i64 r) h) : pv (binV e .add (.int .i64 a) (.int .i64 b)) K h := ⟨_, by rw [inV]; rfl, k _⟩
theorem heavy13_c {v : Value} {l : List OpC} (hv : opsD F v l) (hl : l.length ≤ 140737488351232) (k : ∀ r : Int, (Hp.mk F M N).wf → K (.int .i64 r) ⟨F, M, N⟩) :
    callv Tryz.prog (.func (.func 21) #[] #[]) #[v] K E ⟨F, M, N⟩ := by
  refine callv_of_text mixed Tryz.func21 (by kernel_rfl) (t21 _ E _) (fun hw => ?_)
  obtain ⟨rows, hv1, hv2⟩ := hv
  refine l21_1_1_0_1_0_0 (σ := Nat × Int) (fun s => .int .i64 s.2) (fun s => .int .i64 (s.1 : Nat)) (fun s h' => h' = ⟨F, M, N⟩ ∧ s.1 ≤ l.length) (fun s => l.length - s.1) (0, 0) rfl rfl
    (fun hw1 => ⟨_, wk_refl hw1, rfl, Nat.zero_le _⟩) (fun kk s j h1 hI hw1 next => ?_)
  rw [t21_1_1_0_1_0_0]
  obtain ⟨rfl, hi⟩ := hI
  refine lenF_r hv1 ?_
  refine lss_r (fun hlt => ?_) (fun hge => ?_)
  · have i1 : s.1 < l.length := by omega
    try simp only [sS]
    refine fld_r hv1 hv2 (by decide) i1 (off := 2) (by decide) fun p z r y hR _ hy => ?_
    obtain ⟨ck, cv, cf, cL, rfl, hk, _, hf, hL, ok⟩ := hR
    have hy' : y = ck := by simpa using hy.symm
    subst hy'
    obtain ⟨a1, c1, e1⟩ := hk.form
    refine pv_r (v := .int .i64 (l[s.1].keys.length : Nat)) (by rw [e1]; rfl) (add_any fun r1 => ?_)
    refine fld_r hv1 hv2 (by decide) i1 (off := 4) (by decide) fun p z r y hR _ hy => ?_
    obtain ⟨ck, cv, cf, cL, rfl, hk, _, hf, hL, ok⟩ := hR
    have hy' : y = cf := by simpa using hy.symm
    subst hy'
    obtain ⟨a1, c1, e1⟩ := hf.form
    refine pv_r (v := .int .i64 (l[s.1].facts.length : Nat)) (by rw [e1]; rfl) (add_any fun r2 => add_any fun r3 => ?_)
    refine l21_1_1_0_1_0_0_1_0_0_1_1_0_0 (σ := Nat × Int) (fun q => .int .i64 q.2) (fun q => .int .i64 (q.1 : Nat)) (fun q h' => h' = ⟨F, M, N⟩ ∧ q.1 ≤ l[s.1].L.length) (fun q => l[s.1].L.length - q.1) (0, r3) rfl rfl
      (fun hw2 => ⟨_, wk_refl hw2, rfl, Nat.zero_le _⟩) (fun kk2 q j2 h2 hI2 hw2 next2 => ?_)
    rw [t21_1_1_0_1_0_0_1_0_0_1_1_0_0]
    obtain ⟨rfl, hq⟩ := hI2
    refine fld_r hv1 hv2 (by decide) i1 (off := 7) (by decide) fun p z r y hR _ hy => ?_
    obtain ⟨ck, cv, cf, cL, rfl, hk, _, hf, hL, ok⟩ := hR
    have hy' : y = cL := by simpa using hy.symm
    subst hy'
    obtain ⟨a1, c1, e1⟩ := hL.form
    have hll := ok.ll
    refine pv_r (v := .int .i64 (l[s.1].L.length : Nat)) (by rw [e1]; rfl) ?_
    refine lss_r (fun hlt2 => ?_) (fun hge2 => ?_)
    · have q1 : q.1 < l[s.1].L.length := by omega
      try simp only [sS]
      refine fld_r hv1 hv2 (by decide) i1 (off := 7) (by decide) fun p z r y2 hR _ hy => ?_
      obtain ⟨ck, cv, cf, cL, rfl, hk, _, hf, hL, ok⟩ := hR
      have hy' : y2 = cL := by simpa using hy.symm
      subst hy'
      obtain ⟨lrows, hL1, hL2⟩ := hL
      refine fld_r hL1 hL2 (by decide) q1 (off := 1) (by decide) fun p z r y3 hR _ hy => ?_
      obtain ⟨fv, rfl, hfv⟩ := hR.at
      have hy' : y3 = fv := by simpa using hy.symm
      subst hy'
      obtain ⟨frows, hfa, _⟩ := hfv
      refine lenF_r hfa (add_any fun r5 => add_any fun r6 => ?_)
      refine inc_r (by omega) ?_
      exact next2 (q.1 + 1, r6) _ _ (by simp only; omega) (fun hw3 => ⟨_, wk_refl hw3, rfl, q1⟩)
    · try simp only [sS]
      refine inc_r (by omega) ?_
      exact next (s.1 + 1, q.2) _ _ (by simp only; omega) (fun hw3 => ⟨_, wk_refl hw3, rfl, i1⟩)
  · try simp only [sS]
    exact fun hc => ⟨_, wk_refl hc, fun hw' => k s.2 hw'⟩
def pick (l : List Fc) (fr to : Int) (i n : Nat) : List Fc := ((l.take n).mapIdx fun k f => (k, f)).filterMap fun p => if fr ≤ p.2.1.getD 0 0 ∧ p.2.1.getD 0 0 < to ∧ p.1 % (i + 1) = 0 then some p.2 else none
def entOf (l : List Dm) (o : OpC) : List En := (o.L.take 20).mapIdx fun i e => ((i : Int) * 3 + 1 + e.1 % 3, pick (factsOf l o.keys o.v) o.fr o.to i (factsOf l o.keys o.v).length)
theorem pick_succ {l : List Fc} {fr to : Int} {i n : Nat} (hn : n < l.length) : pick l fr to i (n + 1) = pick l fr to i n ++ (if fr ≤ l[n].1.getD 0 0 ∧ l[n].1.getD 0 0 < to ∧ n % (i + 1) = 0 then [l[n]] else []) := by
  unfold pick
  rw [mapIdx_take _ _ hn, List.filterMap_append]
  by_cases hc : fr ≤ l[n].1.getD 0 0 ∧ l[n].1.getD 0 0 < to ∧ n % (i + 1) = 0
  · rw [if_pos hc]; simp only [List.filterMap_cons, List.filterMap_nil, if_pos hc]
  · rw [if_neg hc]; simp only [List.filterMap_cons, List.filterMap_nil, if_neg hc]
theorem pick_len (l : List Fc) (fr to : Int) (i n : Nat) : (pick l fr to i n).length ≤ l.length := by
  unfold pick
  have := List.length_filterMap_le (fun p : Nat × Fc => if fr ≤ p.2.1.getD 0 0 ∧ p.2.1.getD 0 0 < to ∧ p.1 % (i + 1) = 0 then some p.2 else none) ((l.take n).mapIdx fun k f => (k, f))
  rw [List.length_mapIdx, List.length_take] at this
  omega
theorem entOf_len (l : List Dm) (o : OpC) : (entOf l o).length = min 20 o.L.length := by simp [entOf]
end Go.Proofs.YtgjdjdjhoipfmaaGreatDoor.A
open Go Go.RowKit Go.Proofs.YtgjdjdjhoipfmaaGreatDoor.K Go.Proofs.YtgjdjdjhoipfmaaGreatDoor.T
set_option linter.unusedVariables false
set_option linter.unusedSimpArgs false
namespace Go.Proofs.YtgjdjdjhoipfmaaGreatDoor.A
variable {F F' : Nat → Option (List Value)} {M M' : Nat → Option Chunk} {N N' : Nat} {K : Kont} {E : PanK}
theorem keyOf_pos {l : List Dm} (h0 : 0 < l.length) (c : List Int) : 0 < (keyOf l c).length := by rw [keyOf_len]; exact h0
theorem facts_key0 {l : List Dm} (hl : goodDims l) {ks : List (List Int)} {v : List Int} {f : Fc} (hf : f ∈ factsOf l ks v) : 0 < f.1.length := by
  obtain ⟨c, hc⟩ := (factsOf_mem hf).1
  rw [hc]; exact keyOf_pos hl.1 c
theorem entOf_at {l : List Dm} {o : OpC} {i : Nat} (h1 : i < o.L.length) (h2 : i < 20) (h3 : i < (entOf l o).length) : (entOf l o)[i] = ((i : Int) * 3 + 1 + o.L[i].1 % 3, pick (factsOf l o.keys o.v) o.fr o.to i (factsOf l o.keys o.v).length) := by
  have h : (entOf l o)[i]? = some ((i : Int) * 3 + 1 + o.L[i].1 % 3, pick (factsOf l o.keys o.v) o.fr o.to i (factsOf l o.keys o.v).length) := by
    unfold entOf
    rw [List.getElem?_mapIdx, List.getElem?_take, if_pos h2, List.getElem?_eq_getElem h1]; rfl
  rw [List.getElem?_eq_getElem h3] at h
  exact Option.some.inj h
theorem u32_mul {e : EqK} {a b : Int} {h : Hp} (h0 : 0 ≤ a * b) (h1 : a * b < 4294967296) (kk : K (.int .u32 (a * b)) h) : pv (binV e .mul (.int .u32 a) (.int .u32 b)) K h := ⟨_, by rw [inV]; rfl, by rw [u32w h0 h1]; exact kk⟩
set_option maxRecDepth 10000 in
set_option maxHeartbeats 4000000 in
theorem entries13_c {dv : Value} {cs : List Value} {l : List Dm} {o : OpC} (hd : dimsD F dv l) (hgd : goodDims l) (ho : opcD F cs o)
    (k : ∀ v' F' N', (Hp.mk F' M N').wf → subF F F' → N ≤ N' → entsD F' v' (entOf l o) → K v' ⟨F', M, N'⟩) :
    callv Tryz.prog (.func (.func 47) #[] #[]) #[dv, .agg cs.toArray] K E ⟨F, M, N⟩ := by
  refine callv_of_text mixed Tryz.func47 (by kernel_rfl) (t47 _ E _ _) (fun hw => ?_)
  have hm : clean M N := hw.m
  obtain ⟨ck, cv, cf, cL, rfl, hk, hv, hf, hL, ok⟩ := ho
  have hl4 := hgd.2.1
  have hds := goodDims_sz hgd
  obtain ⟨lrows, hL1, hL2⟩ := hL
  have hll := ok.ll
  refine nw_r (cs := [.int .u8 o.kind, .int .u32 o.at', ck, cv, cf, .int .u16 o.fr, .int .u16 o.to, cL]) (fun b3 hb3 => ?_)
  obtain ⟨M1, hM1e⟩ : ∃ M1, M1 = upd M b3 (some (.cells 62 [.int .u8 o.kind, .int .u32 o.at', ck, cv, cf, .int .u16 o.fr, .int .u16 o.to, cL] [Value.int .u8 o.kind, .int .u32 o.at', ck, cv, cf, .int .u16 o.fr, .int .u16 o.to, cL].length)) := ⟨_, rfl⟩
  rw [← hM1e]
  have hbox : M1 b3 = some (.cells 62 [.int .u8 o.kind, .int .u32 o.at', ck, cv, cf, .int .u16 o.fr, .int .u16 o.to, cL] 8) := by rw [hM1e]; exact upd_same _ _ _
  have hM1 : ∀ q, q < N → M1 q = M q := fun q hq => by rw [hM1e]; exact upd_ne _ _ (by omega)
  have hm1 : clean M1 (b3 + 1) := by rw [hM1e]; exact hm.new hb3 _
  clear hM1e
  obtain ⟨N1, hN1⟩ : ∃ n, n = b3 + 1 := ⟨_, rfl⟩
  rw [← hN1] at hm1 ⊢
  obtain ⟨fs, hfs⟩ : ∃ fs, fs = factsOf l o.keys o.v := ⟨_, rfl⟩
  have hfl : fs.length ≤ 200 := by rw [hfs, factsOf_len]; omega
  refine l47_1_1_0_1_0_0 (σ := Nat × Value) (fun s => s.2) (fun s => .int .i64 (s.1 : Nat))
    (fun s h' => ∃ F' M' N' rows', h' = ⟨F', M', N'⟩ ∧ subF F F' ∧ N1 ≤ N' ∧ (∀ q, q < N1 → M' q = M1 q) ∧ clean M' N' ∧ s.1 ≤ (entOf l o).length ∧ own M' N1 52 2 s.2 s.1 rows'.flatten ∧ rowsF (entD F') 2 rows' ((entOf l o).take s.1)) (fun s => o.L.length - s.1) (0, .slice none 0 0) rfl rfl
    (fun hw2 => ⟨_, wk_refl hw2, F, M1, N1, [], rfl, subF.refl _, Nat.le_refl _, fun _ _ => rfl, hm1, Nat.zero_le _, own.nil, rowsF.nil _ _⟩) (fun kk s j h1 hI hw2 next => ?_)
  rw [t47_1_1_0_1_0_0]
  obtain ⟨F2, M2, N2, rows2, rfl, hF2, hN2, hM2, hm2, hi, hoo, hrr⟩ := hI
  have hel := entOf_len l o
  have hb2 := (hM2 b3 (by omega)).trans hbox
  try simp only [sS]
  refine ldM (v := cL) ?_ hb2
  refine lenF_r hL1 ?_
  have done : s.1 = (entOf l o).length → ∀ h', h' = (⟨F2, M2, N2⟩ : Hp) → h'.wf → ∃ h'', h'.wk h'' ∧ (h''.wf → K s.2 h'') := fun he h' e' hc => by
    subst e'
    rw [he] at hoo
    rw [List.take_of_length_le (by omega)] at hrr
    have hMM : ∀ q, q < N → M2 q = M q := fun q hq => (hM2 q (by omega)).trans (hM1 q hq)
    exact ⟨_, frz_wf hm hMM hc, fun hw' => k _ _ _ hw' (hF2.trans (subF_frzAll hc)) (by omega) (ents_frzA hc (hoo.keep (fun _ _ => rfl) (by omega)) hrr)⟩
  refine lss_r (fun hlt => ?_) (fun hge => ?_)
  · have i1 : s.1 < o.L.length := by omega
    try simp only [sS]
    refine lss_r (fun hlt2 => ?_) (fun hge2 => ?_)
    · have i2 : s.1 < (entOf l o).length := by omega
      have he : (entOf l o)[s.1] = ((s.1 : Int) * 3 + 1 + o.L[s.1].1 % 3, pick fs o.fr o.to s.1 fs.length) := by
        rw [hfs]; exact entOf_at i1 (by omega) i2
      try simp only [sS]
      refine ldM (v := ck) ?_ hb2
      refine ldM (v := cv) ?_ hb2
      refine facts_c (hd.mono hF2) (hk.mono hF2) (hv.mono hF2) (by omega) hds ok.kc ok.kl ok.vl (fun vf F3 N3 hw3 hF3 hN3 hvf => ?_)
      rw [← hfs] at hvf
      have hm3 : clean M2 N3 := hw3.m
      have hvf0 := hvf
      obtain ⟨frows, hvf1, hvf2⟩ := hvf0
      refine l47_1_1_0_1_0_0_1_0_0_1_1_0_1_0_0 (σ := Nat × Value) (fun q => q.2) (fun q => .int .i64 (q.1 : Nat))
        (fun q h' => ∃ M' N' prows, h' = ⟨F3, M', N'⟩ ∧ N3 ≤ N' ∧ (∀ x, x < N3 → M' x = M2 x) ∧ clean M' N' ∧ q.1 ≤ fs.length ∧ own M' N3 48 2 q.2 (pick fs o.fr o.to s.1 q.1).length prows.flatten ∧ rowsF (fctD F3) 2 prows (pick fs o.fr o.to s.1 q.1)) (fun q => fs.length - q.1) (0, .slice none 0 0) rfl rfl
        (fun hw4 => ⟨_, wk_refl hw4, M2, N3, [], rfl, Nat.le_refl _, fun _ _ => rfl, hm3, Nat.zero_le _, own.nil, rowsF.nil _ _⟩) (fun kk2 q j2 h2 hI2 hw4 next2 => ?_)
      rw [t47_1_1_0_1_0_0_1_0_0_1_1_0_1_0_0]
      obtain ⟨M4, N4, prows, rfl, hN4, hM4, hm4, hq, hop, hpr⟩ := hI2
      have hb4 := (hM4 b3 (by omega)).trans hb2
      have hpl := pick_len fs o.fr o.to s.1 q.1
      refine lenF_r hvf1 ?_
      refine lss_r (fun hlt4 => ?_) (fun hge4 => ?_)
      · have q1 : q.1 < fs.length := by omega
        have hk0 : 0 < fs[q.1].1.length := facts_key0 hgd (by rw [← hfs]; exact List.getElem_mem q1)
        have e0 : fs[q.1].1.getD 0 0 = fs[q.1].1[0] := getD_at hk0 0
        have ep := pick_succ (fr := o.fr) (to := o.to) (i := s.1) q1
        have no : ¬ (o.fr ≤ fs[q.1].1.getD 0 0 ∧ fs[q.1].1.getD 0 0 < o.to ∧ q.1 % (s.1 + 1) = 0) → ∀ h', h' = (⟨F3, M4, N4⟩ : Hp) → h'.wf → ∃ h'', h'.wk h'' ∧ ∃ M' N' prows, h'' = ⟨F3, M', N'⟩ ∧ N3 ≤ N' ∧ (∀ x, x < N3 → M' x = M2 x) ∧ clean M' N' ∧ q.1 + 1 ≤ fs.length ∧ own M' N3 48 2 q.2 (pick fs o.fr o.to s.1 (q.1 + 1)).length prows.flatten ∧ rowsF (fctD F3) 2 prows (pick fs o.fr o.to s.1 (q.1 + 1)) := fun hn h' e' hc => by
          subst e'
          rw [if_neg hn, List.append_nil] at ep
          rw [ep]
          exact ⟨_, wk_refl hc, M4, N4, prows, rfl, hN4, hM4, hm4, q1, hop, hpr⟩
        have hfo := ok.fo
        have hto := ok.tt
        try simp only [sS]
        refine fld_r hvf1 hvf2 (by decide) q1 (off := 0) (by decide) fun p z r y hR _ hy => ?_
        obtain ⟨kv, rfl, hkv, hkl⟩ := hR
        have hy' : y = kv := by simpa using hy.symm
        subst hy'
        refine ixn_r (i := 0) hkv hk0 fun p => ?_
        refine ldM (v := .int .u16 o.fr) ?_ hb4
        refine pv_r (v := .int .i64 o.fr) (by show some (Value.int .i64 (IntKind.i64.wrap o.fr)) = _; rw [wrap_in (by omega) (by omega)]) ?_
        refine geq_r (fun c1 => ?_) (fun c1 => ?_)
        rotate_left
        · try simp only [sS]
          rw [t47_1_1_0_1_0_0_1_0_0_1_1_0_1_0_0_1_1]
          refine inc_r (by omega) ?_
          exact next2 (q.1 + 1, q.2) _ _ (by simp only; omega) (fun hw5 => no (by omega) _ rfl hw5)
        try simp only [sS]
        refine fld_r hvf1 hvf2 (by decide) q1 (off := 0) (by decide) fun p z r y hR _ hy => ?_
        obtain ⟨kv, rfl, hkv, hkl⟩ := hR
        have hy' : y = kv := by simpa using hy.symm
        subst hy'
        refine ixn_r (i := 0) hkv hk0 fun p => ?_
        refine ldM (v := .int .u16 o.to) ?_ hb4
        refine pv_r (v := .int .i64 o.to) (by show some (Value.int .i64 (IntKind.i64.wrap o.to)) = _; rw [wrap_in (by omega) (by omega)]) ?_
        refine lss_r (fun c2 => ?_) (fun c2 => ?_)
        rotate_left
        · try simp only [sS]
          rw [t47_1_1_0_1_0_0_1_0_0_1_1_0_1_0_0_1_1]
          refine inc_r (by omega) ?_
          exact next2 (q.1 + 1, q.2) _ _ (by simp only; omega) (fun hw5 => no (by omega) _ rfl hw5)
        try simp only [sS]
        refine inc_r (by omega) (rem_n (a := q.1) (b := s.1 + 1) (by omega) ?_)
        refine eql_r (fun c3 => ?_) (fun c3 => ?_)
        rotate_left
        · try simp only [sS]
          rw [t47_1_1_0_1_0_0_1_0_0_1_1_0_1_0_0_1_1]
          refine inc_r (by omega) ?_
          exact next2 (q.1 + 1, q.2) _ _ (by simp only; omega) (fun hw5 => no (by omega) _ rfl hw5)
        try simp only [sS]
        refine row_r hvf1 hvf2 (by decide) q1 (fun p r _ hR hrl hr1 => ?_)
        have hR' := hR
        obtain ⟨kv, hre, hkv, hkl⟩ := hR
        subst hre
        obtain ⟨ka, kc, kf, _⟩ := hkv.form
        refine push_r (new := [kv, .int .i64 fs[q.1].2]) hop hm4 (by omega) (by rw [kf]; kernel_rfl) rfl hr1 (by omega) (by unfold maxLen; omega) (fun p v' M5 N5 g1 g2 g3 g4 => ?_)
        rw [t47_1_1_0_1_0_0_1_0_0_1_1_0_1_0_0_1_1]
        refine inc_r (by omega) ?_
        rw [if_pos ⟨by omega, by omega, by omega⟩] at ep
        refine next2 (q.1 + 1, v') _ _ (by simp only; omega) (fun hw5 => ⟨_, wk_refl hw5, M5, N5, prows ++ [[kv, .int .i64 fs[q.1].2]], rfl, by omega, fun x hx => ?_, g4, q1, ?_, ?_⟩)
        · exact ((g2 x (fun e => by have := (hop.ge x e).1; omega) (by omega)).1).trans (hM4 x hx)
        · simp only
          rw [ep, List.length_append, List.length_singleton]
          exact (by simpa using g1 : own M5 N3 48 2 v' _ (prows ++ [[kv, .int .i64 fs[q.1].2]]).flatten)
        · simp only
          rw [ep]; exact rowsF_snoc1 hpr hR'.one hR'
      · try simp only [sS]
        rw [show q.1 = fs.length by omega] at hop hpr hpl
        obtain ⟨t0, t1⟩ := ok.lt _ (List.getElem_mem i1)
        refine u32_cv (by omega) (by omega) (u32_mul (by omega) (by omega) (u32_add (by omega) (by omega) ?_))
        try simp only [sS]
        refine ldM (v := cL) ?_ hb4
        refine fld_r (hL1.mono (hF2.trans hF3)) (hL2.mono fun _ _ h => h.mono (hF2.trans hF3)) (by decide) i1 (off := 0) (by decide) fun p z r y hR _ hy => ?_
        obtain ⟨fv, rfl, hfv⟩ := hR.at
        have hy' : y = .int .u32 o.L[s.1].1 := by simpa using hy.symm
        subst hy'
        refine rem_i t0 (by decide) (u32_add (by omega) (by omega) ?_)
        obtain ⟨a5, c5, e5, _⟩ := hop.form
        refine pv_r (v := .agg #[.int .u32 ((s.1 : Int) * 3 + 1 + o.L[s.1].1 % 3), q.2]) (by rw [e5]; kernel_rfl) ?_
        have ho5 : own M4 N1 52 2 s.2 s.1 rows2.flatten := hoo.keep (fun x hx => hM4 x (by have := hoo.lt hm2 x hx; omega)) (Nat.le_refl _)
        refine push_r (new := [.int .u32 ((s.1 : Int) * 3 + 1 + o.L[s.1].1 % 3), q.2]) ho5 hm4 (by omega) (by rw [e5]; kernel_rfl) rfl (by rw [e5]; exact List.all_eq_true.1 rfl) (by omega) (by unfold maxLen; omega) (fun p v' M5 N5 g1 g2 g3 g4 => ?_)
        refine inc_r (by omega) ?_
        have hne : ∀ x, q.2.ownBlock = some x → s.2.ownBlock ≠ some x := fun x hx e => by have := (hop.ge x hx).1; have := hoo.lt hm2 x e; omega
        obtain ⟨hop5, hne5⟩ := hop.far g2 hm4 hne
        refine next (s.1 + 1, v') _ _ (by simp only; omega) (fun hw5 => ⟨_, wk_P (p := fun x => q.2.ownBlock = some x) hw5, _, _, N5, rows2 ++ [[.int .u32 ((s.1 : Int) * 3 + 1 + o.L[s.1].1 % 3), q.2]], rfl, (hF2.trans hF3).trans (subF_frzP hw5), by omega, fun x hx => ?_, keepM_clean g4, i2, ?_, ?_⟩)
        · have x1 : ¬ q.2.ownBlock = some x := fun e => by have := (hop.ge x e).1; omega
          rw [keepM_in x1, (g2 x (fun e => by have := (ho5.ge x e).1; omega) (by omega)).1, hM4 x (by omega), hM2 x hx]
        · have : own M5 N1 52 2 v' (s.1 + 1) (rows2 ++ [[.int .u32 ((s.1 : Int) * 3 + 1 + o.L[s.1].1 % 3), q.2]]).flatten := by simpa using g1
          exact this.keep (fun x hx => keepM_in (fun e => hne5 x e hx)) (Nat.le_refl _)
        · simp only
          rw [List.take_add_one, List.getElem?_eq_getElem i2, Option.toList_some, he]
          have he5 : entD (frzP F3 M5 (fun x => q.2.ownBlock = some x)) [.int .u32 ((s.1 : Int) * 3 + 1 + o.L[s.1].1 % 3), q.2] ((s.1 : Int) * 3 + 1 + o.L[s.1].1 % 3, pick fs o.fr o.to s.1 fs.length) := ⟨q.2, rfl, ⟨prows, hop5.frzP (fun x h => h), hpr.mono fun _ _ h => h.mono (subF_frzP hw5)⟩, by simp only; omega⟩
          exact rowsF_snoc1 (hrr.mono fun _ _ h => h.mono (hF3.trans (subF_frzP hw5))) he5.one he5
    · try simp only [sS]
      exact done (by omega) _ rfl
  · try simp only [sS]
    exact done (by omega) _ rfl
end Go.Proofs.YtgjdjdjhoipfmaaGreatDoor.A
open Go Go.RowKit Go.Proofs.YtgjdjdjhoipfmaaGreatDoor.K Go.Proofs.YtgjdjdjhoipfmaaGreatDoor.T
set_option linter.unusedVariables false
set_option linter.unusedSimpArgs false
namespace Go.Proofs.YtgjdjdjhoipfmaaGreatDoor.A
variable {F F' : Nat → Option (List Value)} {M M' : Nat → Option Chunk} {N N' : Nat} {K : Kont} {E : PanK}
structure both (F : Nat → Option (List Value)) (M : Nat → Option Chunk) (B g g2 : Nat) (hv dv : Value) (rows : List (List Value)) (dv2 lv2 : Value) (l : List Dm) (h : List En) : Prop where
  c : isCube F M B g hv dv rows l h
  r : isRef F M g2 dv2 lv2 l h
  o : okH l 5000 200 h
  n1 : g2 ≠ g
  n2 : hv.ownBlock ≠ some g2
def doesH (l : List Dm) (h : List En) (o : OpC) : List En :=
  if o.kind % 6 = 4 then addH l h o.at' o.facts else if o.kind % 6 = 5 then replF l o.fr o.to (replF l o.fr o.to h o.L) (entOf l o) else addH l h (o.at' % 40) (factsOf l o.keys o.v)
theorem okH.does {l : List Dm} {h : List En} (k : okH l 5000 200 h) {o : OpC} (ok : o.ok) : okH l 5000 200 (doesH l h o) := by
  unfold doesH
  split
  · exact k.add ok.ta.1 _
  · split
    · exact (k.repl _ _ _).repl _ _ _
    · have := ok.ta; exact k.add (by omega) _
theorem entOf_time {l : List Dm} {o : OpC} (ok : o.ok) : ∀ e ∈ entOf l o, 0 ≤ e.1 ∧ e.1 < 4294967296 := fun e he => by
  obtain ⟨i, hi, rfl⟩ := List.mem_iff_getElem.1 he
  have hl := entOf_len l o
  rw [entOf_at (by omega) (by omega) hi]
  simp only; omega
theorem beV {x y : Bool} : binV .bool .eql (.bool x) (.bool y) = some (.bool (x == y)) := rfl
theorem addE_le (l : List Dm) (h : List En) (t : Int) (fs : List Fc) : addE l h t fs ≤ 130 := by
  unfold addE; split; omega; split; omega; split <;> omega
theorem replE_le (l : List Dm) (a b : Int) (h es : List En) : replE l a b h es ≤ 3 := by
  unfold replE; split; omega; split <;> omega
theorem w64 {x : Int} (h0 : 0 ≤ x) (h1 : x < 65536) {k : IntKind} {h : Hp} (kk : K (.int .i64 x) h) : pv (cvV .i64 (.int k x)) K h := ⟨.int .i64 x, by show some (Value.int .i64 (IntKind.i64.wrap x)) = _; rw [wrap_in (by omega) (by omega)], kk⟩
set_option maxRecDepth 10000 in
set_option maxHeartbeats 8000000 in
theorem does13_c {B g g2 : Nat} {hv dv udv dv2 lv2 : Value} {cs : List Value} {rows : List (List Value)} {l : List Dm} {h : List En} {o : OpC} (hb : both F M B g g2 hv dv rows dv2 lv2 l h) (hB : B ≤ N) (hgd : goodDims l) (hd : dimsD F udv l) (ho : opcD F cs o)
    (k : ∀ hv' F' M' N' rows' lv2', subF F F' → both F' M' B g g2 hv' dv rows' dv2 lv2' l (doesH l h o) → (∀ q, q ≠ g → q ≠ g2 → hv.ownBlock ≠ some q → q < N → M' q = M q ∧ hv'.ownBlock ≠ some q) → N ≤ N' → clean M' N' → (Hp.mk F' M' N').wf → K (.int .i64 1) ⟨F', M', N'⟩) :
    callv Tryz.prog (.func (.func 23) #[] #[]) #[.pointer (some ⟨g, 0, none⟩), .pointer (some ⟨g2, 0, none⟩), udv, .agg cs.toArray] K E ⟨F, M, N⟩ := by
  refine callv_of_text mixed Tryz.func23 (by kernel_rfl) (t23 _ E _ _ _ _) (fun hw => ?_)
  have hm : clean M N := hw.m
  have ho' := ho
  obtain ⟨ck, cv, cf, cL, rfl, hk, hvv, hf, hL, ok⟩ := ho'
  have hl4 := hgd.2.1
  have hds := goodDims_sz hgd
  have hlt := hb.c.lt hm
  have hgN := (hlt g (.inl rfl)).2
  have hg2N := hm.lt hb.r.gg
  have hvN : ∀ q, hv.ownBlock = some q → q < N := fun q hq => (hlt q (.inr hq)).2
  refine nw_r (cs := [.int .u8 o.kind, .int .u32 o.at', ck, cv, cf, .int .u16 o.fr, .int .u16 o.to, cL]) (fun b1 hb1 => ?_)
  obtain ⟨M1, hM1e⟩ : ∃ M1, M1 = upd M b1 (some (.cells 62 [.int .u8 o.kind, .int .u32 o.at', ck, cv, cf, .int .u16 o.fr, .int .u16 o.to, cL] [Value.int .u8 o.kind, .int .u32 o.at', ck, cv, cf, .int .u16 o.fr, .int .u16 o.to, cL].length)) := ⟨_, rfl⟩
  rw [← hM1e]
  have hbox : M1 b1 = some (.cells 62 [.int .u8 o.kind, .int .u32 o.at', ck, cv, cf, .int .u16 o.fr, .int .u16 o.to, cL] 8) := by rw [hM1e]; exact upd_same _ _ _
  have hM1 : ∀ q, q < N → M1 q = M q := fun q hq => by rw [hM1e]; exact upd_ne _ _ (by omega)
  have hm1 : clean M1 (b1 + 1) := by rw [hM1e]; exact hm.new hb1 _
  clear hM1e
  obtain ⟨N1, hN1⟩ : ∃ n, n = b1 + 1 := ⟨_, rfl⟩
  rw [← hN1] at hm1 ⊢
  have hC1 := hb.c.keep (M' := M1) (subF.refl F) (fun q hq => hM1 q (hlt q hq).2)
  have hR1 := hb.r.keep (M' := M1) (subF.refl F) (hM1 g2 hg2N)
  have hvb1 : hv.ownBlock ≠ some b1 := fun e => by have := hvN b1 e; omega
  try simp only [sS]
  refine ldM (v := ck) ?_ hbox
  refine ldM (v := cv) ?_ hbox
  refine facts_c hd hk hvv (by omega) hds ok.kc ok.kl ok.vl (fun uf F2 N2 hw2 hF2 hN2 huf => ?_)
  have hta := ok.ta
  have hkd := ok.kd
  have hfit := facts_fit hgd o.keys o.v
  obtain ⟨hf1, hf2⟩ := fitsF_of hfit
  refine ldM (v := .int .u8 o.kind) ?_ hbox
  refine rem_i hkd.1 (by decide) ?_
  have fin : ∀ hv' F' M' N' rows' lv2' h', subF F F' → h' = doesH l h o → isCube F' M' B g hv' dv rows' l h' → isRef F' M' g2 dv2 lv2' l h' → hv'.ownBlock ≠ some g2 → (∀ q, q ≠ g → q ≠ g2 → hv.ownBlock ≠ some q → q < N → M' q = M q ∧ hv'.ownBlock ≠ some q) → N ≤ N' → ∀ hp, hp = (⟨F', M', N'⟩ : Hp) → hp.wf → ∃ hp', hp.wk hp' ∧ (hp'.wf → K (.int .i64 1) hp') := fun hv' F' M' N' rows' lv2' h' hF he hC hR hn hM hN hp e' hc => by
    subst e'; subst he
    exact ⟨_, wk_refl hc, fun hw' => k hv' F' M' N' rows' lv2' hF ⟨hC, hR, hb.o.does ok, hb.n1, hn⟩ hM hN hw'.m hw'⟩
  refine eql_r (fun k4 => ?_) (fun k4 => ?_)
  · have hdo : doesH l h o = addH l h o.at' o.facts := by unfold doesH; rw [if_pos k4]
    try simp only [sS]
    refine ldM (v := .int .u32 o.at') ?_ hbox
    refine ldM (v := cf) ?_ hbox
    refine ldM (v := .int .u32 o.at') ?_ hbox
    refine ldM (v := cf) ?_ hbox
    refine add_to_c (hC1.keep (M' := M1) hF2 (fun _ _ => rfl)) (by omega) (by omega) hb.o.le hta.1 (hf.mono hF2) ok.fl (fun hv3 F3 M3 N3 rows3 hF3 hC3 hM3 hN3 hm3 hw3 => ?_)
    have hb3 := (hM3 b1 hvb1 (by omega) (by omega)).1.trans hbox
    refine ⟨ldV_c (row_M hb3) rfl, ldV_c (row_M hb3) rfl, ?_⟩
    have hle := addE_le l h o.at' o.facts
    refine cv_i64 (by omega) ?_
    have hg23 := hM3 g2 hb.n2 hb.n1 (by omega)
    have hf3 := (hf.mono hF2).mono hF3
    refine radd_c (hR1.keep (hF2.trans hF3) hg23.1) hb.o (by omega) hf3 ok.fl (fun lv4 F4 M4 N4 hF4 hR4 hM4 hN4 hw4 => ?_)
    refine eql_t rfl ?_
    try simp only [sS]
    have hb4 := (hM4 b1 (by omega)).trans hb3
    have hC4 := hC3.keep hF4 (fun q hq => hM4 q (fun e => by subst e; rcases hq with hq | hq; exact hb.n1 hq; exact hg23.2 hq))
    refine ldM (v := cf) ?_ hb4
    refine ldM (v := cf) ?_ hb4
    have hf4 := hf3.mono hF4
    refine fits_c hC4.gg hC4.dd (by omega) hf4 ok.fl (fun N5 hN5 hw5 => ?_)
    refine ⟨fun _ => ldV_c (row_M hb4) rfl, ?_⟩
    refine rfits_c hR4.gg hR4.dd (by omega) hf4 ok.fl (fun N6 hN6 hw6 => ?_)
    refine pv_r beV ?_
    rw [show (fitsF l o.facts == fitsF l o.facts) = true from beq_self_eq_true _]
    try simp only [sS]
    rw [t23_1_1_1_1]
    try simp only [sS]
    exact fin hv3 F4 M4 N6 rows3 lv4 _ ((hF2.trans hF3).trans hF4) hdo.symm hC4 hR4 hg23.2 (fun q q1 q2 q3 q4 => by
      obtain ⟨z1, z2⟩ := hM3 q q3 q1 (by omega)
      exact ⟨(hM4 q q2).trans (z1.trans (hM1 q q4)), z2⟩) (by omega) _ rfl
  try simp only [sS]
  refine eql_r (fun k5 => ?_) (fun k5 => ?_)
  · have hdo : doesH l h o = replF l o.fr o.to (replF l o.fr o.to h o.L) (entOf l o) := by unfold doesH; rw [if_neg k4, if_pos k5]
    have hfo := ok.fo
    have hto := ok.tt
    have hLt := ok.lt
    try simp only [sS]
    refine ldM (v := .int .u16 o.fr) ?_ hbox
    refine w64 (by omega) (by omega) ?_
    refine ldM (v := .int .u16 o.to) ?_ hbox
    refine w64 (by omega) (by omega) ?_
    refine ldM (v := cL) ?_ hbox
    refine ldM (v := .int .u16 o.fr) ?_ hbox
    refine w64 (by omega) (by omega) ?_
    refine ldM (v := .int .u16 o.to) ?_ hbox
    refine w64 (by omega) (by omega) ?_
    refine ldM (v := cL) ?_ hbox
    refine creplace_c (hC1.keep (M' := M1) hF2 (fun _ _ => rfl)) (by omega) hb.o (by omega) (hL.mono hF2) ok.ll (fun e he => (hLt e he).2) (fun hv3 F3 M3 N3 rows3 hF3 hC3 hM3 hN3 hm3 hw3 => ?_)
    have hb3 := (hM3 b1 hvb1 (by omega) (by omega)).1.trans hbox
    refine ⟨ldV_c (row_M hb3) rfl, ldV_c (row_M hb3) rfl, ldV_c (row_M hb3) rfl, ?_⟩
    have hle := replE_le l o.fr o.to h o.L
    refine cv_i64 (by omega) ?_
    have hg23 := hM3 g2 hb.n2 hb.n1 (by omega)
    refine rrepl_c (hR1.keep (hF2.trans hF3) hg23.1) hb.o (by omega) ((hL.mono hF2).mono hF3) ok.ll (fun e he => (hLt e he).2) (fun e he => (hLt e he).1) (fun lv4 F4 M4 N4 hF4 hR4 hM4 hN4 hw4 => ?_)
    refine eql_t rfl ?_
    have hb4 := (hM4 b1 (by omega) (by omega)).trans hb3
    have hv3N : ∀ q, q = g ∨ hv3.ownBlock = some q → q < N3 := fun q hq => (hC3.lt hm3 q hq).2
    have hC4 := hC3.keep hF4 (fun q hq => hM4 q (fun e => by subst e; rcases hq with hq | hq; exact hb.n1 hq; exact hg23.2 hq) (hv3N q hq))
    have F24 := (hF2.trans hF3).trans hF4
    refine ldMa (vs := [.int .u8 o.kind, .int .u32 o.at', ck, cv, cf, .int .u16 o.fr, .int .u16 o.to, cL]) ?_ hb4
    refine entries13_c (hd.mono F24) hgd (ho.mono F24) (fun ve F5 N5 hw5 hF5 hN5 he5 => ?_)
    have hm5 : clean M4 N5 := hw5.m
    have o4 := hb.o.repl o.fr o.to o.L
    have het := entOf_time (l := l) ok
    have hel := entOf_len l o
    try simp only [sS]
    refine ldM (v := .int .u16 o.fr) ?_ hb4
    refine w64 (by omega) (by omega) ?_
    refine ldM (v := .int .u16 o.to) ?_ hb4
    refine w64 (by omega) (by omega) ?_
    refine ldM (v := .int .u16 o.fr) ?_ hb4
    refine w64 (by omega) (by omega) ?_
    refine ldM (v := .int .u16 o.to) ?_ hb4
    refine w64 (by omega) (by omega) ?_
    have hv3b1 : hv3.ownBlock ≠ some b1 := (hM3 b1 hvb1 (by omega) (by omega)).2
    refine creplace_c (hC4.keep (M' := M4) hF5 (fun _ _ => rfl)) (by omega) o4 (by omega) he5 (by omega) (fun e he => (het e he).2) (fun hv6 F6 M6 N6 rows6 hF6 hC6 hM6 hN6 hm6 hw6 => ?_)
    have hb6 := (hM6 b1 hv3b1 (by omega) (by omega)).1.trans hb4
    refine ⟨fun _ => ldV_c (row_M hb6) rfl, fun _ => ldV_c (row_M hb6) rfl, ?_⟩
    have hle2 := replE_le l o.fr o.to (replF l o.fr o.to h o.L) (entOf l o)
    refine cv_i64 (by omega) ?_
    have hg26 := hM6 g2 hg23.2 hb.n1 (by omega)
    refine rrepl_c (hR4.keep (hF5.trans hF6) hg26.1) o4 (by omega) (he5.mono hF6) (by omega) (fun e he => (het e he).2) (fun e he => (het e he).1) (fun lv7 F7 M7 N7 hF7 hR7 hM7 hN7 hw7 => ?_)
    refine eql_t rfl ?_
    try simp only [sS]
    rw [t23_1_1_1_1]
    try simp only [sS]
    have hv6N : ∀ q, q = g ∨ hv6.ownBlock = some q → q < N6 := fun q hq => (hC6.lt hm6 q hq).2
    have hC7 := hC6.keep hF7 (fun q hq => hM7 q (fun e => by subst e; rcases hq with hq | hq; exact hb.n1 hq; exact hg26.2 hq) (hv6N q hq))
    exact fin hv6 F7 M7 N7 rows6 lv7 _ ((F24.trans hF5).trans (hF6.trans hF7)) hdo.symm hC7 hR7 hg26.2 (fun q q1 q2 q3 q4 => by
      obtain ⟨z1, z2⟩ := hM3 q q3 q1 (by omega)
      obtain ⟨z3, z4⟩ := hM6 q z2 q1 (by omega)
      exact ⟨by rw [hM7 q q2 (by omega), z3, hM4 q q2 (by omega), z1, hM1 q q4], z4⟩) (by omega) _ rfl
  · have hdo : doesH l h o = addH l h (o.at' % 40) (factsOf l o.keys o.v) := by unfold doesH; rw [if_neg k4, if_neg k5]
    try simp only [sS]
    refine ldM (v := .int .u32 o.at') ?_ hbox
    refine rem_i hta.1 (by decide) ?_
    refine ldM (v := .int .u32 o.at') ?_ hbox
    refine rem_i hta.1 (by decide) ?_
    refine add_to_c (hC1.keep (M' := M1) hF2 (fun _ _ => rfl)) (by omega) (by omega) hb.o.le (by omega) huf (by omega) (fun hv3 F3 M3 N3 rows3 hF3 hC3 hM3 hN3 hm3 hw3 => ?_)
    have hb3 := (hM3 b1 hvb1 (by omega) (by omega)).1.trans hbox
    refine ⟨ldV_c (row_M hb3) rfl, ?_⟩
    have hle := addE_le l h (o.at' % 40) (factsOf l o.keys o.v)
    refine cv_i64 (by omega) ?_
    have hg23 := hM3 g2 hb.n2 hb.n1 (by omega)
    refine radd_c (hR1.keep (hF2.trans hF3) hg23.1) hb.o (by omega) (huf.mono hF3) (by omega) (fun lv4 F4 M4 N4 hF4 hR4 hM4 hN4 hw4 => ?_)
    refine eql_t rfl ?_
    try simp only [sS]
    rw [t23_1_1_1_1]
    try simp only [sS]
    have hC4 := hC3.keep hF4 (fun q hq => hM4 q (fun e => by subst e; rcases hq with hq | hq; exact hb.n1 hq; exact hg23.2 hq))
    exact fin hv3 F4 M4 N4 rows3 lv4 _ ((hF2.trans hF3).trans hF4) hdo.symm hC4 hR4 hg23.2 (fun q q1 q2 q3 q4 => by
      obtain ⟨z1, z2⟩ := hM3 q q3 q1 (by omega)
      exact ⟨(hM4 q q2).trans (z1.trans (hM1 q q4)), z2⟩) (by omega) _ rfl
end Go.Proofs.YtgjdjdjhoipfmaaGreatDoor.A
open Go Go.RowKit Go.Proofs.YtgjdjdjhoipfmaaGreatDoor.K Go.Proofs.YtgjdjdjhoipfmaaGreatDoor.T
set_option linter.unusedVariables false
set_option linter.unusedSimpArgs false
namespace Go.Proofs.YtgjdjdjhoipfmaaGreatDoor.A
variable {F F' : Nat → Option (List Value)} {M M' : Nat → Option Chunk} {N N' : Nat} {K : Kont} {E : PanK}
theorem checkE_le (l : List Dm) (m lo hi : List Int) : checkE l m lo hi ≤ 60 := by unfold checkE; split; omega; split; omega; split <;> omega
theorem runE_le (l : List Dm) (t : List Rw) (m lo hi : List Int) : runE l t m lo hi ≤ 61 := by
  have := checkE_le l m lo hi
  unfold runE; split; split; omega; split <;> omega; omega
theorem fold_keys : ∀ (l t : List Rw) (r : Rw), r ∈ l.foldl (fun t r => layR t r.1 r.2) t → (∃ x ∈ l, x.1 = r.1) ∨ r ∈ t
  | [], t, r, h => .inr h
  | x :: l, t, r, h => by
    rcases fold_keys l _ r h with ⟨y, hy, e⟩ | h
    · exact .inl ⟨y, List.mem_cons_of_mem _ hy, e⟩
    · rcases layR_keys t x.1 x.2 r h with h | h
      · exact .inl ⟨x, List.mem_cons_self, h.symm⟩
      · exact .inr h
theorem tab_keys (l : List Rw) (r : Rw) (h : r ∈ tab l) : ∃ x ∈ l, x.1 = r.1 := (fold_keys l [] r h).elim id (fun h => by cases h)
theorem okH.total {l : List Dm} {n m : Nat} {h : List En} (o : okH l n m h) : (allF h).length ≤ n * m := by
  have key : ∀ (h : List En), (∀ e ∈ h, e.2.length ≤ m) → (allF h).length ≤ h.length * m := by
    intro h
    induction h with
    | nil => intro _; simp [allF]
    | cons e h ih =>
      intro hp
      have h1 := ih fun x hx => hp x (List.mem_cons_of_mem _ hx)
      have h2 := hp e List.mem_cons_self
      rw [allF_cons, List.length_append, List.length_cons, Nat.succ_mul]; omega
  exact Nat.le_trans (key h o.fl) (Nat.mul_le_mul_right _ o.le)
theorem inF_okK {l : List Dm} (hl : goodDims l) {k : List Int} (h : inF l k = true) : goodKey l k := by
  have hlen := inF_len h
  unfold inF at h
  rw [Bool.and_eq_true, List.all_eq_true] at h
  refine ⟨hlen, fun x hx => ?_⟩
  obtain ⟨i, hi, rfl⟩ := List.mem_iff_getElem.1 hx
  have hi' : i < l.length := by omega
  have := h.2 i (List.mem_range.2 hi')
  unfold inP at this
  rw [getD_at hi, getD_at hi'] at this
  have h1 := of_decide_eq_true this
  have h2 := hl.2.2 _ (List.getElem_mem hi')
  omega
theorem goodKey_okK {l : List Dm} (hl : goodDims l) {k : List Int} (h : goodKey l k) : okK k := by
  have := hl.2.1
  exact ⟨by rw [h.1]; omega, fun x hx => by have := h.2 x hx; unfold i64; omega⟩
theorem okH.okK {l : List Dm} (hl : goodDims l) {n m : Nat} {h : List En} (o : okH l n m h) : ∀ e ∈ h, ∀ f ∈ e.2, A.okK f.1 := fun e he f hf => goodKey_okK hl (inF_okK hl (o.fi e he f hf))
theorem okH.tab {l : List Dm} (hl : goodDims l) {n m : Nat} {h : List En} (o : okH l n m h) (t : Int) : ∀ r ∈ A.tab ((tillF h t).map fr1), A.okK r.1 := fun r hr => by
  obtain ⟨x, hx, e⟩ := tab_keys _ r hr
  obtain ⟨f, hf, rfl⟩ := List.mem_map.1 hx
  obtain ⟨d, hd, hfd⟩ := tillF_mem hf
  rw [← e]; exact o.okK hl d hd f hfd
theorem encFs_le {m d : Nat} {fs : List Fc} (h1 : fs.length ≤ m) (h2 : ∀ f ∈ fs, f.1.length ≤ d) : (encFs fs).length ≤ 4 + m * (9 + 4 * d) := by
  have key : ∀ fs : List Fc, (∀ f ∈ fs, f.1.length ≤ d) → (fs.flatMap encF).length ≤ fs.length * (9 + 4 * d) := by
    intro fs
    induction fs with
    | nil => intro _; simp
    | cons f fs ih =>
      intro hp
      have h1 := ih fun x hx => hp x (List.mem_cons_of_mem _ hx)
      have h2 := hp f List.mem_cons_self
      have h3 : (encF f).length = 1 + f.1.length * 4 + 8 := by unfold encF; rw [List.length_append, List.length_append, putL_len, putL_len, encK_len]; omega
      rw [List.flatMap_cons, List.length_append, List.length_cons, Nat.succ_mul]; omega
  have h3 := key fs h2
  have h4 : fs.length * (9 + 4 * d) ≤ m * (9 + 4 * d) := Nat.mul_le_mul_right _ h1
  unfold encFs
  rw [List.length_append, putL_len]; omega
theorem encEs_le {n m d : Nat} {h : List En} (h1 : h.length ≤ n) (h2 : ∀ e ∈ h, e.2.length ≤ m ∧ ∀ f ∈ e.2, f.1.length ≤ d) : (encEs h).length ≤ 4 + n * (8 + m * (9 + 4 * d)) := by
  have key : ∀ h : List En, (∀ e ∈ h, e.2.length ≤ m ∧ ∀ f ∈ e.2, f.1.length ≤ d) → (h.flatMap encE).length ≤ h.length * (8 + m * (9 + 4 * d)) := by
    intro h
    induction h with
    | nil => intro _; simp
    | cons e h ih =>
      intro hp
      have h1 := ih fun x hx => hp x (List.mem_cons_of_mem _ hx)
      obtain ⟨h2, h3⟩ := hp e List.mem_cons_self
      have h4 := encFs_le h2 h3
      have h5 : (encE e).length = 4 + (encFs e.2).length := by unfold encE; rw [List.length_append, putL_len]
      rw [List.flatMap_cons, List.length_append, List.length_cons, Nat.succ_mul]; omega
  have h3 := key h h2
  have h4 : h.length * (8 + m * (9 + 4 * d)) ≤ n * (8 + m * (9 + 4 * d)) := Nat.mul_le_mul_right _ h1
  unfold encEs
  rw [List.length_append, putL_len]; omega
theorem okH.enc {l : List Dm} (hl : goodDims l) {h : List En} (o : okH l 5000 200 h) : (encEs h).length ≤ 100000000 := by
  have h4 := hl.2.1
  have := encEs_le (d := 4) o.le fun e he => ⟨o.fl e he, fun f hf => by have := inF_len (o.fi e he f hf); omega⟩
  omega
theorem both.keep {B g g2 : Nat} {hv dv dv2 lv2 : Value} {rows : List (List Value)} {l : List Dm} {h : List En} (b : both F M B g g2 hv dv rows dv2 lv2 l h) (hF : subF F F') (hM : ∀ q, q = g ∨ q = g2 ∨ hv.ownBlock = some q → M' q = M q) : both F' M' B g g2 hv dv rows dv2 lv2 l h :=
  ⟨b.c.keep hF (fun q hq => hM q (hq.elim .inl (fun h => .inr (.inr h)))), b.r.keep hF (hM g2 (.inr (.inl rfl))), b.o, b.n1, b.n2⟩
theorem both.lt {B g g2 : Nat} {hv dv dv2 lv2 : Value} {rows : List (List Value)} {l : List Dm} {h : List En} (b : both F M B g g2 hv dv rows dv2 lv2 l h) (hm : clean M N) : ∀ q, q = g ∨ q = g2 ∨ hv.ownBlock = some q → q < N := fun q hq => by
  rcases hq with hq | hq | hq
  · exact (b.c.lt hm q (.inl hq)).2
  · subst hq; exact hm.lt b.r.gg
  · exact (b.c.lt hm q (.inr hq)).2
theorem same_ents {K : Value → Value → Kont} {B g g2 : Nat} {hv dv dv2 lv2 : Value} {rows : List (List Value)} {l : List Dm} {h : List En} {a b : Int} (hb : both F M B g g2 hv dv rows dv2 lv2 l h) (hgd : goodDims l) (k : ∀ u v F' N', (Hp.mk F' M N').wf → subF F F' → N ≤ N' → K u v (.bool true) ⟨F', M, N'⟩) :
    callv Tryz.prog (.func (.func 19) #[] #[]) #[.pointer (some ⟨g, 0, none⟩), .int .i64 a, .int .i64 b] (fun t27 => callv Tryz.prog (.func (.func 28) #[] #[]) #[.pointer (some ⟨g2, 0, none⟩), .int .i64 a, .int .i64 b] (fun t31 => callv Tryz.prog (.func (.func 27) #[] #[]) #[t27, t31] (K t27 t31) E) E) E ⟨F, M, N⟩ := by
  have hl4 := hgd.2.1
  have oe := hb.o.ent a b
  have hen := oe.enc hgd
  have hle := oe.le
  refine centries_c hb.c hb.o (by omega) (fun v1 F1 N1 hw1 hF1 hN1 h1 => ?_)
  refine rents_c (hb.r.keep (M' := M) hF1 rfl) hb.o (by omega) (fun v2 F2 N2 hw2 hF2 hN2 h2 => ?_)
  exact samee_c (h1.mono hF2) h2 (by omega) (fun e he => by have := oe.fl e he; omega) (by omega) (fun N3 hN3 hw3 => k _ _ F2 N3 hw3 (hF1.trans hF2) (by omega))
end Go.Proofs.YtgjdjdjhoipfmaaGreatDoor.A
open Go Go.RowKit Go.Proofs.YtgjdjdjhoipfmaaGreatDoor.K
set_option linter.unusedVariables false
set_option maxRecDepth 100000
namespace Go.Proofs.YtgjdjdjhoipfmaaGreatDoor.T
section
variable (K : Kont) (E : PanK) (k1 k2 k3 k4 k5 : Env → Hp → Prop) (x0 x1 x2 x3 x4 x5 x6 x7 x8 x9 x10 x11 x12 x13 x14 x15 x16 x17 x18 x19 x20 x21 x22 x23 x24 x25 x26 x27 x28 x29 x30 x31 x32 x33 x34 x35 x36 x37 x38 x39 x40 x41 x42 x43 x44 x45 x46 x47 x48 x49 x50 x51 x52 x53 x54 x55 x56 x57 x58 x59 x60 x61 x62 x63 x64 x65 x66 x67 x68 x69 x70 x71 x72 x73 x74 x75 x76 x77 x78 x79 x80 x81 x82 x83 x84 x85 x86 x87 x88 x89 x90 x91 x92 x93 x94 x95 x96 v0 v1 v2 v3 v4 v5 v6 v7 v8 v9 v10 v11 v12 v13 v14 v15 v16 v17 v18 v19 v20 v21 v22 v23 v24 v25 v26 v27 v28 v29 v30 v31 v32 v33 v34 v35 v36 v37 v38 v39 v40 v41 v42 v43 v44 v45 v46 v47 v48 v49 v50 v51 v52 v53 v54 v55 v56 v57 v58 v59 v60 v61 v62 v63 v64 v65 v66 v67 v68 v69 v70 v71 v72 v73 v74 v75 v76 v77 v78 v79 v80 v81 v82 v83 v84 v85 v86 v87 v88 v89 v90 v91 v92 v93 v94 v95 v96 : Value) (j : Nat → Value)
abbrev q6 : QD := bodyQ Tryz.prog Tryz.f6.results.toList K E
abbrev d6 (p : List Nat) : QD → Env → Hp → Prop := den Tryz.prog (sel (bodyOf Tryz.f6) p)
def m6_1_1_1_1_1_1_0_1_0_0 (j : Nat → Value) : Env := #[x0, x1, x2, x3, x4, x5, x6, x7, x8, x9, x10, x11, v12, x13, x14, x15, x16, x17, x18, x19, x20, x21, x22, x23, x24, x25, x26, x27, x28, x29, x30, x31, x32, x33, x34, x35, x36, x37, x38, x39, x40, x41, x42, x43, x44, x45, x46, x47, x48, x49, x50, x51, x52, x53, x54, x55, x56, x57, x58, x59, (j 60), (j 61), (j 62), (j 63), (j 64), (j 65), (j 66), (j 67), (j 68), (j 69), (j 70), (j 71), (j 72), (j 73), x74, x75, x76, x77, x78, x79, x80, x81, x82, x83, x84, x85, x86, x87, x88, x89, x90, x91, x92, x93, x94, x95, x96]
theorem t6 : d6 [] (q6 K E) #[x0, x1, x2, x3, U, U, U, U, U, U, U, U, U, U, U, U, U, U, U, U, U, U, U, U, U, U, U, U, U, U, U, U, U, U, U, U, U, U, U, U, U, U, U, U, U, U, U, U, U, U, U, U, U, U, U, U, U, U, U, U, U, U, U, U, U, U, U, U, U, U, U, U, U, U, U, U, U, U, U, U, U, U, U, U, U, U, U, U, U, U, U, U, U, U, U, U, U] =
  nw 36 (Value.cells x2).toList fun t1 =>
  pv (lenV x1) fun t2 =>
  pv (binV .none .gtr t2 (.int .i64 20)) fun t3 =>
  gdK t3 false (fun k => k x1) fun t4 =>
  gdK t3 false (fun k => callv Tryz.prog (.func (.func 21) #[] #[]) #[t4] k E) fun t5 =>
  gdK t3 false (fun k => pv (binV .none .gtr t5 (.int .i64 400)) k) fun t6 =>
  pv (pickV t3 (.bool true) t6) fun t7 =>
  gdK t7 false (fun k => pv (faV 1 t1) k) fun t8 =>
  gdK t7 false (fun k => ld false 1 t8 k) fun t9 =>
  gdK t7 false (fun k => pv (lenV t9) k) fun t10 =>
  gdK t7 false (fun k => pv (binV .none .gtr t10 (.int .i64 50)) k) fun t11 =>
  pv (pickV t7 (.bool true) t11) fun t12 =>
  gdK t12 false (fun k => pv (faV 2 t1) k) fun t13 =>
  gdK t12 false (fun k => ld false 1 t13 k) fun t14 =>
  gdK t12 false (fun k => pv (lenV t14) k) fun t15 =>
  gdK t12 false (fun k => pv (binV .none .gtr t15 (.int .i64 50)) k) fun t16 =>
  pv (pickV t12 (.bool true) t16) fun t17 =>
  gdK t17 false (fun k => pv (faV 0 t1) k) fun t18 =>
  gdK t17 false (fun k => ld false 1 t18 k) fun t19 =>
  gdK t17 false (fun k => pv (lenV t19) k) fun t20 =>
  gdK t17 false (fun k => pv (binV .none .gtr t20 (.int .i64 50)) k) fun t21 =>
  pv (pickV t17 (.bool true) t21) fun t22 =>
  gdK t22 false (fun k => callv Tryz.prog (.func (.func 11) #[] #[]) #[] k E) fun t23 =>
  gdK t22 false (fun k => pv (unV .not t23) k) fun t24 =>
  pv (pickV t22 (.bool true) t24) fun t25 =>
  cnd t25 (
   callv Tryz.prog (.func (.func 11) #[] #[]) #[] (fun t26 =>
   K t26) E) (
   callv Tryz.prog (.func (.func 12) #[] #[]) #[x0] (fun t27 =>
   callv Tryz.prog (.func (.func 13) #[] #[]) #[t27] (fun t28 =>
   callv Tryz.prog (.func (.func 22) #[] #[]) #[t27] (fun t29 =>
   pv (binV .ptr .eql t28 (.pointer none)) fun t30 =>
   gdK t30 false (fun k => k t29) fun t31 =>
   gdK t30 false (fun k => pv (binV .ptr .eql t31 (.pointer none)) k) fun t32 =>
   pv (pickV t30 (.bool true) t32) fun t33 =>
   cnd t33 (
    K (.bool false)) (
    lp (fun k1 => d6 [1, 1, 1, 1, 1, 1, 0, 1, 0, 0] (thenD k1 (blk 0 (thenD (d6 [1, 1, 1, 1, 1, 1, 1] (q6 K E)) (q6 K E))))) (m6_1_1_1_1_1_1_0_1_0_0 x0 x1 x2 x3 U U t1 U (.bool false) t27 t28 t29 U U U U x1 t2 t3 t3 t4 t5 t6 t7 t7 t8 t9 t10 t11 t12 t12 t13 t14 t15 t16 t17 t17 t18 t19 t20 t21 t22 t22 t23 t24 t25 U x0 t27 t27 t28 t27 t29 t28 t30 t30 t31 t32 t33 U U U U U U U U U U U U U U U U U U U U U U U (.int .i64 0) (jf #[])))) E) E) E) := by kernel_rfl
theorem t6_1_1_1_1_1_1_0_1_0_0 : d6 [1, 1, 1, 1, 1, 1, 0, 1, 0, 0] (thenD k1 (blk 0 (thenD (d6 [1, 1, 1, 1, 1, 1, 1] (q6 K E)) (q6 K E)))) (m6_1_1_1_1_1_1_0_1_0_0 x0 x1 x2 x3 x4 x5 x6 x7 x8 x9 x10 x11 x13 x14 x15 x16 x17 x18 x19 x20 x21 x22 x23 x24 x25 x26 x27 x28 x29 x30 x31 x32 x33 x34 x35 x36 x37 x38 x39 x40 x41 x42 x43 x44 x45 x46 x47 x48 x49 x50 x51 x52 x53 x54 x55 x56 x57 x58 x59 x74 x75 x76 x77 x78 x79 x80 x81 x82 x83 x84 x85 x86 x87 x88 x89 x90 x91 x92 x93 x94 x95 x96 v12 j) =
  pv (lenV x1) fun t1 =>
  pv (binV .none .lss v12 t1) fun t2 =>
  cnd t2 (
   pv (iaV none 8 x1 v12) fun t3 =>
   ld true 8 t3 fun t4 =>
   callv Tryz.prog (.func (.func 23) #[] #[]) #[x10, x11, x9, t4] (fun t5 =>
   pv (binV .none .add v12 (.int .i64 1)) fun t6 =>
   k1 (m6_1_1_1_1_1_1_0_1_0_0 x0 x1 x2 x3 x4 x5 x6 x7 x8 x9 x10 x11 x13 x14 x15 x16 x17 x18 x19 x20 x21 x22 x23 x24 x25 x26 x27 x28 x29 x30 x31 x32 x33 x34 x35 x36 x37 x38 x39 x40 x41 x42 x43 x44 x45 x46 x47 x48 x49 x50 x51 x52 x53 x54 x55 x56 x57 x58 x59 x74 x75 x76 x77 x78 x79 x80 x81 x82 x83 x84 x85 x86 x87 x88 x89 x90 x91 x92 x93 x94 x95 x96 t6 (jf #[U, U, U, U, U, U, U, U, U, U, U, U, U, U, U, U, U, U, U, U, U, U, U, U, U, U, U, U, U, U, U, U, U, U, U, U, U, U, U, U, U, U, U, U, U, U, U, U, U, U, U, U, U, U, U, U, U, U, U, U, v12, x1, t1, t2, v12, t6, x10, x11, x9, x1, v12, t3, t4, t5]))) E) (
   ld true 3 x6 fun t7 =>
   callv Tryz.prog (.func (.func 17) #[] #[]) #[x10, t7, x3] (fun t8 =>
   pv (exV 0 t8) fun t9 =>
   pv (exV 1 t8) fun t10 =>
   ld true 3 x6 fun t11 =>
   callv Tryz.prog (.func (.func 24) #[] #[]) #[x11, t11, x3] (fun t12 =>
   pv (exV 0 t12) fun t13 =>
   pv (exV 1 t12) fun t14 =>
   callv Tryz.prog (.func (.func 18) #[] #[]) #[t9, t13] (fun t15 =>
   gdK t15 true (fun k => k t10) fun t16 =>
   gdK t15 true (fun k => pv (cvV .i64 t16) k) fun t17 =>
   gdK t15 true (fun k => k t14) fun t18 =>
   gdK t15 true (fun k => pv (binV .none .eql t17 t18) k) fun t19 =>
   pv (pickV t15 t19 (.bool false)) fun t20 =>
   K t20) E) E) E) := by kernel_rfl
end
section
variable {K : Kont} {E : PanK} {k1 k2 k3 k4 k5 : Env → Hp → Prop} {σ : Type} {x0 x1 x2 x3 x4 x5 x6 x7 x8 x9 x10 x11 x12 x13 x14 x15 x16 x17 x18 x19 x20 x21 x22 x23 x24 x25 x26 x27 x28 x29 x30 x31 x32 x33 x34 x35 x36 x37 x38 x39 x40 x41 x42 x43 x44 x45 x46 x47 x48 x49 x50 x51 x52 x53 x54 x55 x56 x57 x58 x59 x60 x61 x62 x63 x64 x65 x66 x67 x68 x69 x70 x71 x72 x73 x74 x75 x76 x77 x78 x79 x80 x81 x82 x83 x84 x85 x86 x87 x88 x89 x90 x91 x92 x93 x94 x95 x96 v0 v1 v2 v3 v4 v5 v6 v7 v8 v9 v10 v11 v12 v13 v14 v15 v16 v17 v18 v19 v20 v21 v22 v23 v24 v25 v26 v27 v28 v29 v30 v31 v32 v33 v34 v35 v36 v37 v38 v39 v40 v41 v42 v43 v44 v45 v46 v47 v48 v49 v50 v51 v52 v53 v54 v55 v56 v57 v58 v59 v60 v61 v62 v63 v64 v65 v66 v67 v68 v69 v70 v71 v72 v73 v74 v75 v76 v77 v78 v79 v80 v81 v82 v83 v84 v85 v86 v87 v88 v89 v90 v91 v92 v93 v94 v95 v96 : Value} {h : Hp} {j : Nat → Value}
theorem l6_1_1_1_1_1_1_0_1_0_0 (f12 : σ → Value) (I : σ → Hp → Prop) (μ : σ → Nat) (s0 : σ) (e12 : v12 = f12 s0) (h0 : h.wf → ∃ h', h.wk h' ∧ I s0 h')
 (round : ∀ (k1 : Env → Hp → Prop) (s : σ) (j : Nat → Value) (h : Hp), I s h → h.wf → (∀ s' j' h', μ s' < μ s → (h'.wf → ∃ h'', h'.wk h'' ∧ I s' h'') → k1 (m6_1_1_1_1_1_1_0_1_0_0 x0 x1 x2 x3 x4 x5 x6 x7 x8 x9 x10 x11 x13 x14 x15 x16 x17 x18 x19 x20 x21 x22 x23 x24 x25 x26 x27 x28 x29 x30 x31 x32 x33 x34 x35 x36 x37 x38 x39 x40 x41 x42 x43 x44 x45 x46 x47 x48 x49 x50 x51 x52 x53 x54 x55 x56 x57 x58 x59 x74 x75 x76 x77 x78 x79 x80 x81 x82 x83 x84 x85 x86 x87 x88 x89 x90 x91 x92 x93 x94 x95 x96 (f12 s') j') h') → d6 [1, 1, 1, 1, 1, 1, 0, 1, 0, 0] (thenD k1 (blk 0 (thenD (d6 [1, 1, 1, 1, 1, 1, 1] (q6 K E)) (q6 K E)))) (m6_1_1_1_1_1_1_0_1_0_0 x0 x1 x2 x3 x4 x5 x6 x7 x8 x9 x10 x11 x13 x14 x15 x16 x17 x18 x19 x20 x21 x22 x23 x24 x25 x26 x27 x28 x29 x30 x31 x32 x33 x34 x35 x36 x37 x38 x39 x40 x41 x42 x43 x44 x45 x46 x47 x48 x49 x50 x51 x52 x53 x54 x55 x56 x57 x58 x59 x74 x75 x76 x77 x78 x79 x80 x81 x82 x83 x84 x85 x86 x87 x88 x89 x90 x91 x92 x93 x94 x95 x96 (f12 s) j) h) :
 lp (fun k1 => d6 [1, 1, 1, 1, 1, 1, 0, 1, 0, 0] (thenD k1 (blk 0 (thenD (d6 [1, 1, 1, 1, 1, 1, 1] (q6 K E)) (q6 K E))))) (m6_1_1_1_1_1_1_0_1_0_0 x0 x1 x2 x3 x4 x5 x6 x7 x8 x9 x10 x11 x13 x14 x15 x16 x17 x18 x19 x20 x21 x22 x23 x24 x25 x26 x27 x28 x29 x30 x31 x32 x33 x34 x35 x36 x37 x38 x39 x40 x41 x42 x43 x44 x45 x46 x47 x48 x49 x50 x51 x52 x53 x54 x55 x56 x57 x58 x59 x74 x75 x76 x77 x78 x79 x80 x81 x82 x83 x84 x85 x86 x87 x88 x89 x90 x91 x92 x93 x94 x95 x96 v12 j) h := by
 subst e12
 exact loop_r (fun s j => m6_1_1_1_1_1_1_0_1_0_0 x0 x1 x2 x3 x4 x5 x6 x7 x8 x9 x10 x11 x13 x14 x15 x16 x17 x18 x19 x20 x21 x22 x23 x24 x25 x26 x27 x28 x29 x30 x31 x32 x33 x34 x35 x36 x37 x38 x39 x40 x41 x42 x43 x44 x45 x46 x47 x48 x49 x50 x51 x52 x53 x54 x55 x56 x57 x58 x59 x74 x75 x76 x77 x78 x79 x80 x81 x82 x83 x84 x85 x86 x87 x88 x89 x90 x91 x92 x93 x94 x95 x96 (f12 s) j) I μ round s0 j h0
end
end Go.Proofs.YtgjdjdjhoipfmaaGreatDoor.T
open Go Go.RowKit Go.Proofs.YtgjdjdjhoipfmaaGreatDoor.K Go.Proofs.YtgjdjdjhoipfmaaGreatDoor.T
set_option linter.unusedVariables false
set_option linter.unusedSimpArgs false
namespace Go.Proofs.YtgjdjdjhoipfmaaGreatDoor.A
variable {F F' : Nat → Option (List Value)} {M M' : Nat → Option Chunk} {N N' : Nat} {K : Kont} {E : PanK}
theorem queryD.box {cs : List Value} {m lo hi : List Int} (h : queryD F cs m lo hi) : cs.length = 3 ∧ ∀ c ∈ cs, c.oneCell' = true := by
  obtain ⟨a, b, c, rfl, h1, h2, h3, _⟩ := h
  obtain ⟨a1, c1, rfl, _⟩ := h1.form
  obtain ⟨a2, c2, rfl, _⟩ := h2.form
  obtain ⟨a3, c3, rfl, _⟩ := h3.form
  exact ⟨rfl, List.all_eq_true.1 rfl⟩
theorem ldQ {b : Nat} {cs : List Value} {e : TypeId} {tot : Nat} (hl : cs.length = 3) (hM : M b = some (.cells e cs tot)) (k : K (.agg cs.toArray) ⟨F, M, N⟩) : ld true 3 (.pointer (some ⟨b, 0, none⟩)) K ⟨F, M, N⟩ :=
  ldMa (vs := cs) k hM (by rw [List.drop_zero, ← hl, List.take_length]) (by omega)
theorem okH.runs {l : List Dm} {h : List En} (o : okH l 5000 200 h) (t : Int) (m lo hi : List Int) : (runT l (A.tab ((tillF h t).map fr1)) m lo hi).length ≤ 1000000 := by
  have h1 := runT_len l (A.tab ((tillF h t).map fr1)) m lo hi
  have h2 := tab_len ((tillF h t).map fr1)
  rw [List.length_map] at h2
  have h3 := tillF_le h t h.length
  rw [List.take_length] at h3
  have h4 := o.total
  omega
set_option maxRecDepth 10000 in
set_option maxHeartbeats 8000000 in
theorem cubeAsks_c {um ul : Value} {cs : List Value} {m : List (Int × List Int)} {ops : List OpC} {qm qlo qhi : List Int} {t : Int} (hm : cutsD F um m) (hml : m.length ≤ 140737488351232) (hmc : ∀ c ∈ m, (0 ≤ c.1 ∧ c.1 < 65536) ∧ ∀ x ∈ c.2, 0 ≤ x ∧ x < 256)
    (hops : opsD F ul ops) (hopl : ops.length ≤ 140737488351232) (hq : queryD F cs qm qlo qhi) (hqi : ∀ x ∈ qm, i64 x) (k : ∀ h, K (.bool true) h) :
    call Tryz.prog 6 #[um, ul, .agg cs.toArray, .int .u32 t] K E ⟨F, M, N⟩ := by
  refine call_text mixed Tryz.func6 (by kernel_rfl) (t6 _ E _ _ _ _) (fun hw => ?_)
  have hm0 : clean M N := hw.m
  have kn : ∀ {M : Nat → Option Chunk} {F : Nat → Option (List Value)} {N : Nat}, callv Tryz.prog (.func (.func 11) #[] #[]) #[] (fun v h => h.wf → ∃ h', h.wk h' ∧ (h'.wf → K v h')) E ⟨F, M, N⟩ := known13_c (fun F' N' _ _ _ hc => ⟨_, wk_refl hc, fun _ => k _⟩)
  obtain ⟨hq3, hq1⟩ := hq.box
  have hq' := hq
  obtain ⟨qa, qb, qc, hqs, hqa, hqb, hqc, hqml, hqlol, hqhil⟩ := hq'
  have hops0 := hops
  obtain ⟨oprows, hop1, hop2⟩ := hops0
  refine nw_r (cs := cs) (fun b1 hb1 => ?_)
  obtain ⟨M1, hM1e⟩ : ∃ M1, M1 = upd M b1 (some (.cells 36 cs cs.length)) := ⟨_, rfl⟩
  rw [← hM1e]
  have hbox : M1 b1 = some (.cells 36 cs 3) := by rw [hM1e, ← hq3]; exact upd_same _ _ _
  have hm1 : clean M1 (b1 + 1) := by rw [hM1e]; exact hm0.new hb1 _
  clear hM1e
  obtain ⟨N1, hN1⟩ : ∃ n, n = b1 + 1 := ⟨_, rfl⟩
  rw [← hN1] at hm1 ⊢
  have lq : ∀ (off : Nat) (x : Value) {X : Kont} {F : Nat → Option (List Value)} {n : Nat}, cs[off]? = some x → X x ⟨F, M1, n⟩ → ld false 1 (.pointer (some ⟨b1, off, none⟩)) X ⟨F, M1, n⟩ := fun off x X F n hx hX => ldM (v := x) hX hbox hx
  refine lenF_r hop1 ?_
  refine gtr_r (fun h1 => ?_) (fun h1 => ?_)
  · try simp only [sS]; exact kn
  try simp only [sS]
  refine heavy13_c hops hopl (fun r1 hw1 => ?_)
  refine gtr_r (fun h2 => ?_) (fun h2 => ?_)
  · try simp only [sS]; exact kn
  try simp only [sS]
  refine lq 1 qb (by rw [hqs]; rfl) (lenF_r hqb ?_)
  refine gtr_r (fun h3 => ?_) (fun h3 => ?_)
  · try simp only [sS]; exact kn
  try simp only [sS]
  refine lq 2 qc (by rw [hqs]; rfl) (lenF_r hqc ?_)
  refine gtr_r (fun h4 => ?_) (fun h4 => ?_)
  · try simp only [sS]; exact kn
  try simp only [sS]
  refine lq 0 qa (by rw [hqs]; rfl) (lenF_r hqa ?_)
  refine gtr_r (fun h5 => ?_) (fun h5 => ?_)
  · try simp only [sS]; exact kn
  try simp only [sS]
  refine known13_c (fun F2 N2 hF2 hN2 hw2 => ?_)
  try simp only [sS]
  have hgd := dimsOf_good m (fun c hc => (hmc c hc).1)
  have hok := dimsOf_ok (m := m) (fun c hc => (hmc c hc).1)
  refine dof_c (hm.mono hF2) hml hmc (fun udv F3 N3 hw3 hF3 hN3 hd => ?_)
  generalize dimsOf m = l at *
  have hl4 := hgd.2.1
  refine new_c hd (by omega) (fun h => absurd h (by rw [hok]; decide)) (fun _ g dv F4 M4 N4 hF4 hC hM4 hN4 hm4 hw4 => ?_)
  refine rnew_c (hd.mono hF4) (by omega) (fun h => absurd h (by rw [hok]; decide)) (fun _ g2 dv2 F5 M5 N5 hF5 hR hg2 hM5 hN5 hm5 hw5 => ?_)
  refine ptr_ne ?_
  try simp only [sS]
  refine ptr_ne ?_
  try simp only [sS]
  have hbN : b1 < N3 := by omega
  have hgB := hC.gB
  have hgN := (hC.lt hm4 g (.inl rfl)).2
  have hb5 := (hM5 b1 (by omega)).trans ((hM4 b1 hbN).trans hbox)
  have hC5 := hC.keep hF5 (fun q hq => hM5 q (hC.lt hm4 q hq).2)
  have hB5 : both F5 M5 N3 g g2 (.slice none 0 0) dv [] dv2 (.slice none 0 0) l [] := ⟨hC5, hR, okH.nil _ _ _, by omega, by simp [Value.ownBlock]⟩
  have F35 := hF4.trans hF5
  have F05 := (hF2.trans hF3).trans F35
  refine l6_1_1_1_1_1_1_0_1_0_0 (σ := Nat) (fun i => .int .i64 (i : Nat))
    (fun i h' => ∃ F' M' N' hv rows lv2 h, h' = ⟨F', M', N'⟩ ∧ subF F5 F' ∧ N5 ≤ N' ∧ clean M' N' ∧ i ≤ ops.length ∧ M' b1 = some (.cells 36 cs 3) ∧ hv.ownBlock ≠ some b1 ∧ both F' M' N3 g g2 hv dv rows dv2 lv2 l h) (fun i => ops.length - i) 0 rfl
    (fun hw6 => ⟨_, wk_refl hw6, F5, M5, N5, .slice none 0 0, [], .slice none 0 0, [], rfl, subF.refl _, Nat.le_refl _, hm5, Nat.zero_le _, hb5, by simp [Value.ownBlock], hB5⟩) (fun kk i j h1' hI hw6 next => ?_)
  rw [t6_1_1_1_1_1_1_0_1_0_0]
  obtain ⟨F6, M6, N6, hv, rows, lv2, h, rfl, hF6, hN6, hm6, hi, hb6, hvb, hB6⟩ := hI
  have F06 := F05.trans hF6
  refine lenF_r hop1 ?_
  refine lss_r (fun hlt => ?_) (fun hge => ?_)
  · have i1 : i < ops.length := by omega
    try simp only [sS]
    refine row_r (hop1.mono F06) (hop2.mono fun _ _ h => h.mono F06) (by decide) i1 (fun p r _ hR6 hrl hr1 => ?_)
    refine does13_c hB6 (by omega) hgd (hd.mono (F35.trans hF6)) hR6 (fun hv7 F7 M7 N7 rows7 lv7 hF7 hB7 hM7 hN7 hm7 hw7 => ?_)
    refine inc_r (by omega) ?_
    obtain ⟨z1, z2⟩ := hM7 b1 (by omega) (by omega) hvb (by omega)
    exact next (i + 1) _ _ (by omega) (fun hw8 => ⟨_, wk_refl hw8, F7, M7, N7, hv7, rows7, lv7, _, rfl, hF6.trans hF7, by omega, hm7, i1, z1.trans hb6, z2, hB7⟩)
  · try simp only [sS]
    have o := hB6.o
    have htot := o.total
    have hoK := o.okK hgd
    have htab := o.tab hgd t
    have hrun := o.runs t qm qlo qhi
    have eT := allI_till o.rs t
    refine ldQ hq3 hb6 ?_
    refine cquery_c hB6.c (by omega) o.le htot hoK (hq.mono F06) hqi (by rw [eT]; exact htab) (fun v7 F7 N7 hw7 hF7 hN7 h7 => ?_)
    rw [eT] at h7 ⊢
    try simp only [sS]
    refine ldQ hq3 hb6 ?_
    refine rquery_c (hB6.r.keep (M' := M6) hF7 rfl) (by omega) o.le htot hoK ((hq.mono F06).mono hF7) hqi htab (fun v8 F8 N8 hw8 hF8 hN8 h8 => ?_)
    try simp only [sS]
    refine same_c (h7.mono hF8) h8 (by omega) ?_
    rw [decide_eq_true rfl]
    try simp only [sS]
    have hle := runE_le l (tab ((tillF h t).map fr1)) qm qlo qhi
    refine cv_i64 (by omega) (eql_t rfl ?_)
    try simp only [sS]
    exact fun hc => ⟨_, wk_refl hc, fun _ => k _⟩
end Go.Proofs.YtgjdjdjhoipfmaaGreatDoor.A
open Go Go.RowKit Go.Proofs.YtgjdjdjhoipfmaaGreatDoor.K
set_option linter.unusedVariables false
set_option maxRecDepth 100000
namespace Go.Proofs.YtgjdjdjhoipfmaaGreatDoor.T
section
variable (K : Kont) (E : PanK) (k1 k2 k3 k4 k5 : Env → Hp → Prop) (x0 x1 x2 x3 x4 x5 x6 x7 x8 x9 x10 x11 x12 x13 x14 x15 x16 x17 x18 x19 x20 x21 x22 x23 x24 x25 x26 x27 x28 x29 x30 x31 x32 x33 x34 x35 x36 x37 x38 x39 x40 x41 x42 x43 x44 x45 x46 x47 x48 x49 x50 x51 x52 x53 x54 x55 x56 x57 x58 x59 x60 x61 x62 x63 x64 x65 x66 x67 x68 x69 x70 x71 x72 x73 x74 x75 x76 x77 x78 x79 x80 x81 x82 x83 x84 x85 x86 x87 x88 x89 x90 x91 x92 x93 x94 x95 x96 x97 x98 x99 x100 x101 x102 x103 x104 x105 x106 x107 x108 x109 x110 x111 x112 x113 x114 x115 x116 v0 v1 v2 v3 v4 v5 v6 v7 v8 v9 v10 v11 v12 v13 v14 v15 v16 v17 v18 v19 v20 v21 v22 v23 v24 v25 v26 v27 v28 v29 v30 v31 v32 v33 v34 v35 v36 v37 v38 v39 v40 v41 v42 v43 v44 v45 v46 v47 v48 v49 v50 v51 v52 v53 v54 v55 v56 v57 v58 v59 v60 v61 v62 v63 v64 v65 v66 v67 v68 v69 v70 v71 v72 v73 v74 v75 v76 v77 v78 v79 v80 v81 v82 v83 v84 v85 v86 v87 v88 v89 v90 v91 v92 v93 v94 v95 v96 v97 v98 v99 v100 v101 v102 v103 v104 v105 v106 v107 v108 v109 v110 v111 v112 v113 v114 v115 v116 : Value) (j : Nat → Value)
abbrev q8 : QD := bodyQ Tryz.prog Tryz.f8.results.toList K E
abbrev d8 (p : List Nat) : QD → Env → Hp → Prop := den Tryz.prog (sel (bodyOf Tryz.f8) p)
def m8_1_1_1_1_1_1_1_0_1_0_0 (j : Nat → Value) : Env := #[x0, x1, x2, x3, x4, x5, x6, x7, x8, x9, x10, x11, x12, x13, x14, x15, (j 16), x17, x18, x19, x20, v21, (j 22), (j 23), (j 24), (j 25), x26, x27, x28, x29, x30, x31, x32, x33, x34, x35, x36, x37, x38, x39, x40, x41, x42, x43, x44, x45, x46, x47, x48, x49, x50, x51, x52, x53, x54, x55, (j 56), (j 57), (j 58), (j 59), (j 60), (j 61), (j 62), (j 63), (j 64), (j 65), (j 66), (j 67), (j 68), (j 69), (j 70), (j 71), (j 72), (j 73), (j 74), (j 75), (j 76), (j 77), (j 78), (j 79), (j 80), (j 81), (j 82), (j 83), (j 84), (j 85), (j 86), (j 87), (j 88), (j 89), (j 90), (j 91), (j 92), (j 93), (j 94), (j 95), (j 96), (j 97), (j 98), (j 99), (j 100), (j 101), (j 102), (j 103), (j 104), (j 105), (j 106), (j 107), (j 108), (j 109), (j 110), (j 111), (j 112), (j 113), (j 114), (j 115), (j 116)]
theorem t8 : d8 [] (q8 K E) #[x0, x1, x2, x3, x4, x5, x6, x7, U, U, U, U, U, U, U, U, U, U, U, U, U, U, U, U, U, U, U, U, U, U, U, U, U, U, U, U, U, U, U, U, U, U, U, U, U, U, U, U, U, U, U, U, U, U, U, U, U, U, U, U, U, U, U, U, U, U, U, U, U, U, U, U, U, U, U, U, U, U, U, U, U, U, U, U, U, U, U, U, U, U, U, U, U, U, U, U, U, U, U, U, U, U, U, U, U, U, U, U, U, U, U, U, U, U, U, U, U] =
  pv (lenV x1) fun t1 =>
  pv (binV .none .gtr t1 (.int .i64 30)) fun t2 =>
  gdK t2 false (fun k => k x1) fun t3 =>
  gdK t2 false (fun k => callv Tryz.prog (.func (.func 21) #[] #[]) #[t3] k E) fun t4 =>
  gdK t2 false (fun k => pv (binV .none .gtr t4 (.int .i64 600)) k) fun t5 =>
  pv (pickV t2 (.bool true) t5) fun t6 =>
  gdK t6 false (fun k => callv Tryz.prog (.func (.func 11) #[] #[]) #[] k E) fun t7 =>
  gdK t6 false (fun k => pv (unV .not t7) k) fun t8 =>
  pv (pickV t6 (.bool true) t8) fun t9 =>
  cnd t9 (
   callv Tryz.prog (.func (.func 11) #[] #[]) #[] (fun t10 =>
   K t10) E) (
   callv Tryz.prog (.func (.func 12) #[] #[]) #[x0] (fun t11 =>
   callv Tryz.prog (.func (.func 13) #[] #[]) #[t11] (fun t12 =>
   callv Tryz.prog (.func (.func 22) #[] #[]) #[t11] (fun t13 =>
   pv (binV .ptr .eql t12 (.pointer none)) fun t14 =>
   gdK t14 false (fun k => k t13) fun t15 =>
   gdK t14 false (fun k => pv (binV .ptr .eql t15 (.pointer none)) k) fun t16 =>
   pv (pickV t14 (.bool true) t16) fun t17 =>
   cnd t17 (
    K (.bool false)) (
    callv Tryz.prog (.func (.func 14) #[] #[]) #[t11, x2, x3, x4] (fun t18 =>
    nw 36 [(.slice none 0 0), (.slice none 0 0), (.slice none 0 0)] fun t19 =>
    st 3 t19 t18 fun _ =>
    lp (fun k1 => d8 [1, 1, 1, 1, 1, 1, 1, 0, 1, 0, 0] (thenD k1 (blk 0 (thenD (d8 [1, 1, 1, 1, 1, 1, 1, 1] (q8 K E)) (q8 K E))))) (m8_1_1_1_1_1_1_1_0_1_0_0 x0 x1 x2 x3 x4 x5 x6 x7 U U U U U U U U t11 t12 t13 t19 x1 t1 t2 t2 t3 t4 t5 t6 t6 t7 t8 t9 U x0 t11 t11 t12 t11 t13 t12 t14 t14 t15 t16 t17 t11 x2 x3 x4 t18 (.int .i64 0) (jf #[U, U, U, U, U, U, U, U, U, U, U, U, U, U, U, U, (.bool false)]))) E)) E) E) E) := by kernel_rfl
theorem t8_1_1_1_1_1_1_1_0_1_0_0 : d8 [1, 1, 1, 1, 1, 1, 1, 0, 1, 0, 0] (thenD k1 (blk 0 (thenD (d8 [1, 1, 1, 1, 1, 1, 1, 1] (q8 K E)) (q8 K E)))) (m8_1_1_1_1_1_1_1_0_1_0_0 x0 x1 x2 x3 x4 x5 x6 x7 x8 x9 x10 x11 x12 x13 x14 x15 x17 x18 x19 x20 x26 x27 x28 x29 x30 x31 x32 x33 x34 x35 x36 x37 x38 x39 x40 x41 x42 x43 x44 x45 x46 x47 x48 x49 x50 x51 x52 x53 x54 x55 v21 j) =
  pv (lenV x1) fun t1 =>
  pv (binV .none .lss v21 t1) fun t2 =>
  cnd t2 (
   pv (iaV none 8 x1 v21) fun t3 =>
   ld true 8 t3 fun t4 =>
   callv Tryz.prog (.func (.func 23) #[] #[]) #[x18, x19, x17, t4] (fun t5 =>
   pv (binV .none .eql t5 (.int .i64 0)) fun t6 =>
   cnd t6 (
    K (.bool false)) (
    ld true 3 x20 fun t7 =>
    pv (binV .none .rem x5 (.int .u32 40)) fun t8 =>
    callv Tryz.prog (.func (.func 17) #[] #[]) #[x18, t7, t8] (fun t9 =>
    pv (exV 0 t9) fun t10 =>
    pv (exV 1 t9) fun t11 =>
    ld true 3 x20 fun t12 =>
    pv (binV .none .rem x5 (.int .u32 40)) fun t13 =>
    callv Tryz.prog (.func (.func 24) #[] #[]) #[x19, t12, t13] (fun t14 =>
    pv (exV 0 t14) fun t15 =>
    pv (exV 1 t14) fun t16 =>
    callv Tryz.prog (.func (.func 18) #[] #[]) #[t10, t15] (fun t17 =>
    pv (unV .not t17) fun t18 =>
    gdK t18 false (fun k => k t11) fun t19 =>
    gdK t18 false (fun k => pv (cvV .i64 t19) k) fun t20 =>
    gdK t18 false (fun k => k t16) fun t21 =>
    gdK t18 false (fun k => pv (binV .none .neq t20 t21) k) fun t22 =>
    pv (pickV t18 (.bool true) t22) fun t23 =>
    gdK t23 false (fun k => k x18) fun t24 =>
    gdK t23 false (fun k => k x6) fun t25 =>
    gdK t23 false (fun k => k x7) fun t26 =>
    gdK t23 false (fun k => callv Tryz.prog (.func (.func 19) #[] #[]) #[t24, t25, t26] k E) fun t27 =>
    gdK t23 false (fun k => k x19) fun t28 =>
    gdK t23 false (fun k => k x6) fun t29 =>
    gdK t23 false (fun k => k x7) fun t30 =>
    gdK t23 false (fun k => callv Tryz.prog (.func (.func 28) #[] #[]) #[t28, t29, t30] k E) fun t31 =>
    gdK t23 false (fun k => callv Tryz.prog (.func (.func 27) #[] #[]) #[t27, t31] k E) fun t32 =>
    gdK t23 false (fun k => pv (unV .not t32) k) fun t33 =>
    pv (pickV t23 (.bool true) t33) fun t34 =>
    gdK t34 false (fun k => k x18) fun t35 =>
    gdK t34 false (fun k => callv Tryz.prog (.func (.func 19) #[] #[]) #[t35, (.int .i64 0), (.int .i64 10000)] k E) fun t36 =>
    gdK t34 false (fun k => k x19) fun t37 =>
    gdK t34 false (fun k => callv Tryz.prog (.func (.func 28) #[] #[]) #[t37, (.int .i64 0), (.int .i64 10000)] k E) fun t38 =>
    gdK t34 false (fun k => callv Tryz.prog (.func (.func 27) #[] #[]) #[t36, t38] k E) fun t39 =>
    gdK t34 false (fun k => pv (unV .not t39) k) fun t40 =>
    pv (pickV t34 (.bool true) t40) fun t41 =>
    cnd t41 (
     K (.bool false)) (
     pv (binV .none .add v21 (.int .i64 1)) fun t42 =>
     k1 (m8_1_1_1_1_1_1_1_0_1_0_0 x0 x1 x2 x3 x4 x5 x6 x7 x8 x9 x10 x11 x12 x13 x14 x15 x17 x18 x19 x20 x26 x27 x28 x29 x30 x31 x32 x33 x34 x35 x36 x37 x38 x39 x40 x41 x42 x43 x44 x45 x46 x47 x48 x49 x50 x51 x52 x53 x54 x55 t42 (jf #[U, U, U, U, U, U, U, U, U, U, U, U, U, U, U, U, (j 16), U, U, U, U, U, t10, t11, t15, t16, U, U, U, U, U, U, U, U, U, U, U, U, U, U, U, U, U, U, U, U, U, U, U, U, U, U, U, U, U, U, v21, x1, t1, t2, v21, t42, x18, x19, x17, x1, v21, t3, t4, t5, t6, t9, x18, t7, x5, t8, t9, t10, t11, t14, x19, t12, x5, t13, t14, t15, t16, t10, t15, t17, t18, t18, t19, t20, t21, t22, t23, t23, t24, t25, t26, t27, t28, t29, t30, t31, t32, t33, t34, t34, t35, t36, t37, t38, t39, t40, t41])))) E) E) E)) E) (
   K (.bool true)) := by kernel_rfl
end
section
variable {K : Kont} {E : PanK} {k1 k2 k3 k4 k5 : Env → Hp → Prop} {σ : Type} {x0 x1 x2 x3 x4 x5 x6 x7 x8 x9 x10 x11 x12 x13 x14 x15 x16 x17 x18 x19 x20 x21 x22 x23 x24 x25 x26 x27 x28 x29 x30 x31 x32 x33 x34 x35 x36 x37 x38 x39 x40 x41 x42 x43 x44 x45 x46 x47 x48 x49 x50 x51 x52 x53 x54 x55 x56 x57 x58 x59 x60 x61 x62 x63 x64 x65 x66 x67 x68 x69 x70 x71 x72 x73 x74 x75 x76 x77 x78 x79 x80 x81 x82 x83 x84 x85 x86 x87 x88 x89 x90 x91 x92 x93 x94 x95 x96 x97 x98 x99 x100 x101 x102 x103 x104 x105 x106 x107 x108 x109 x110 x111 x112 x113 x114 x115 x116 v0 v1 v2 v3 v4 v5 v6 v7 v8 v9 v10 v11 v12 v13 v14 v15 v16 v17 v18 v19 v20 v21 v22 v23 v24 v25 v26 v27 v28 v29 v30 v31 v32 v33 v34 v35 v36 v37 v38 v39 v40 v41 v42 v43 v44 v45 v46 v47 v48 v49 v50 v51 v52 v53 v54 v55 v56 v57 v58 v59 v60 v61 v62 v63 v64 v65 v66 v67 v68 v69 v70 v71 v72 v73 v74 v75 v76 v77 v78 v79 v80 v81 v82 v83 v84 v85 v86 v87 v88 v89 v90 v91 v92 v93 v94 v95 v96 v97 v98 v99 v100 v101 v102 v103 v104 v105 v106 v107 v108 v109 v110 v111 v112 v113 v114 v115 v116 : Value} {h : Hp} {j : Nat → Value}
theorem l8_1_1_1_1_1_1_1_0_1_0_0 (f21 : σ → Value) (I : σ → Hp → Prop) (μ : σ → Nat) (s0 : σ) (e21 : v21 = f21 s0) (h0 : h.wf → ∃ h', h.wk h' ∧ I s0 h')
 (round : ∀ (k1 : Env → Hp → Prop) (s : σ) (j : Nat → Value) (h : Hp), I s h → h.wf → (∀ s' j' h', μ s' < μ s → (h'.wf → ∃ h'', h'.wk h'' ∧ I s' h'') → k1 (m8_1_1_1_1_1_1_1_0_1_0_0 x0 x1 x2 x3 x4 x5 x6 x7 x8 x9 x10 x11 x12 x13 x14 x15 x17 x18 x19 x20 x26 x27 x28 x29 x30 x31 x32 x33 x34 x35 x36 x37 x38 x39 x40 x41 x42 x43 x44 x45 x46 x47 x48 x49 x50 x51 x52 x53 x54 x55 (f21 s') j') h') → d8 [1, 1, 1, 1, 1, 1, 1, 0, 1, 0, 0] (thenD k1 (blk 0 (thenD (d8 [1, 1, 1, 1, 1, 1, 1, 1] (q8 K E)) (q8 K E)))) (m8_1_1_1_1_1_1_1_0_1_0_0 x0 x1 x2 x3 x4 x5 x6 x7 x8 x9 x10 x11 x12 x13 x14 x15 x17 x18 x19 x20 x26 x27 x28 x29 x30 x31 x32 x33 x34 x35 x36 x37 x38 x39 x40 x41 x42 x43 x44 x45 x46 x47 x48 x49 x50 x51 x52 x53 x54 x55 (f21 s) j) h) :
 lp (fun k1 => d8 [1, 1, 1, 1, 1, 1, 1, 0, 1, 0, 0] (thenD k1 (blk 0 (thenD (d8 [1, 1, 1, 1, 1, 1, 1, 1] (q8 K E)) (q8 K E))))) (m8_1_1_1_1_1_1_1_0_1_0_0 x0 x1 x2 x3 x4 x5 x6 x7 x8 x9 x10 x11 x12 x13 x14 x15 x17 x18 x19 x20 x26 x27 x28 x29 x30 x31 x32 x33 x34 x35 x36 x37 x38 x39 x40 x41 x42 x43 x44 x45 x46 x47 x48 x49 x50 x51 x52 x53 x54 x55 v21 j) h := by
 subst e21
 exact loop_r (fun s j => m8_1_1_1_1_1_1_1_0_1_0_0 x0 x1 x2 x3 x4 x5 x6 x7 x8 x9 x10 x11 x12 x13 x14 x15 x17 x18 x19 x20 x26 x27 x28 x29 x30 x31 x32 x33 x34 x35 x36 x37 x38 x39 x40 x41 x42 x43 x44 x45 x46 x47 x48 x49 x50 x51 x52 x53 x54 x55 (f21 s) j) I μ round s0 j h0
end
end Go.Proofs.YtgjdjdjhoipfmaaGreatDoor.T
open Go Go.RowKit Go.Proofs.YtgjdjdjhoipfmaaGreatDoor.K Go.Proofs.YtgjdjdjhoipfmaaGreatDoor.T
set_option linter.unusedVariables false
set_option linter.unusedSimpArgs false
namespace Go.Proofs.YtgjdjdjhoipfmaaGreatDoor.A
variable {F F' : Nat → Option (List Value)} {M M' : Nat → Option Chunk} {N N' : Nat} {K : Kont} {E : PanK}
set_option maxRecDepth 10000 in
set_option maxHeartbeats 8000000 in
theorem cubeDoes_c {um ul uc ua ub : Value} {m : List (Int × List Int)} {ops : List OpC} {c a b : List Int} {t x y : Int} (hm : cutsD F um m) (hml : m.length ≤ 140737488351232) (hmc : ∀ c ∈ m, (0 ≤ c.1 ∧ c.1 < 65536) ∧ ∀ x ∈ c.2, 0 ≤ x ∧ x < 256)
    (hops : opsD F ul ops) (hopl : ops.length ≤ 140737488351232)
    (hc : sF F 1 uc c.length (ick .u8 c)) (hcl : c.length ≤ 140737488351232) (hcc : ∀ x ∈ c, 0 ≤ x ∧ x < 256)
    (ha : sF F 1 ua a.length (ick .u16 a)) (hal : a.length ≤ 140737488351232) (hac : ∀ x ∈ a, 0 ≤ x ∧ x < 65536)
    (hb : sF F 1 ub b.length (ick .u16 b)) (hbl : b.length ≤ 140737488351232) (hbc : ∀ x ∈ b, 0 ≤ x ∧ x < 65536) (ht : 0 ≤ t ∧ t < 4294967296) (k : ∀ h, K (.bool true) h) :
    call Tryz.prog 8 #[um, ul, uc, ua, ub, .int .u32 t, .int .i64 x, .int .i64 y] K E ⟨F, M, N⟩ := by
  refine call_text mixed Tryz.func8 (by kernel_rfl) (t8 _ E _ _ _ _ _ _ _ _) (fun hw => ?_)
  have hm0 : clean M N := hw.m
  have kn : ∀ {M : Nat → Option Chunk} {F : Nat → Option (List Value)} {N : Nat}, callv Tryz.prog (.func (.func 11) #[] #[]) #[] (fun v h => h.wf → ∃ h', h.wk h' ∧ (h'.wf → K v h')) E ⟨F, M, N⟩ := known13_c (fun F' N' _ _ _ hc => ⟨_, wk_refl hc, fun _ => k _⟩)
  have hops0 := hops
  obtain ⟨oprows, hop1, hop2⟩ := hops0
  refine lenF_r hop1 ?_
  refine gtr_r (fun h1 => ?_) (fun h1 => ?_)
  · try simp only [sS]; exact kn
  try simp only [sS]
  refine heavy13_c hops hopl (fun r1 hw1 => ?_)
  refine gtr_r (fun h2 => ?_) (fun h2 => ?_)
  · try simp only [sS]; exact kn
  try simp only [sS]
  refine known13_c (fun F2 N2 hF2 hN2 hw2 => ?_)
  try simp only [sS]
  have hgd := dimsOf_good m (fun c hc => (hmc c hc).1)
  have hok := dimsOf_ok (m := m) (fun c hc => (hmc c hc).1)
  refine dof_c (hm.mono hF2) hml hmc (fun udv F3 N3 hw3 hF3 hN3 hd => ?_)
  generalize dimsOf m = l at *
  have hl4 := hgd.2.1
  refine new_c hd (by omega) (fun h => absurd h (by rw [hok]; decide)) (fun _ g dv F4 M4 N4 hF4 hC hM4 hN4 hm4 hw4 => ?_)
  refine rnew_c (hd.mono hF4) (by omega) (fun h => absurd h (by rw [hok]; decide)) (fun _ g2 dv2 F5 M5 N5 hF5 hR hg2 hM5 hN5 hm5 hw5 => ?_)
  refine ptr_ne ?_
  try simp only [sS]
  refine ptr_ne ?_
  try simp only [sS]
  have hgB := hC.gB
  have hgN := (hC.lt hm4 g (.inl rfl)).2
  have hC5 := hC.keep hF5 (fun q hq => hM5 q (hC.lt hm4 q hq).2)
  have hB5 : both F5 M5 N3 g g2 (.slice none 0 0) dv [] dv2 (.slice none 0 0) l [] := ⟨hC5, hR, okH.nil _ _ _, by omega, by simp [Value.ownBlock]⟩
  have F35 := hF4.trans hF5
  have F05 := (hF2.trans hF3).trans F35
  have hds := goodDims_sz hgd
  have hdv : ∀ d ∈ l, d.2.length ≤ 1000000 := fun d hd => by have := okDim_div (okDims_all hok d hd); omega
  refine ask_c (hd.mono F35) (hc.mono F05) (ha.mono F05) (hb.mono F05) (by omega) hds hdv hcc hac hbc hcl hal hbl (fun cs F6 N6 hw6 hF6 hN6 hq => ?_)
  obtain ⟨hq3, hq1⟩ := hq.box
  have hq' := hq
  obtain ⟨qa, qb, qc, hqs, hqa, hqb, hqc, hqml, hqlol, hqhil⟩ := hq'
  have hlvL := levOf_len l c []
  obtain ⟨hlev, _⟩ := levOf_ok (c := c) (nil_ok l)
  have hqi := okLev_i64 hlvL hlev hdv
  generalize levOf l c [] = qm at *
  generalize boxLo l a b = qlo at *
  generalize boxHi l a b = qhi at *
  have hm6 : clean M5 N6 := hw6.m
  refine nw_r (fun b1 hb1 => ?_)
  refine stM (cs' := cs) ?_ (upd_same _ _ _) (by rw [hqs]; rfl) (by rw [hqs]; rfl) hq1 (by exact Nat.le_of_ble_eq_true rfl)
  rw [upd_upd]
  obtain ⟨M7, hM7e⟩ : ∃ M7, M7 = upd M5 b1 (some (.cells 36 cs [Value.slice none 0 0, Value.slice none 0 0, Value.slice none 0 0].length)) := ⟨_, rfl⟩
  rw [← hM7e]
  have hbox : M7 b1 = some (.cells 36 cs 3) := by rw [hM7e]; exact upd_same _ _ _
  have hm7 : clean M7 (b1 + 1) := by rw [hM7e]; exact hm6.new hb1 _
  have hB7 : both F6 M7 N3 g g2 (.slice none 0 0) dv [] dv2 (.slice none 0 0) l [] := hB5.keep hF6 (fun q hq => by rw [hM7e]; exact upd_ne _ _ (by have := hB5.lt hm5 q hq; omega))
  clear hM7e
  have F06 := F05.trans hF6
  obtain ⟨N7, hN7⟩ : ∃ n, n = b1 + 1 := ⟨_, rfl⟩
  rw [← hN7] at hm7 ⊢
  refine l8_1_1_1_1_1_1_1_0_1_0_0 (σ := Nat) (fun i => .int .i64 (i : Nat))
    (fun i h' => ∃ F' M' N' hv rows lv2 h, h' = ⟨F', M', N'⟩ ∧ subF F6 F' ∧ N7 ≤ N' ∧ clean M' N' ∧ i ≤ ops.length ∧ M' b1 = some (.cells 36 cs 3) ∧ hv.ownBlock ≠ some b1 ∧ both F' M' N3 g g2 hv dv rows dv2 lv2 l h) (fun i => ops.length - i) 0 rfl
    (fun hw6 => ⟨_, wk_refl hw6, F6, M7, N7, .slice none 0 0, [], .slice none 0 0, [], rfl, subF.refl _, Nat.le_refl _, hm7, Nat.zero_le _, hbox, by simp [Value.ownBlock], hB7⟩) (fun kk i j h1' hI hw8 next => ?_)
  rw [t8_1_1_1_1_1_1_1_0_1_0_0]
  obtain ⟨F8, M8, N8, hv, rows, lv2, h, rfl, hF8, hN8, hm8, hi, hb8, hvb, hB8⟩ := hI
  have F08 := F06.trans hF8
  refine lenF_r hop1 ?_
  refine lss_r (fun hlt => ?_) (fun hge => ?_)
  · have i1 : i < ops.length := by omega
    try simp only [sS]
    refine row_r (hop1.mono F08) (hop2.mono fun _ _ h => h.mono F08) (by decide) i1 (fun p r _ hR6 hrl hr1 => ?_)
    refine does13_c hB8 (by omega) hgd (hd.mono ((F35.trans hF6).trans hF8)) hR6 (fun hv9 F9 M9 N9 rows9 lv9 hF9 hB9 hM9 hN9 hm9 hw9 => ?_)
    refine eql_f (by decide) ?_
    try simp only [sS]
    have hbg : b1 ≠ g := by omega
    have hbg2 : b1 ≠ g2 := by have := hB5.lt hm5 g2 (.inr (.inl rfl)); omega
    obtain ⟨z1, z2⟩ := hM9 b1 hbg hbg2 hvb (by omega)
    have hb9 := z1.trans hb8
    have o := hB9.o
    have htot := o.total
    have hoK := o.okK hgd
    have htab := o.tab hgd (t % 40)
    have hrun := o.runs (t % 40) qm qlo qhi
    have eT := allI_till o.rs (t % 40)
    have hq9 := hq.mono (hF8.trans hF9)
    generalize doesH l h ops[i] = h9 at *
    refine ldQ hq3 hb9 ?_
    refine rem_i ht.1 (by decide) ?_
    refine cquery_c hB9.c (by omega) o.le htot hoK hq9 hqi (by rw [eT]; exact htab) (fun v10 F10 N10 hw10 hF10 hN10 h10 => ?_)
    rw [eT] at h10 ⊢
    try simp only [sS]
    refine ldQ hq3 hb9 ?_
    refine rem_i ht.1 (by decide) ?_
    refine rquery_c (hB9.r.keep (M' := M9) hF10 rfl) (by omega) o.le htot hoK (hq9.mono hF10) hqi htab (fun v11 F11 N11 hw11 hF11 hN11 h11 => ?_)
    try simp only [sS]
    refine same_c (h10.mono hF11) h11 (by omega) ?_
    rw [decide_eq_true rfl]
    try simp only [sS]
    have hle := runE_le l (tab ((tillF h9 (t % 40)).map fr1)) qm qlo qhi
    refine cv_i64 (by omega) (neq_f rfl ?_)
    try simp only [sS]
    have hB11 := hB9.keep (M' := M9) (hF10.trans hF11) (fun _ _ => rfl)
    refine same_ents (a := x) (b := y) (N := N11) (E := E) hB11 hgd (fun _ _ F12 N12 hw12 hF12 hN12 => ?_)
    try simp only [sS]
    refine same_ents (a := 0) (b := 10000) (N := N12) (E := E) (hB11.keep (M' := M9) hF12 (fun _ _ => rfl)) hgd (fun _ _ F13 N13 hw13 hF13 hN13 => ?_)
    try simp only [sS]
    refine inc_r (by omega) ?_
    exact next (i + 1) _ _ (by omega) (fun hw14 => ⟨_, wk_refl hw14, F13, M9, N13, hv9, rows9, lv9, _, rfl, (hF8.trans hF9).trans ((hF10.trans hF11).trans (hF12.trans hF13)), by omega, hw13.m, i1, hb9, z2, (hB11.keep (M' := M9) hF12 (fun _ _ => rfl)).keep (M' := M9) hF13 (fun _ _ => rfl)⟩)
  · try simp only [sS]
    exact fun hc => ⟨_, wk_refl hc, fun _ => k _⟩
end Go.Proofs.YtgjdjdjhoipfmaaGreatDoor.A
open Go Go.RowKit Go.Proofs.YtgjdjdjhoipfmaaGreatDoor.K Go.Proofs.YtgjdjdjhoipfmaaGreatDoor.T
set_option linter.unusedVariables false
set_option linter.unusedSimpArgs false
namespace Go.Proofs.YtgjdjdjhoipfmaaGreatDoor.A
variable {F F' : Nat → Option (List Value)} {M M' : Nat → Option Chunk} {N N' : Nat} {K : Kont} {E : PanK}
abbrev rQuery : (Nat → Option (List Value)) → List Value → List Int × List Int × List Int → Prop := rP (rS 1 (rI .i64)) (rP (rS 1 (rI .i64)) (rS 1 (rI .i64)))
theorem query_of {cs : List Value} {y : List Int × List Int × List Int} (h : rQuery F cs y) : queryD F cs y.1 y.2.1 y.2.2 ∧ ∀ x ∈ y.1, i64 x := by
  obtain ⟨c1, c2, e, ha, c3, c4, e2, hb, hc⟩ := h
  obtain ⟨a, rfl, h1, h2, h3⟩ := keyI ha
  obtain ⟨b, rfl, h4, h5, h6⟩ := keyI hb
  obtain ⟨c, rfl, h7, h8, h9⟩ := keyI hc
  exact ⟨⟨a, b, c, by rw [e, e2]; rfl, h1, h4, h7, h3, h6, h9⟩, h2⟩
theorem wf_u32 {x : Int} (h : (Lit.int .u32 x).wf = true) : 0 ≤ x ∧ x < 4294967296 := by
  have h' : 0 ≤ x ∧ x ≤ 4294967295 := by simpa [Lit.wf, IntKind.min, IntKind.max, IntKind.signed, IntKind.bits] using h
  omega
abbrev rFact : (Nat → Option (List Value)) → List Value → List Int × Int → Prop := rP (rS 1 (rI .i64)) (rI .i64)
abbrev rEnt : (Nat → Option (List Value)) → List Value → Int × List (List Int × Int) → Prop := rP (rI .u32) (rS 2 rFact)
abbrev OpY := Int × Int × List (List Int) × List Int × List (List Int × Int) × Int × Int × List (Int × List (List Int × Int))
abbrev rOp : (Nat → Option (List Value)) → List Value → OpY → Prop := rP (rI .u8) (rP (rI .u32) (rP (rS 1 (rS 1 (rI .u16))) (rP (rS 1 (rI .i64)) (rP (rS 2 rFact) (rP (rI .u16) (rP (rI .u16) (rS 2 rEnt)))))))
def toOp (y : OpY) : OpC := ⟨y.1, y.2.1, y.2.2.1, y.2.2.2.1, y.2.2.2.2.1, y.2.2.2.2.2.1, y.2.2.2.2.2.2.1, y.2.2.2.2.2.2.2⟩
theorem rS_one {α : Type} {R : (Nat → Option (List Value)) → List Value → α → Prop} {sz : Nat} {cs : List Value} {y : List α} (h : rS sz R F cs y) : ∃ v, cs = [v] := let ⟨v, _, e, _⟩ := h; ⟨v, e⟩
theorem ents_of {v : Value} {y : List (Int × List (List Int × Int))} (h : rS 2 rEnt F [v] y) : entsD F v y ∧ y.length ≤ 140737488351232 ∧ ∀ e ∈ y, (0 ≤ e.1 ∧ e.1 < 4294967296) ∧ ∀ f ∈ e.2, i64 f.2 := by
  obtain ⟨v', rows, e, hv, hr, hl⟩ := h
  injection e with e _
  subst e
  have hr' : rowsF (fun r e => entD F r e ∧ (0 ≤ e.1 ∧ e.1 < 4294967296) ∧ ∀ f ∈ e.2, i64 f.2) 2 rows y := hr.mono fun r e ⟨c1, c2, ee, ⟨ha, hb⟩, hc⟩ => by
    obtain ⟨u, hu⟩ := rS_one hc
    rw [hu] at hc
    obtain ⟨h1, h2, h3⟩ := facts_of hc
    exact ⟨⟨u, by rw [ee, ha, hu]; rfl, h1, h2⟩, wf_u32 hb, fun f hf => (h3 f hf).2⟩
  exact ⟨⟨rows, hv, hr'.mono fun _ _ h => h.1⟩, hl, fun e he => by obtain ⟨r, h⟩ := rowsF_all hr' e he; exact h.2⟩
theorem op_of {cs : List Value} {y : OpY} (h : rOp F cs y) : opcD F cs (toOp y) := by
  obtain ⟨c1, d1, e1, ⟨h1, w1⟩, c2, d2, e2, ⟨h2, w2⟩, c3, d3, e3, h3, c4, d4, e4, h4, c5, d5, e5, h5, c6, d6, e6, ⟨h6, w6⟩, c7, d7, e7, ⟨h7, w7⟩, h8⟩ := h
  obtain ⟨v3, u3⟩ := rS_one h3
  obtain ⟨v4, u4⟩ := rS_one h4
  obtain ⟨v5, u5⟩ := rS_one h5
  obtain ⟨v8, u8⟩ := rS_one h8
  rw [u3] at h3; rw [u4] at h4; rw [u5] at h5; rw [u8] at h8
  have a3 := lists_of h3
  have a4 := list_of h4
  have a5 := facts_of h5
  have a8 := ents_of h8
  refine ⟨v3, v4, v5, v8, ?_, a3.1, a4.1, a5.1, a8.1, ⟨wf_u8 w1, wf_u32 w2, a3.2.1, fun l hl x hx => wf_u16 (a3.2.2 l hl x hx), a4.2.2, fun x hx => wf_i64 (a4.2.1 x hx), a5.2.1, fun f hf => (a5.2.2 f hf).2, wf_u16 w6, wf_u16 w7, a8.2.1, fun e he => (a8.2.2 e he).1, fun e he => (a8.2.2 e he).2⟩⟩
  rw [e1, e2, e3, e4, e5, e6, e7, h1, h2, h6, h7, u3, u4, u5, u8]; rfl
theorem ops_of {v : Value} {y : List OpY} (h : rS 8 rOp F [v] y) : opsD F v (y.map toOp) ∧ (y.map toOp).length ≤ 140737488351232 := by
  obtain ⟨v', rows, e, hv, hr, hl⟩ := h
  injection e with e _
  subst e
  have hr' : rowsF (fun r x => opcD F r (toOp x)) 8 rows y := hr.mono fun r f h => op_of h
  exact ⟨⟨rows, by rw [List.length_map]; exact hv, rowsF_map toOp hr'⟩, by rw [List.length_map]; exact hl⟩
theorem CubeAsks_true (v0 v1 : Value) (a2 : Array Value) (a3 : Int) {y0 : List (Int × List Int)} {y1 : List OpY} {y2 : List Int × List Int × List Int} (W : World) (h0 : rS 2 rCut (F0 W) [v0] y0) (h1 : rS 8 rOp (F0 W) [v1] y1) (h2 : rQuery (F0 W) a2.toList y2) (w3 : (Lit.int .u32 a3).wf = true) :
    Calls Tryz.prog 6 #[v0, v1, .agg a2, .int .u32 a3] W fun e w' => e = .returned (.bool true) ∧ Below W.heap.size W w' :=
  have b := cuts_of h0
  have c := ops_of h1
  have d := query_of h2
  fin_true (cubeAsks_c b.1 b.2.1 b.2.2 c.1 c.2 d.1 d.2 fun _ => rfl)
theorem CubeDoes_true (v0 v1 v2 v3 v4 : Value) (a5 a6 a7 : Int) {y0 : List (Int × List Int)} {y1 : List OpY} {y2 y3 y4 : List Int} (W : World) (h0 : rS 2 rCut (F0 W) [v0] y0) (h1 : rS 8 rOp (F0 W) [v1] y1) (h2 : rS 1 (rI .u8) (F0 W) [v2] y2) (h3 : rS 1 (rI .u16) (F0 W) [v3] y3) (h4 : rS 1 (rI .u16) (F0 W) [v4] y4) (w5 : (Lit.int .u32 a5).wf = true) (w6 : (Lit.int .i64 a6).wf = true) (w7 : (Lit.int .i64 a7).wf = true) :
    Calls Tryz.prog 8 #[v0, v1, v2, v3, v4, .int .u32 a5, .int .i64 a6, .int .i64 a7] W fun e w' => e = .returned (.bool true) ∧ Below W.heap.size W w' :=
  have b := cuts_of h0
  have c := ops_of h1
  have e := list_of h2
  have f := list_of h3
  have g := list_of h4
  fin_true (cubeDoes_c b.1 b.2.1 b.2.2 c.1 c.2 e.1 e.2.2 (fun x hx => wf_u8 (e.2.1 x hx)) f.1 f.2.2 (fun x hx => wf_u16 (f.2.1 x hx)) g.1 g.2.2 (fun x hx => wf_u16 (g.2.1 x hx)) (wf_u32 w5) fun _ => rfl)
end Go.Proofs.YtgjdjdjhoipfmaaGreatDoor.A
