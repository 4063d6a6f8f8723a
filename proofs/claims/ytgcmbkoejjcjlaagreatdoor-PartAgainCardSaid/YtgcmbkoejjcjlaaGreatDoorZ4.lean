import Derived.Test.YtgcmbkoejjcjlaaGreatDoorZ3
import Derived.Test.YtgcmbkoejjcjlaaGreatDoorProg
import Derived.Test.YtgcmbkoejjcjlaaGreatDoorZ1
import Derived.Lib.Overlaps
import Derived.Laws.Externs
set_option maxHeartbeats 4000000
open Go Go.RowKit Go.Proofs.YtgcmbkoejjcjlaaGreatDoor.K Go.Proofs.YtgcmbkoejjcjlaaGreatDoor.T
set_option linter.unusedVariables false
set_option linter.unusedSimpArgs false
namespace Go.Proofs.YtgcmbkoejjcjlaaGreatDoor.A
variable {F F' : Nat → Option (List Value)} {M M' : Nat → Option Chunk} {N N' : Nat} {K : Kont} {E : PanK}
def lvP (l : List Dm) (m : List Int) (i : Nat) : Bool := decide (0 ≤ m.getD i 0 ∧ m.getD i 0 < ((l.getD i (0, [])).2.length + 2 : Nat))
def lvOK (l : List Dm) (m : List Int) : Bool := decide (m.length = l.length) && (List.range l.length).all (lvP l m)
theorem lvl1_c {cs : List Value} {d : Dm} {n : Int} (hd : dimD F cs d) (k : ∀ N', N ≤ N' → (Hp.mk F M N').wf → K (.bool (decide (0 ≤ n ∧ n < (d.2.length + 2 : Nat)))) ⟨F, M, N'⟩) :
    callv Tryz.prog (.func (.func 133) #[] #[]) #[.agg cs.toArray, .int .i64 n] K E ⟨F, M, N⟩ := by
  refine callv_of_text mixed Tryz.func133 (by kernel_rfl) (t133 _ E _ _) (fun hw => ?_)
  have hm := hw.m
  have hd' := hd
  obtain ⟨v, rfl, hv, hvl⟩ := hd
  refine nw_r (cs := [.int .i64 d.1, v]) (fun b hb => ?_)
  refine geq_r (fun h1 => ?_) (fun h1 => ?_)
  · try simp only [sS]
    refine ldMa (vs := [.int .i64 d.1, v]) ?_
    refine levels_c hd' (fun N1 hN1 hw1 => ?_)
    refine lss_r (fun h2 => ?_) (fun h2 => ?_)
    · try simp only [sS]
      rw [decide_eq_true ⟨h1, h2⟩] at k
      exact fun hc => ⟨⟨F, M, N1⟩, wk_end hc, fun hw' => k _ (by omega) hw'⟩
    · try simp only [sS]
      rw [decide_eq_false fun q => h2 q.2] at k
      exact fun hc => ⟨⟨F, M, N1⟩, wk_end hc, fun hw' => k _ (by omega) hw'⟩
  · try simp only [sS]
    rw [decide_eq_false fun q => h1 q.1] at k
    exact fun hc => ⟨⟨F, M, b + 1⟩, wk_end hc, fun hw' => k _ (by omega) hw'⟩
theorem eqf_c {v u : Value} {l : List Dm} {m : List Int} (hv : dimsD F v l) (hu : sF F 1 u m.length (ic m)) (hl : l.length ≤ 140737488351232) (k : ∀ N', N ≤ N' → (Hp.mk F M N').wf → K (.bool (lvOK l m)) ⟨F, M, N'⟩) :
    callv Tryz.prog (.func (.func 86) #[] #[]) #[v, u, .func (.func 133) #[] #[]] K E ⟨F, M, N⟩ := by
  refine callv_of_text mixed Tryz.func86 (by kernel_rfl) (t86 _ E _ _ _) (fun hw => ?_)
  have hm : clean M N := hw.m
  have hlv : lenV v = some (.int .i64 (l.length : Nat)) := by obtain ⟨a, c, rfl⟩ := hv.form; rfl
  have hlu : lenV u = some (.int .i64 (m.length : Nat)) := by obtain ⟨a, c, rfl, _⟩ := hu.form; rfl
  have fin : ∀ v', v' = lvOK l m → ∀ N', N ≤ N' → ∀ h', h' = (⟨F, M, N'⟩ : Hp) → h'.wf → ∃ h'', h'.wk h'' ∧ (h''.wf → K (.bool v') h'') := fun v' e N' hN h' e' hc => by
    subst e; subst e'
    exact ⟨_, wk_refl hc, fun hw' => k _ hN hw'⟩
  unfold lvOK at fin
  refine pv_r hlv (pv_r hlu ?_)
  refine neq_r (fun h1 => ?_) (fun h1 => ?_)
  · try simp only [sS]
    exact fin _ (by rw [decide_eq_false (by omega)]; rfl) _ (Nat.le_refl _) _ rfl
  rw [decide_eq_true (by omega), Bool.true_and] at fin
  try simp only [sS]
  refine pv_r hlv ?_
  obtain ⟨rows, hv1, hv2⟩ := hv
  refine l86_1_1_0_1_0_0 (σ := Nat) (fun i => .int .i64 (i : Nat)) (fun i h => ∃ N', h = ⟨F, M, N'⟩ ∧ N ≤ N' ∧ i ≤ l.length ∧ (List.range i).all (lvP l m) = true) (fun i => l.length - i) 0 rfl
    (fun hw1 => ⟨_, wk_refl hw1, N, rfl, Nat.le_refl _, Nat.zero_le _, rfl⟩) (fun k1 i j h1' hI hw1 next => ?_)
  rw [t86_1_1_0_1_0_0]
  obtain ⟨N1, rfl, hN1, hi, he⟩ := hI
  have hm1 : clean M N1 := hw1.m
  refine lss_r (fun hlt => ?_) (fun hge => ?_)
  · have i1 : i < l.length := by omega
    have i2 : i < m.length := by omega
    try simp only [sS]
    refine row_r hv1 hv2 (by decide) i1 fun p r _ hR hr2 hr1 => ?_
    have hR' := hR
    obtain ⟨kv, hre, hkv, hkl⟩ := hR
    subst hre
    refine nw_r (fun b1 hb1 => ?_)
    refine stM (cs' := [.int .i64 l[i].1, kv]) ?_ (upd_same _ _ _) rfl rfl hr1
    rw [upd_upd]
    refine ixn_r hu i2 fun p => ?_
    refine ldMa (vs := [.int .i64 l[i].1, kv]) ?_
    refine lvl1_c hR' (fun N2 hN2 hw2 => ?_)
    have hp : lvP l m i = decide (0 ≤ m[i] ∧ m[i] < (l[i].2.length + 2 : Nat)) := by
      unfold lvP
      rw [getD_at i1, getD_at i2]
    rw [← hp]
    have hdrop : ∀ {h : Hp}, h = (⟨F, upd M b1 (some (.cells 88 [.int .i64 l[i].1, kv] 2)), N2⟩ : Hp) → h.wf → h.wk ⟨F, M, N2⟩ := fun e hc => by subst e; exact wk_drop hc (subM_drop (subM_refl _) (hm1 _ hb1))
    cases hpi : lvP l m i
    · try simp only [sS]
      refine fun hc => ⟨⟨F, M, N2⟩, hdrop rfl hc, fun hw' => ?_⟩
      have := k N2 (by omega) hw'
      rw [show lvOK l m = false by unfold lvOK; rw [all_range_no i1 hpi]; simp] at this
      exact this
    · try simp only [sS]
      refine inc_r (by omega) ?_
      exact next (i + 1) _ _ (by omega) (fun hw3 => ⟨⟨F, M, N2⟩, hdrop rfl hw3, N2, rfl, by omega, i1, all_range_succ he hpi⟩)
  · try simp only [sS]
    rw [show i = l.length by omega] at he
    exact fin _ he.symm _ hN1 _ rfl
def queryD (F : Nat → Option (List Value)) (cs : List Value) (m lo hi : List Int) : Prop := ∃ a b c, cs = [a, b, c] ∧ sF F 1 a m.length (ic m) ∧ sF F 1 b lo.length (ic lo) ∧ sF F 1 c hi.length (ic hi) ∧ m.length ≤ 140737488351232 ∧ lo.length ≤ 140737488351232 ∧ hi.length ≤ 140737488351232
theorem queryD.mono {cs : List Value} {m lo hi : List Int} (h : queryD F cs m lo hi) (hF : subF F F') : queryD F' cs m lo hi := let ⟨a, b, c, e, h1, h2, h3, h4⟩ := h; ⟨a, b, c, e, h1.mono hF, h2.mono hF, h3.mono hF, h4⟩
def checkE (l : List Dm) (m lo hi : List Int) : Nat := if okDims l = false then 30 else if lvOK l m = false then 40 else if boxOK l lo hi = false then 60 else 0
theorem check_c {u : Value} {cs : List Value} {l : List Dm} {m lo hi : List Int} (hu : dimsD F u l) (hl : l.length ≤ 140737488351232) (hq : queryD F cs m lo hi)
    (k : ∀ F' N', (Hp.mk F' M N').wf → subF F F' → N ≤ N' → K (.int .u16 ((checkE l m lo hi : Nat) : Int)) ⟨F', M, N'⟩) :
    callv Tryz.prog (.func (.func 103) #[] #[]) #[u, .agg cs.toArray] K E ⟨F, M, N⟩ := by
  refine callv_of_text mixed Tryz.func103 (by kernel_rfl) (t103 _ E _ _) (fun hw => ?_)
  have hm : clean M N := hw.m
  obtain ⟨a, b, c, rfl, ha, hb, hc, hml, hlol, hhil⟩ := hq
  refine nw_r (cs := [a, b, c]) (fun b1 hb1 => ?_)
  have fin : ∀ n, n = checkE l m lo hi → ∀ F' N', subF F F' → N ≤ N' → ∀ h', h' = (⟨F', upd M b1 (some (.cells 55 [a, b, c] 3)), N'⟩ : Hp) → h'.wf → ∃ h'', h'.wk h'' ∧ (h''.wf → K (.int .u16 ((n : Nat) : Int)) h'') := fun n e F' N' hF hN h' e' hc => by
    subst e; subst e'
    exact ⟨⟨F', M, N'⟩, wk_drop hc (subM_drop (subM_refl _) (hm _ hb1)), fun hw' => k _ _ hw' hF hN⟩
  unfold checkE at fin
  refine dsound_c hu hl (fun N1 hN1 hw1 => ?_)
  cases h1 : okDims l
  · try simp only [sS]
    exact fin 30 (by rw [h1]; rfl) F N1 (subF.refl _) (by omega) _ rfl
  rw [h1, if_neg (by decide)] at fin
  try simp only [sS]
  refine ldM (v := a) ?_
  refine eqf_c hu ha hl (fun N2 hN2 hw2 => ?_)
  cases h2 : lvOK l m
  · try simp only [sS]
    exact fin 40 (by rw [h2]; rfl) F N2 (subF.refl _) (by omega) _ rfl
  rw [h2, if_neg (by decide)] at fin
  try simp only [sS]
  refine ldM (v := b) ?_
  try simp only [sS]
  refine ldM (v := c) ?_
  refine dcsound_c hu hb hc hlol hhil (fun F3 N3 hw3 hF3 hN3 => ?_)
  cases h3 : boxOK l lo hi
  · try simp only [sS]
    exact fin 60 (by rw [h3]; rfl) F3 N3 hF3 (by omega) _ rfl
  rw [h3, if_neg (by decide)] at fin
  try simp only [sS]
  exact fin 0 rfl F3 N3 hF3 (by omega) _ rfl
end Go.Proofs.YtgcmbkoejjcjlaaGreatDoor.A
open Go Go.RowKit Go.Proofs.YtgcmbkoejjcjlaaGreatDoor.K Go.Proofs.YtgcmbkoejjcjlaaGreatDoor.T
set_option linter.unusedVariables false
set_option linter.unusedSimpArgs false
namespace Go.Proofs.YtgcmbkoejjcjlaaGreatDoor.A
variable {F F' : Nat → Option (List Value)} {M M' : Nat → Option Chunk} {N N' : Nat} {K : Kont} {E : PanK}
theorem soundL_all {p : Int} : ∀ {t : List Rw} {o : Option (List Int)}, soundL p o t = true → (∀ r ∈ t, okRow p r = true) ∧ srt t ∧ (∀ k, o = some k → ∀ r ∈ t, kcmp k r.1 < 0)
  | [], o, _ => ⟨by simp, .nil, by simp⟩
  | r :: t, o, h => by
    unfold soundL at h
    rw [Bool.and_eq_true, Bool.and_eq_true] at h
    obtain ⟨⟨h1, h2⟩, h3⟩ := h
    obtain ⟨a, b, c⟩ := soundL_all h3
    refine ⟨fun x hx => ?_, List.pairwise_cons.2 ⟨fun x hx => c _ rfl x hx, b⟩, fun k hk x hx => ?_⟩
    · rcases List.mem_cons.1 hx with rfl | hx
      · exact h1
      · exact a x hx
    · subst hk
      have h4 := of_decide_eq_true h2
      rcases List.mem_cons.1 hx with rfl | hx
      · exact h4
      · exact kcmp_trans h4 (c _ rfl x hx)
theorem soundT_cut {p : Int} {t : List Rw} {lo hi : List Int} (h : soundT p t = true) : soundT p (cutF lo hi t) = true := by
  obtain ⟨a, b, _⟩ := soundL_all (show soundL p none t = true from h)
  exact soundT_of (fun r hr => a r ((List.mem_filter.1 hr).1)) (List.Pairwise.filter _ b)
theorem lvOK_lev {l : List Dm} {m : List Int} (h : lvOK l m = true) : m.length = l.length ∧ okLev l m := by
  unfold lvOK at h
  rw [Bool.and_eq_true] at h
  obtain ⟨h1, h2⟩ := h
  refine ⟨of_decide_eq_true h1, fun i hi => ?_⟩
  have h3 := List.all_eq_true.1 h2 i (List.mem_range.2 hi)
  unfold lvP at h3
  rw [getD_at hi] at h3
  have := of_decide_eq_true h3
  omega
def runRows (l : List Dm) (t : List Rw) (m lo hi : List Int) : List Rw := rollT l (cutF lo hi t) (zeros l.length) m
def runE (l : List Dm) (t : List Rw) (m lo hi : List Int) : Nat := if checkE l m lo hi = 0 then (if soundT l.length t = false then 1 else if (runRows l t m lo hi).length > 500 then 61 else 0) else checkE l m lo hi
def runT (l : List Dm) (t : List Rw) (m lo hi : List Int) : List Rw := if runE l t m lo hi = 0 then runRows l t m lo hi else []
theorem checkE_ok {l : List Dm} {m lo hi : List Int} (h : checkE l m lo hi = 0) : okDims l = true ∧ lvOK l m = true ∧ boxOK l lo hi = true := by
  unfold checkE at h
  cases h1 : okDims l
  · rw [h1] at h; simp at h
  cases h2 : lvOK l m
  · rw [h1, h2] at h; simp at h
  cases h3 : boxOK l lo hi
  · rw [h1, h2, h3] at h; simp at h
  exact ⟨rfl, rfl, rfl⟩
theorem rollE_ok {l : List Dm} {t : List Rw} {m lo hi : List Int} (h : checkE l m lo hi = 0) (ht : soundT l.length t = true) : rollE l (cutF lo hi t) (zeros l.length) m = 0 := by
  obtain ⟨h1, h2, h3⟩ := checkE_ok h
  obtain ⟨h4, h5⟩ := lvOK_lev h2
  unfold rollE
  rw [h1, levF_of (zeros_up h4 h5), soundT_cut ht]; rfl
theorem runT_len (l : List Dm) (t : List Rw) (m lo hi : List Int) : (runT l t m lo hi).length ≤ t.length := by
  have h1 := rollT_len l (cutF lo hi t) (zeros l.length) m
  have h2 := cutF_len lo hi t
  unfold runT
  split
  · unfold runRows; omega
  · simp
theorem short_c {v : Value} {t : List Rw} (hv : tblD F v t) (k : K (if t.length > 500 then .tuple #[.slice none 0 0, .int .u16 61] else .tuple #[v, .int .u16 0]) ⟨F, M, N⟩) :
    callv Tryz.prog (.func (.func 107) #[] #[]) #[v] K E ⟨F, M, N⟩ := by
  refine callv_of_text mixed Tryz.func107 (by kernel_rfl) (t107 _ E _) (fun hw => ?_)
  have hlv : lenV v = some (.int .i64 (t.length : Nat)) := by obtain ⟨a, c, rfl⟩ := hv.form; rfl
  refine pv_r hlv ?_
  refine gtr_r (fun h1 => ?_) (fun h1 => ?_)
  · try simp only [sS]
    rw [if_pos (by omega)] at k
    exact fun hc => ⟨_, wk_refl hc, fun _ => k⟩
  · try simp only [sS]
    rw [if_neg (by omega)] at k
    exact fun hc => ⟨_, wk_refl hc, fun _ => k⟩
set_option maxRecDepth 10000 in
theorem run_c {u vt : Value} {cs : List Value} {l : List Dm} {t : List Rw} {m lo hi : List Int} (hu : dimsD F u l) (hl : l.length ≤ 140737488351232) (ht : tblD F vt t) (htl : t.length ≤ 1000000000) (hq : queryD F cs m lo hi) (hmi : ∀ x ∈ m, i64 x) (hti : ∀ r ∈ t, ∀ x ∈ r.1, i64 x) (hk' : checkE l m lo hi = 0 → ∀ r ∈ t, r.1.length ≤ 10000000000)
    (k : ∀ v' F' N', (Hp.mk F' M N').wf → subF F F' → N ≤ N' → tblD F' v' (runT l t m lo hi) → K (.tuple #[v', .int .u16 ((runE l t m lo hi : Nat) : Int)]) ⟨F', M, N'⟩) :
    callv Tryz.prog (.func (.func 73) #[] #[]) #[u, vt, .agg cs.toArray] K E ⟨F, M, N⟩ := by
  refine callv_of_text mixed Tryz.func73 (by kernel_rfl) (t73 _ E _ _ _) (fun hw => ?_)
  have hm : clean M N := hw.m
  have hq' := hq
  obtain ⟨a, b, c, rfl, ha, hb, hc, hml, hlol, hhil⟩ := hq'
  have hlu : lenV u = some (.int .i64 (l.length : Nat)) := by obtain ⟨a, c, rfl⟩ := hu.form; rfl
  refine nw_r (cs := [a, b, c]) (fun b1 hb1 => ?_)
  refine ldMa (vs := [a, b, c]) ?_
  have fin : ∀ v' (n : Nat) F' M' N', n = runE l t m lo hi → subF F F' → N ≤ N' → (∀ q, q < N → M' q = M q) → tblD F' v' (runT l t m lo hi) → ∀ h', h' = (⟨F', M', N'⟩ : Hp) → h'.wf → ∃ h'', h'.wk h'' ∧ (h''.wf → K (.tuple #[v', .int .u16 ((n : Nat) : Int)]) h'') := fun v' n F' M' N' e hF hN hM hv h' e' hc => by
    subst e; subst e'
    exact ⟨_, frz_wf hm hM hc, fun hw' => k _ _ _ hw' (hF.trans (subF_frzAll hc)) hN (hv.mono (subF_frzAll hc))⟩
  have hM1 : ∀ q, q < N → upd M b1 (some (.cells 55 [a, b, c] 3)) q = M q := fun q hq => upd_ne _ _ (by omega)
  refine check_c hu hl hq (fun F2 N2 hw2 hF2 hN2 => ?_)
  refine neq_r (fun h1 => ?_) (fun h1 => ?_)
  · try simp only [sS]
    have e1 : checkE l m lo hi = runE l t m lo hi := by unfold runE; rw [if_neg (by omega)]
    refine fin _ _ _ _ _ e1 hF2 (by omega) hM1 ?_ _ rfl
    unfold runT; rw [if_neg (by omega)]; exact tblD.nil
  have hch : checkE l m lo hi = 0 := by omega
  have hk := hk' hch
  obtain ⟨hokd, hoklv, hokb⟩ := checkE_ok hch
  have hl4 := okDims_len hokd
  try simp only [sS]
  refine pv_r hlu ?_
  refine tsound_c (ht.mono hF2) (by omega) (fun N3 hN3 hw3 => ?_)
  cases hs : soundT l.length t
  · try simp only [sS]
    have e1 : 1 = runE l t m lo hi := by unfold runE; rw [if_pos hch, if_pos hs]
    refine fin _ 1 _ _ _ e1 hF2 (by omega) hM1 ?_ _ rfl
    unfold runT; rw [if_neg (by omega)]; exact tblD.nil
  have hre := rollE_ok hch hs
  have hcl := cutF_len lo hi t
  have hrl : (runRows l t m lo hi).length ≤ t.length := by unfold runRows; have := rollT_len l (cutF lo hi t) (zeros l.length) m; omega
  have hrun : runE l t m lo hi = if (runRows l t m lo hi).length > 500 then 61 else 0 := by unfold runE; rw [if_pos hch, if_neg (by rw [hs]; decide)]
  have htci : ∀ r ∈ cutF lo hi t, ∀ x ∈ r.1, i64 x := fun r hr => hti r ((List.mem_filter.1 hr).1)
  try simp only [sS]
  refine ldM (v := b) ?_
  try simp only [sS]
  refine ldM (v := c) ?_
  refine pv_r hlu ?_
  try simp only [sS]
  refine ldM (v := a) ?_
  have last : ∀ v' F' M' N', subF F F' → N ≤ N' → (∀ q, q < N → M' q = M q) → tblD F' v' (runRows l t m lo hi) → callv Tryz.prog (.func (.func 107) #[] #[]) #[v'] (fun t23 => pv (exV 0 t23) fun t24 => pv (exV 1 t23) fun t25 => fun h => h.wf → ∃ h', h.wk h' ∧ (h'.wf → K (.tuple #[t24, t25]) h')) E ⟨F', M', N'⟩ := fun v' F' M' N' hF hN hM hv => by
    refine short_c hv ?_
    split
    · rename_i h500
      try simp only [sS]
      refine fin _ 61 _ _ _ (by rw [hrun, if_pos h500]) hF hN hM ?_ _ rfl
      unfold runT; rw [if_neg (by rw [hrun, if_pos h500]; decide)]; exact tblD.nil
    · rename_i h500
      try simp only [sS]
      refine fin _ 0 _ _ _ (by rw [hrun, if_neg h500]) hF hN hM ?_ _ rfl
      unfold runT; rw [if_pos (by rw [hrun, if_neg h500])]; exact hv
  have FF := hF2
  have hbox := upd_same M b1 (some (.cells 55 [a, b, c] 3))
  have hm1 : clean (upd M b1 (some (.cells 55 [a, b, c] 3))) N3 := hw3.m
  have hb13 : b1 < N3 := hm1.lt hbox
  generalize upd M b1 _ = M1 at *
  refine ⟨?_, ?_⟩
  · refine dcut_c (ht.mono hF2) (hb.mono hF2) (hc.mono hF2) hlol hhil htl hk (fun v4 F4 N4 hw4 hF4 hN4 hcut => ?_)
    refine ⟨ldV_c (row_M hbox) rfl, ?_⟩
    refine mkz_r (by omega) (fun b5 hb5 => ?_)
    refine ⟨ldV_c (row_M ((upd_ne _ _ (by omega)).trans hbox)) rfl, ?_⟩
    refine callv_go (fun hc' => ⟨_, wk_P (p := fun q => q = b5) hc', ?_⟩)
    have hs5 := subF_frzP (p := fun q => q = b5) hc'
    have hz : sF (frzP F4 (upd M1 b5 (some (.cells 3 (ic (zeros l.length)) l.length))) (fun q => q = b5)) 1 (.slice (some ⟨b5, 0, none⟩) l.length l.length) (zeros l.length).length (ic (zeros l.length)) := by
      rw [zeros_len]; exact sF_lit (frzP_at (p := fun q => q = b5) rfl (upd_same _ _ _)) (by simp [ic, zeros]) (Nat.le_refl _)
    have hM5 : ∀ q, q < N → keepM (upd M1 b5 (some (.cells 3 (ic (zeros l.length)) l.length))) (fun q => ¬ q = b5) q = M q := fun q hq => (keepM_in (by omega)).trans ((upd_ne _ _ (by omega)).trans (hM1 q hq))
    generalize frzP F4 _ _ = F5 at *
    generalize keepM _ _ = M5 at *
    have F25 := hF4.trans hs5
    refine troll_c ((hu.mono hF2).mono F25) hl (hcut.mono hs5) (by omega) hz ((ha.mono hF2).mono F25) hmi htci (fun v6 F6 N6 hw6 hF6 hN6 hr => ?_)
    rw [hre]
    try simp only [sS]
    refine neq_f (by simp) ?_
    try simp only [sS]
    exact last _ _ _ _ ((hF2.trans F25).trans hF6) (by omega) hM5 hr
  · refine mkz_r (by omega) (fun b5 hb5 => ?_)
    refine ⟨ldV_c (row_M ((upd_ne _ _ (by omega)).trans hbox)) rfl, ldV_c (row_M ((upd_ne _ _ (by omega)).trans hbox)) rfl, ldV_c (row_M ((upd_ne _ _ (by omega)).trans hbox)) rfl, ?_⟩
    refine callv_go (fun hc' => ⟨_, wk_P (p := fun q => q = b5) hc', ?_⟩)
    have hs5 := subF_frzP (p := fun q => q = b5) hc'
    have hz : sF (frzP F2 (upd M1 b5 (some (.cells 3 (ic (zeros l.length)) l.length))) (fun q => q = b5)) 1 (.slice (some ⟨b5, 0, none⟩) l.length l.length) (zeros l.length).length (ic (zeros l.length)) := by
      rw [zeros_len]; exact sF_lit (frzP_at (p := fun q => q = b5) rfl (upd_same _ _ _)) (by simp [ic, zeros]) (Nat.le_refl _)
    have hM5 : ∀ q, q < N → keepM (upd M1 b5 (some (.cells 3 (ic (zeros l.length)) l.length))) (fun q => ¬ q = b5) q = M q := fun q hq => (keepM_in (by omega)).trans ((upd_ne _ _ (by omega)).trans (hM1 q hq))
    have hbox5 : keepM (upd M1 b5 (some (.cells 3 (ic (zeros l.length)) l.length))) (fun q => ¬ q = b5) b1 = some (.cells 55 [a, b, c] 3) := (keepM_in (by omega)).trans ((upd_ne _ _ (by omega)).trans hbox)
    generalize frzP F2 _ _ = F5 at *
    generalize keepM _ _ = M5 at *
    refine dcut_c ((ht.mono hF2).mono hs5) ((hb.mono hF2).mono hs5) ((hc.mono hF2).mono hs5) hlol hhil htl hk (fun v4 F4 N4 hw4 hF4 hN4 hcut => ?_)
    refine ⟨ldV_c (row_M hbox5) rfl, ?_⟩
    have F25 := hs5.trans hF4
    refine troll_c ((hu.mono hF2).mono F25) hl hcut (by omega) (hz.mono hF4) ((ha.mono hF2).mono F25) hmi htci (fun v6 F6 N6 hw6 hF6 hN6 hr => ?_)
    rw [hre]
    try simp only [sS]
    refine neq_f (by simp) ?_
    try simp only [sS]
    exact last _ _ _ _ ((hF2.trans F25).trans hF6) (by omega) hM5 hr
end Go.Proofs.YtgcmbkoejjcjlaaGreatDoor.A
open Go Go.RowKit Go.Proofs.YtgcmbkoejjcjlaaGreatDoor.K Go.Proofs.YtgcmbkoejjcjlaaGreatDoor.T
set_option linter.unusedVariables false
set_option linter.unusedSimpArgs false
namespace Go.Proofs.YtgcmbkoejjcjlaaGreatDoor.A
variable {F F' : Nat → Option (List Value)} {M M' : Nat → Option Chunk} {N N' : Nat} {K : Kont} {E : PanK}
end Go.Proofs.YtgcmbkoejjcjlaaGreatDoor.A
open Go Go.RowKit Go.Proofs.YtgcmbkoejjcjlaaGreatDoor.K Go.Proofs.YtgcmbkoejjcjlaaGreatDoor.T
set_option linter.unusedVariables false
set_option linter.unusedSimpArgs false
namespace Go.Proofs.YtgcmbkoejjcjlaaGreatDoor.A
variable {F F' : Nat → Option (List Value)} {M M' : Nat → Option Chunk} {N N' : Nat} {K : Kont} {E : PanK}
def smallQ (l : List Dm) (m lo hi : List Int) : Prop := l.length ≤ 4 ∧ (∀ d ∈ l, d.2.length ≤ 4) ∧ m.length ≤ 4 ∧ lo.length ≤ 4 ∧ hi.length ≤ 4
theorem int1 {b : Nat} {x : Int} (h : F b = some [.int .i64 x]) : sF F 1 (.slice (some ⟨b, 0, none⟩) 1 1) [x].length (ic [x]) := sF_lit h rfl (by decide)
end Go.Proofs.YtgcmbkoejjcjlaaGreatDoor.A
open Go Go.RowKit Go.Proofs.YtgcmbkoejjcjlaaGreatDoor.K Go.Proofs.YtgcmbkoejjcjlaaGreatDoor.T
set_option linter.unusedVariables false
set_option linter.unusedSimpArgs false
namespace Go.Proofs.YtgcmbkoejjcjlaaGreatDoor.A
variable {F F' : Nat → Option (List Value)} {M M' : Nat → Option Chunk} {N N' : Nat} {K : Kont} {E : PanK}
end Go.Proofs.YtgcmbkoejjcjlaaGreatDoor.A
open Go Go.RowKit Go.Proofs.YtgcmbkoejjcjlaaGreatDoor.K Go.Proofs.YtgcmbkoejjcjlaaGreatDoor.T
set_option linter.unusedVariables false
set_option linter.unusedSimpArgs false
namespace Go.Proofs.YtgcmbkoejjcjlaaGreatDoor.A
variable {F F' : Nat → Option (List Value)} {M M' : Nat → Option Chunk} {N N' : Nat} {K : Kont} {E : PanK}
def joinE (ts : List (List Rw)) : Nat := if (tab ts.flatten).length > 500 then 61 else 0
def joinT (ts : List (List Rw)) : List Rw := if (tab ts.flatten).length > 500 then [] else tab ts.flatten
end Go.Proofs.YtgcmbkoejjcjlaaGreatDoor.A
open Go Go.RowKit Go.Proofs.YtgcmbkoejjcjlaaGreatDoor.K Go.Proofs.YtgcmbkoejjcjlaaGreatDoor.T
set_option linter.unusedVariables false
set_option linter.unusedSimpArgs false
namespace Go.Proofs.YtgcmbkoejjcjlaaGreatDoor.A
variable {F F' : Nat → Option (List Value)} {M M' : Nat → Option Chunk} {N N' : Nat} {K : Kont} {E : PanK}
theorem mm_max {x y : Int} {k : IntKind} : mm true (.int k x) (.int k y) = some (.int k (max x y)) := by
  simp only [mm, if_true]
  congr 2
  split <;> omega
end Go.Proofs.YtgcmbkoejjcjlaaGreatDoor.A
open Go Go.RowKit Go.Proofs.YtgcmbkoejjcjlaaGreatDoor.K Go.Proofs.YtgcmbkoejjcjlaaGreatDoor.T
set_option linter.unusedVariables false
set_option linter.unusedSimpArgs false
namespace Go.Proofs.YtgcmbkoejjcjlaaGreatDoor.A
variable {F F' : Nat → Option (List Value)} {M M' : Nat → Option Chunk} {N N' : Nat} {K : Kont} {E : PanK}
theorem mm_min {x y : Int} {k : IntKind} : mm false (.int k x) (.int k y) = some (.int k (min x y)) := by
  simp only [mm, Bool.false_eq_true, if_false]
  congr 2
  split <;> omega
theorem get_r {B : Nat} {v : Value} {l : List Int} {K : Value → Kont} (h : own M B 3 1 v l.length (ic l)) {i : Nat} (hi : i < l.length) (k : ∀ p, K p (.int .i64 l[i]) ⟨F, M, N⟩) : pv (iaV none 1 v (.int .i64 (i : Nat))) (fun p => ld false 1 p (K p)) ⟨F, M, N⟩ := by
  rcases h.2 with ⟨rfl, h0⟩ | ⟨b, c, rest, rfl, h1, h2, h3, h4⟩
  · omega
  · refine iaN_r hi (ld_r (ldV_c (row_M h4) ?_) (k _))
    rw [Nat.zero_add, Nat.mul_one, List.getElem?_append_left (by simpa [ic] using hi)]
    simp [ic, List.getElem?_eq_getElem hi]
theorem put_r {B : Nat} {v : Value} {l : List Int} {K : Value → Kont} {x : Int} (h : own M B 3 1 v l.length (ic l)) {i : Nat} (hi : i < l.length)
    (k : ∀ p M', own M' B 3 1 v (l.set i x).length (ic (l.set i x)) → (∀ q, v.ownBlock ≠ some q → M' q = M q) → (∀ n, clean M n → clean M' n) → K p undef ⟨F, M', N⟩) : pv (iaV none 1 v (.int .i64 (i : Nat))) (fun p => st 1 p (.int .i64 x) (K p)) ⟨F, M, N⟩ := by
  rcases h.2 with ⟨rfl, h0⟩ | ⟨b, c, rest, rfl, h1, h2, h3, h4⟩
  · omega
  · refine iaN_r hi ?_
    have hl : i < (ic l).length := by simpa [ic] using hi
    refine st_r (cs' := ic (l.set i x) ++ rest) h4 rfl (List.all_eq_true.1 rfl) (by rw [List.length_append]; omega) ?_ (k _ _ ⟨by simp [ic], .inr ⟨b, c, rest, by rw [List.length_set], by rw [List.length_set]; exact h1, h2, h3, upd_same _ _ _⟩⟩ (fun q hq => upd_ne _ _ (fun e => hq (by rw [e]; rfl))) (fun n hc => hc.set (hc.lt h4) _))
    rw [show (Value.int .i64 x).cells.toList = [Value.int .i64 x] from rfl, Nat.zero_add, Nat.mul_one, splice_app (by simp; omega)]
    congr 1
    unfold ic
    rw [List.map_set]
    unfold splice
    rw [List.set_eq_take_append_cons_drop, if_pos (by simpa using hi)]
    simp
theorem half_get {α : Type} {x a : List α} {i : Nat} (hx : i < x.length) (ha : i < a.length) (h : i < (x.take i ++ a.drop i).length) : (x.take i ++ a.drop i)[i] = a[i] := by
  rw [List.getElem_append_right (by rw [List.length_take]; omega)]
  simp [List.length_take, Nat.min_eq_left (Nat.le_of_lt hx)]
theorem half_set {α : Type} {x a : List α} {i : Nat} (hx : i < x.length) (ha : i < a.length) : (x.take i ++ a.drop i).set i x[i] = x.take (i + 1) ++ a.drop (i + 1) := by
  rw [List.set_append, if_neg (by rw [List.length_take]; omega), List.length_take, Nat.min_eq_left (by omega), Nat.sub_self, List.drop_eq_getElem_cons ha, List.set_cons_zero, List.take_add_one, List.getElem?_eq_getElem hx, Option.toList_some, List.append_assoc]
  rfl
set_option maxRecDepth 10000 in
theorem key_o {u v : Value} {l : List Dm} {c : List Int} (hu : dimsD F u l) (hv : sF F 1 v c.length (ick .u16 c)) (hl : l.length ≤ 1000000) (hs : ∀ d ∈ l, 0 < d.1 ∧ d.1 ≤ 1000000) (hc : ∀ x ∈ c, 0 ≤ x ∧ x < 65536) (hcl : c.length ≤ 140737488351232)
    (k : ∀ v' M' N', own M' N 3 1 v' (keyOf l c).length (ic (keyOf l c)) → (∀ q, q < N → M' q = M q) → N ≤ N' → clean M' N' → (Hp.mk F M' N').wf → K v' ⟨F, M', N'⟩) :
    callv Tryz.prog (.func (.func 43) #[] #[]) #[u, v] K E ⟨F, M, N⟩ := by
  refine callv_of_text mixed Tryz.func43 (by kernel_rfl) (t43 _ E _ _) (fun hw => ?_)
  have hm : clean M N := hw.m
  obtain ⟨rows, hu1, hu2⟩ := hu
  have hlu : lenV u = some (.int .i64 (l.length : Nat)) := by obtain ⟨a, c, rfl, _⟩ := hu1.form; rfl
  have hlv : lenV v = some (.int .i64 (c.length : Nat)) := by obtain ⟨a, c, rfl, _⟩ := hv.form; rfl
  refine l43_1_1_0_1_0_0 (σ := Nat × Value) (fun s => s.2) (fun s => .int .i64 (s.1 : Nat))
    (fun s h => ∃ M' N', h = ⟨F, M', N'⟩ ∧ N ≤ N' ∧ (∀ q, q < N → M' q = M q) ∧ clean M' N' ∧ s.1 ≤ l.length ∧ own M' N 3 1 s.2 s.1 (ic (keyOf (l.take s.1) c))) (fun s => l.length - s.1) (0, .slice none 0 0) rfl rfl
    (fun hw2 => ⟨_, wk_refl hw2, M, N, rfl, Nat.le_refl _, fun _ _ => rfl, hm, Nat.zero_le _, own.nil⟩) (fun k1 s j h1 hI hw2 next => ?_)
  rw [t43_1_1_0_1_0_0]
  obtain ⟨M2, N2, rfl, hN2, hM2, hm2, hi, ho2⟩ := hI
  try simp only [hlu, hlv]
  try simp only [sS]
  refine lss_r (fun hlt => ?_) (fun hge => ?_)
  · have h1 : s.1 < l.length := by omega
    obtain ⟨d1, d2⟩ := hs l[s.1] (List.getElem_mem _)
    try simp only [sS]
    have nat : ∀ x : Int, 0 ≤ x → x < 65536 → x = c.getD s.1 0 → ∃ n : Nat, x = n ∧ n < 65536 ∧ (c.getD s.1 0) % l[s.1].1 = ((n % l[s.1].1.toNat : Nat) : Int) := fun x h0 h1 e => ⟨x.toNat, by omega, by omega, by
      rw [← e, Int.natCast_emod, Int.toNat_of_nonneg h0, Int.toNat_of_nonneg (by omega)]⟩
    refine lss_r (fun hlt2 => ?_) (fun hge2 => ?_)
    have h2 : s.1 < c.length := by omega
    try simp only [sS]
    refine ixk_r hv h2 fun p => ?_
    obtain ⟨x0, x1⟩ := hc c[s.1] (List.getElem_mem _)
    obtain ⟨n, hn, hn1, hn2⟩ := nat c[s.1] x0 x1 (by simp [List.getD_eq_getElem?_getD, h2])
    rw [hn]
    refine cv_i64 (a := n) (by omega) ?_
    rotate_left
    try simp only [sS]
    have hg : c.getD s.1 0 = 0 := by rw [List.getD_eq_getElem?_getD, List.getElem?_eq_none (by omega)]; rfl
    obtain ⟨n, hn0, hn2⟩ : ∃ n : Nat, (.int .i64 0 : Value) = .int .i64 (n : Nat) ∧ (c.getD s.1 0) % l[s.1].1 = ((n % l[s.1].1.toNat : Nat) : Int) := ⟨0, rfl, by rw [hg]; simp⟩
    rw [hn0]
    all_goals
      rw [t43_1_1_0_1_0_0_1_0_0_1_1]
      refine fld_r hu1 hu2 (by decide) h1 (off := 0) (by decide) fun p q r x hR _ hx => ?_
      obtain ⟨kv, rfl, hkv', hkl⟩ := hR
      simp at hx
      subst hx
      rw [show l[s.1].1 = ((l[s.1].1.toNat : Nat) : Int) by omega]
      refine rem_n (by omega) ?_
      refine push_r (new := [.int .i64 ((n % l[s.1].1.toNat : Nat) : Int)]) ho2 hm2 hN2 (by kernel_rfl) rfl (List.all_eq_true.1 rfl) (by omega) (by unfold maxLen; omega) (fun p v' M3 N3 h4 h5 h6 h7 => ?_)
      refine inc_r (by omega) ?_
      refine next (s.1 + 1, v') _ _ (by simp only; omega) (fun hw3 => ⟨_, wk_refl hw3, M3, N3, rfl, by omega, fun q hq => ?_, h7, h1, ?_⟩)
      · exact ((h5 q (fun e => by have := (ho2.ge q e).1; omega) (by omega)).1).trans (hM2 q hq)
      · simp only
        rw [keyOf_take l c h1, hn2]
        simpa [ic] using h4
  · try simp only [sS]
    rw [List.take_of_length_le (by omega)] at ho2
    rw [show s.1 = l.length by omega] at ho2
    exact fun hc' => ⟨_, wk_refl hc', fun hw' => k _ _ _ (by rw [keyOf_len]; exact ho2) hM2 hN2 hm2 hw'⟩
def boxLo (l : List Dm) (a b : List Int) : List Int := List.zipWith min (keyOf l a) (keyOf l b)
def boxHi (l : List Dm) (a b : List Int) : List Int := List.zipWith (fun x y => max x y + 1) (keyOf l a) (keyOf l b)
theorem boxLo_len (l : List Dm) (a b : List Int) : (boxLo l a b).length = l.length := by simp [boxLo, keyOf_len]
theorem boxHi_len (l : List Dm) (a b : List Int) : (boxHi l a b).length = l.length := by simp [boxHi, keyOf_len]
theorem keyOf_at {l : List Dm} {c : List Int} (hs : ∀ d ∈ l, 0 < d.1 ∧ d.1 ≤ 1000000) {i : Nat} (hi : i < (keyOf l c).length) (hl : i < l.length) : 0 ≤ (keyOf l c)[i] ∧ (keyOf l c)[i] < l[i].1 := by
  obtain ⟨d1, d2⟩ := hs _ (List.getElem_mem hl)
  have e : (keyOf l c)[i] = (c.getD i 0) % l[i].1 := by simp [keyOf]
  rw [e]
  exact ⟨Int.emod_nonneg _ (by omega), Int.emod_lt_of_pos _ d1⟩
set_option maxRecDepth 10000 in
theorem box_c {u v w : Value} {l : List Dm} {a b : List Int} (hu : dimsD F u l) (hv : sF F 1 v a.length (ick .u16 a)) (hw' : sF F 1 w b.length (ick .u16 b)) (hl : l.length ≤ 1000000) (hs : ∀ d ∈ l, 0 < d.1 ∧ d.1 ≤ 1000000) (hac : ∀ x ∈ a, 0 ≤ x ∧ x < 65536) (hbc : ∀ x ∈ b, 0 ≤ x ∧ x < 65536) (hal : a.length ≤ 140737488351232) (hbl : b.length ≤ 140737488351232)
    (k : ∀ x y F' N', (Hp.mk F' M N').wf → subF F F' → N ≤ N' → sF F' 1 x (boxLo l a b).length (ic (boxLo l a b)) → sF F' 1 y (boxHi l a b).length (ic (boxHi l a b)) → K (.tuple #[x, y]) ⟨F', M, N'⟩) :
    callv Tryz.prog (.func (.func 35) #[] #[]) #[u, v, w] K E ⟨F, M, N⟩ := by
  refine callv_of_text mixed Tryz.func35 (by kernel_rfl) (t35 _ E _ _ _) (fun hw => ?_)
  have hm : clean M N := hw.m
  have hlu : lenV u = some (.int .i64 (l.length : Nat)) := by obtain ⟨a, c, h⟩ := hu.form; rw [h]; rfl
  refine key_o hu hv hl hs hac hal (fun x M1 N1 ho1 hM1 hN1 hm1 hw1 => ?_)
  refine key_o hu hw' hl hs hbc hbl (fun y M2 N2 ho2 hM2 hN2 hm2 hw2 => ?_)
  have hx1 : ∀ q, x.ownBlock = some q → N ≤ q ∧ q < N1 := fun q e => ⟨(ho1.ge q e).1, ho1.lt hm1 q e⟩
  have hy1 : ∀ q, y.ownBlock = some q → N1 ≤ q := fun q e => (ho2.ge q e).1
  have hox : own M2 N 3 1 x (keyOf l a).length (ic (keyOf l a)) := ho1.keep (fun q e => hM2 q (hx1 q e).2) (Nat.le_refl _)
  have hoy : own M2 N 3 1 y (keyOf l b).length (ic (keyOf l b)) := ho2.keep (fun q e => rfl) hN1
  have hA := keyOf_len l a
  have hB := keyOf_len l b
  have hL := boxLo_len l a b
  have hH := boxHi_len l a b
  have bA : ∀ i (h : i < (keyOf l a).length), 0 ≤ (keyOf l a)[i] ∧ (keyOf l a)[i] ≤ 1000000 := fun i h => by
    have := keyOf_at hs h (by omega); have := hs _ (List.getElem_mem (show i < l.length by omega)); omega
  have bB : ∀ i (h : i < (keyOf l b).length), 0 ≤ (keyOf l b)[i] ∧ (keyOf l b)[i] ≤ 1000000 := fun i h => by
    have := keyOf_at hs h (by omega); have := hs _ (List.getElem_mem (show i < l.length by omega)); omega
  have eL : ∀ i (h : i < (boxLo l a b).length) (h1 : i < (keyOf l a).length) (h2 : i < (keyOf l b).length), (boxLo l a b)[i] = min (keyOf l a)[i] (keyOf l b)[i] := fun i h h1 h2 => by simp [boxLo]
  have eH : ∀ i (h : i < (boxHi l a b).length) (h1 : i < (keyOf l a).length) (h2 : i < (keyOf l b).length), (boxHi l a b)[i] = max (keyOf l a)[i] (keyOf l b)[i] + 1 := fun i h h1 h2 => by simp [boxHi]
  generalize keyOf l a = A at *
  generalize keyOf l b = B at *
  generalize boxLo l a b = L at *
  generalize boxHi l a b = H at *
  refine l35_1_1_1_0_1_0_0 (σ := Nat) (fun i => .int .i64 (i : Nat)) (fun i h => ∃ M', h = ⟨F, M', N2⟩ ∧ i ≤ l.length ∧ (∀ q, q < N → M' q = M q) ∧ clean M' N2 ∧ own M' N 3 1 x (L.take i ++ A.drop i).length (ic (L.take i ++ A.drop i)) ∧ own M' N 3 1 y (H.take i ++ B.drop i).length (ic (H.take i ++ B.drop i))) (fun i => l.length - i) 0 rfl
    (fun hw3 => ⟨_, wk_refl hw3, M2, rfl, Nat.zero_le _, fun q hq => (hM2 q (by omega)).trans (hM1 q hq), hm2, hox, hoy⟩) (fun k1 i j h1 hI hw3 next => ?_)
  rw [t35_1_1_1_0_1_0_0]
  obtain ⟨M3, rfl, hi, hM3, hm3, h3, h4⟩ := hI
  refine pv_r hlu ?_
  refine lss_r (fun hlt => ?_) (fun hge => ?_)
  · have i1 : i < l.length := by omega
    have i2 : i < (L.take i ++ A.drop i).length := by simp; omega
    have i3 : i < (H.take i ++ B.drop i).length := by simp; omega
    have gA : (L.take i ++ A.drop i)[i] = A[i] := half_get (by omega) (by omega) i2
    have gB : (H.take i ++ B.drop i)[i] = B[i] := half_get (by omega) (by omega) i3
    have cA := bA i (by omega)
    have cB := bB i (by omega)
    have dL := eL i (by omega) (by omega) (by omega)
    have dH := eH i (by omega) (by omega) (by omega)
    try simp only [sS]
    refine get_r h3 i2 fun p => get_r h4 i3 fun p => ?_
    refine pv_r (mm_min) ?_
    refine get_r h3 i2 fun p => get_r h4 i3 fun p => ?_
    refine pv_r (mm_max) ?_
    rw [gA, gB]
    refine add_r (by omega) (by omega) ?_
    rw [← dL, ← dH]
    refine put_r h4 i3 fun p M4 g1 g2 g3 => ?_
    have h3' : own M4 N 3 1 x (L.take i ++ A.drop i).length (ic (L.take i ++ A.drop i)) := h3.keep (fun q e => g2 q (fun e2 => by have := hy1 q e2; have := hx1 q e; omega)) (Nat.le_refl _)
    refine put_r h3' i2 fun p M5 k1' k2 k3 => ?_
    refine inc_r (by omega) ?_
    rw [half_set (by omega) (by omega)] at g1 k1'
    refine next (i + 1) _ _ (by omega) (fun hw4 => ⟨_, wk_refl hw4, M5, rfl, i1, fun q hq => ?_, k3 _ (g3 _ hm3), k1', g1.keep (fun q e => k2 q (fun e2 => by have := hy1 q e; have := hx1 q e2; omega)) (Nat.le_refl _)⟩)
    exact (k2 q (fun e => by have := hx1 q e; omega)).trans ((g2 q (fun e => by have := hy1 q e; omega)).trans (hM3 q hq))
  · try simp only [sS]
    rw [List.take_of_length_le (by omega), List.drop_eq_nil_of_le (by omega), List.append_nil] at h3 h4
    exact fun hc => ⟨_, frz_wf hm hM3 hc, fun hw4 => k _ _ _ _ hw4 (subF_frzAll hc) (by omega) (h3.rd.frz hc (fun b hb => .inl (h3.ge b hb).1)) (h4.rd.frz hc (fun b hb => .inl (h4.ge b hb).1))⟩
theorem boxed {l : List Dm} {a b : List Int} (hs : ∀ d ∈ l, 0 < d.1 ∧ d.1 ≤ 1000000) : boxOK l (boxLo l a b) (boxHi l a b) = true := by
  have hL := boxLo_len l a b
  have hH := boxHi_len l a b
  unfold boxOK
  rw [decide_eq_true ⟨hL, hH⟩, Bool.true_and, List.all_eq_true]
  intro i hi
  have i1 : i < l.length := by rw [← hL]; exact List.mem_range.1 hi
  have i2 : i < (keyOf l a).length := by rw [keyOf_len]; exact i1
  have i3 : i < (keyOf l b).length := by rw [keyOf_len]; exact i1
  have h1 := keyOf_at hs i2 i1
  have h2 := keyOf_at hs i3 i1
  rw [getD_at (by omega), getD_at (by omega), getD_at i1]
  have eL : (boxLo l a b)[i] = min (keyOf l a)[i] (keyOf l b)[i] := by simp [boxLo]
  have eH : (boxHi l a b)[i] = max (keyOf l a)[i] (keyOf l b)[i] + 1 := by simp [boxHi]
  rw [eL, eH]
  exact decide_eq_true ⟨by omega, by omega, by omega⟩
set_option maxRecDepth 10000 in
theorem ask_c {u w va vb : Value} {l : List Dm} {c a b : List Int} (hu : dimsD F u l) (hw' : sF F 1 w c.length (ick .u8 c)) (hv : sF F 1 va a.length (ick .u16 a)) (hvb : sF F 1 vb b.length (ick .u16 b)) (hl : l.length ≤ 1000000) (hs : ∀ d ∈ l, 0 < d.1 ∧ d.1 ≤ 1000000) (hdv : ∀ d ∈ l, d.2.length ≤ 1000000) (hcc : ∀ x ∈ c, 0 ≤ x ∧ x < 256) (hac : ∀ x ∈ a, 0 ≤ x ∧ x < 65536) (hbc : ∀ x ∈ b, 0 ≤ x ∧ x < 65536) (hcl : c.length ≤ 140737488351232) (hal : a.length ≤ 140737488351232) (hbl : b.length ≤ 140737488351232)
    (k : ∀ cs F' N', (Hp.mk F' M N').wf → subF F F' → N ≤ N' → queryD F' cs (levOf l c []) (boxLo l a b) (boxHi l a b) → K (.agg cs.toArray) ⟨F', M, N'⟩) :
    callv Tryz.prog (.func (.func 17) #[] #[]) #[u, w, va, vb] K E ⟨F, M, N⟩ := by
  refine callv_of_text mixed Tryz.func17 (by kernel_rfl) (t17 _ E _ _ _ _) (fun hw => ?_)
  have hm : clean M N := hw.m
  refine nw_r (fun b1 hb1 => ?_)
  refine box_c hu hv hvb hl hs hac hbc hal hbl (fun x y F2 N2 hw2 hF2 hN2 hx hy => ?_)
  try simp only [sS]
  refine lgen_c (m := []) (hu.mono hF2) (hw'.mono hF2) (sF.nil _ _ _) hl hdv hcc (nil_ok l) hcl (by simp) (fun z F3 N3 hw3 hF3 hN3 hz => ?_)
  have hx3 := hx.mono hF3
  have hy3 := hy.mono hF3
  obtain ⟨a1, c1, e1, _⟩ := hx3.form
  obtain ⟨a2, c2, e2, _⟩ := hy3.form
  obtain ⟨a3, c3, e3, _⟩ := hz.form
  refine pv_r (v := .agg #[z, x, y]) (by rw [e1, e2, e3]; kernel_rfl) ?_
  refine stM (cs' := [z, x, y]) ?_ (upd_same _ _ _) rfl rfl (by rw [e1, e2, e3]; exact List.all_eq_true.1 rfl) (by exact Nat.le_of_ble_eq_true rfl)
  rw [upd_upd]
  refine ldMa (vs := [z, x, y]) ?_
  have h1 := boxLo_len l a b
  have h2 := boxHi_len l a b
  have h3 := levOf_len l c []
  exact fun hc => ⟨⟨F3, M, N3⟩, wk_drop hc (subM_drop (subM_refl _) (hm _ hb1)), fun hw4 => k [z, x, y] _ _ hw4 (hF2.trans hF3) (by omega) ⟨z, x, y, rfl, hz, hx3, hy3, by omega, by omega, by omega⟩⟩
end Go.Proofs.YtgcmbkoejjcjlaaGreatDoor.A
open Go Go.RowKit Go.Proofs.YtgcmbkoejjcjlaaGreatDoor.K Go.Proofs.YtgcmbkoejjcjlaaGreatDoor.T
set_option linter.unusedVariables false
set_option linter.unusedSimpArgs false
namespace Go.Proofs.YtgcmbkoejjcjlaaGreatDoor.A
variable {F F' : Nat → Option (List Value)} {M M' : Nat → Option Chunk} {N N' : Nat} {K : Kont} {E : PanK}
theorem ick_len {k : IntKind} (l : List Int) : (ick k l).length = l.length := by simp [ick]
theorem ick_at {k : IntKind} {l : List Int} {i : Nat} (h : i < l.length) : (ick k l)[i]? = some (.int k l[i]) := by simp [ick, h]
theorem getk_r {B : Nat} {e : TypeId} {kd : IntKind} {v : Value} {l : List Int} {K : Value → Kont} (h : own M B e 1 v l.length (ick kd l)) {i : Nat} (hi : i < l.length) (k : ∀ p, K p (.int kd l[i]) ⟨F, M, N⟩) : pv (iaV none 1 v (.int .i64 (i : Nat))) (fun p => ld false 1 p (K p)) ⟨F, M, N⟩ := by
  rcases h.2 with ⟨rfl, h0⟩ | ⟨b, c, rest, rfl, h1, h2, h3, h4⟩
  · omega
  · refine iaN_r hi (ld_r (ldV_c (row_M h4) ?_) (k _))
    rw [Nat.zero_add, Nat.mul_one, List.getElem?_append_left (by rw [ick_len]; exact hi), ick_at hi]
theorem putk_r {B : Nat} {e : TypeId} {kd : IntKind} {v : Value} {l : List Int} {K : Value → Kont} {x : Int} (h : own M B e 1 v l.length (ick kd l)) {i : Nat} (hi : i < l.length)
    (k : ∀ p M', own M' B e 1 v (l.set i x).length (ick kd (l.set i x)) → (∀ q, v.ownBlock ≠ some q → M' q = M q) → (∀ n, clean M n → clean M' n) → K p undef ⟨F, M', N⟩) : pv (iaV none 1 v (.int .i64 (i : Nat))) (fun p => st 1 p (.int kd x) (K p)) ⟨F, M, N⟩ := by
  rcases h.2 with ⟨rfl, h0⟩ | ⟨b, c, rest, rfl, h1, h2, h3, h4⟩
  · omega
  · refine iaN_r hi ?_
    have hl : i < (ick kd l).length := by rw [ick_len]; exact hi
    refine st_r (cs' := ick kd (l.set i x) ++ rest) h4 rfl (List.all_eq_true.1 rfl) (by rw [List.length_append]; omega) ?_ (k _ _ ⟨by rw [ick_len, Nat.mul_one], .inr ⟨b, c, rest, by rw [List.length_set], by rw [List.length_set]; exact h1, h2, h3, upd_same _ _ _⟩⟩ (fun q hq => upd_ne _ _ (fun e => hq (by rw [e]; rfl))) (fun n hc => hc.set (hc.lt h4) _))
    rw [show (Value.int kd x).cells.toList = [Value.int kd x] from rfl, Nat.zero_add, Nat.mul_one, splice_one (by rw [List.length_append]; omega), List.set_append_left _ _ hl]
    congr 1
    unfold ick
    rw [List.map_set]
theorem less_u {a b : Int} (k : ∀ N', N ≤ N' → (Hp.mk F M N').wf → K (.bool (decide (a < b))) ⟨F, M, N'⟩) :
    callv Tryz.prog (.func (.func 127) #[] #[]) #[.int .u32 a, .int .u32 b] K E ⟨F, M, N⟩ := by
  refine callv_of_text mixed Tryz.func127 (by kernel_rfl) (t127 _ E _ _) (fun hw => ?_)
  refine callv_of_text mixed Tryz.func132 (by kernel_rfl) (t132 _ E _) (fun hw => ?_)
  refine neq_f rfl ?_
  refine fun hc => ⟨_, wk_refl hc, fun hw => ?_⟩
  try simp only [sS]
  refine lss_r (fun h => ?_) (fun h => ?_)
  · try simp only [sS]
    rw [decide_eq_true h] at k
    exact fun hc => ⟨_, wk_refl hc, fun hw => k _ (Nat.le_refl _) hw⟩
  · try simp only [sS]
    rw [decide_eq_false h] at k
    exact fun hc => ⟨_, wk_refl hc, fun hw => k _ (Nat.le_refl _) hw⟩
def insI (m : List Int) (i j : Nat) : Prop := (∀ p q, p < q → q ≤ i → p ≠ j → q ≠ j → m.getD p 0 ≤ m.getD q 0) ∧ ∀ q, j < q → q ≤ i → m.getD j 0 ≤ m.getD q 0
def upto (m : List Int) (i : Nat) : Prop := ∀ p q, p < q → q < i → m.getD p 0 ≤ m.getD q 0
theorem getD_set {m : List Int} {i j : Nat} {x : Int} (hi : i < m.length) : (m.set i x).getD j 0 = if j = i then x else m.getD j 0 := by
  rw [List.getD_eq_getElem?_getD, List.getElem?_set]
  by_cases h : i = j
  · subst h; rw [if_pos rfl, if_pos hi, if_pos rfl]; rfl
  · rw [if_neg h, if_neg (fun e => h e.symm), ← List.getD_eq_getElem?_getD]
theorem insI_start {m : List Int} {i : Nat} (h : upto m i) : insI m i i := ⟨fun p q h1 h2 _ h4 => h p q h1 (by omega), fun q h1 h2 => by omega⟩
theorem insI_step {m : List Int} {i j : Nat} (h : insI m i (j + 1)) (hl : i < m.length) (hj : j + 1 ≤ i) (hlt : m.getD (j + 1) 0 < m.getD j 0) : insI ((m.set (j + 1) (m.getD j 0)).set j (m.getD (j + 1) 0)) i j := by
  have e : ∀ q, ((m.set (j + 1) (m.getD j 0)).set j (m.getD (j + 1) 0)).getD q 0 = if q = j then m.getD (j + 1) 0 else if q = j + 1 then m.getD j 0 else m.getD q 0 := fun q => by
    rw [getD_set (by rw [List.length_set]; omega), getD_set (by omega)]
  refine ⟨fun p q h1 h2 h3 h4 => ?_, fun q h1 h2 => ?_⟩
  · rw [e, e, if_neg h3, if_neg h4]
    by_cases hp : p = j + 1
    · rw [if_pos hp, if_neg (by omega)]; exact h.1 j q (by omega) h2 (by omega) (by omega)
    · rw [if_neg hp]
      by_cases hq : q = j + 1
      · rw [if_pos hq]; exact h.1 p j (by omega) (by omega) (by omega) (by omega)
      · rw [if_neg hq]; exact h.1 p q h1 h2 hp hq
  · rw [e, e, if_pos rfl, if_neg (by omega)]
    by_cases hq : q = j + 1
    · rw [if_pos hq]; omega
    · rw [if_neg hq]; exact h.2 q (by omega) h2
theorem insI_end0 {m : List Int} {i : Nat} (h : insI m i 0) : upto m (i + 1) := fun p q h1 h2 => by
  by_cases hp : p = 0
  · subst hp; exact h.2 q h1 (by omega)
  · exact h.1 p q h1 (by omega) hp (by omega)
theorem insI_end {m : List Int} {i j : Nat} (h : insI m i (j + 1)) (hge : ¬ m.getD (j + 1) 0 < m.getD j 0) (hj : j + 1 ≤ i) : upto m (i + 1) := fun p q h1 h2 => by
  by_cases hp : p = j + 1
  · subst hp; exact h.2 q h1 (by omega)
  · by_cases hq : q = j + 1
    · subst hq
      by_cases hpj : p = j
      · subst hpj; omega
      · have := h.1 p j (by omega) (by omega) hp (by omega); omega
    · exact h.1 p q h1 (by omega) hp hq
theorem perm_swap {m : List Int} {j : Nat} (h : j + 1 < m.length) : ((m.set (j + 1) (m.getD j 0)).set j (m.getD (j + 1) 0)).Perm m := by
  have h1 : j < m.length := by omega
  have e1 : m.getD j 0 = m[j] := getD_at h1 0
  have e2 : m.getD (j + 1) 0 = m[j + 1] := getD_at h 0
  have hm : m = m.take j ++ m[j] :: m[j + 1] :: m.drop (j + 2) := by
    rw [← List.drop_eq_getElem_cons h, ← List.drop_eq_getElem_cons h1, List.take_append_drop]
  have hs : (m.set (j + 1) (m.getD j 0)).set j (m.getD (j + 1) 0) = m.take j ++ m[j + 1] :: m[j] :: m.drop (j + 2) := by
    rw [e1, e2]
    apply List.ext_getElem?
    intro q
    rw [List.getElem?_set, List.getElem?_set]
    rcases Nat.lt_trichotomy q j with hq | hq | hq
    · rw [if_neg (by omega), if_neg (by omega), List.getElem?_append_left (by rw [List.length_take]; omega), List.getElem?_take, if_pos hq]
    · subst hq
      rw [if_pos rfl, if_pos (by rw [List.length_set]; omega), List.getElem?_append_right (by rw [List.length_take]; omega)]
      simp [List.length_take, Nat.min_eq_left (Nat.le_of_lt h1)]
    · by_cases hq2 : q = j + 1
      · subst hq2
        rw [if_neg (by omega), if_pos rfl, if_pos h, List.getElem?_append_right (by rw [List.length_take]; omega)]
        simp [List.length_take, Nat.min_eq_left (Nat.le_of_lt h1)]
      · rw [if_neg (by omega), if_neg (by omega), List.getElem?_append_right (by rw [List.length_take]; omega)]
        rw [List.length_take, Nat.min_eq_left (by omega)]
        obtain ⟨d, hd⟩ : ∃ d, q - j = d + 2 := ⟨q - j - 2, by omega⟩
        rw [hd, List.getElem?_cons_succ, List.getElem?_cons_succ, List.getElem?_drop]
        congr 1; omega
  rw [hs]
  conv => rhs; rw [hm]
  exact List.Perm.append_left _ (List.Perm.swap _ _ _)
set_option maxRecDepth 10000 in
theorem insort_c {B : Nat} {v : Value} {l : List Int} (hv : own M B 30 1 v l.length (ick .u32 l)) (hl : l.length ≤ 1000000) (h0 : 0 < l.length)
    (k : ∀ l' M' N', l'.Perm l → upto l' l.length → own M' B 30 1 v l'.length (ick .u32 l') → (∀ q, v.ownBlock ≠ some q → M' q = M q) → N ≤ N' → clean M' N' → (Hp.mk F M' N').wf → K (.tuple #[]) ⟨F, M', N'⟩) :
    callv Tryz.prog (.func (.func 121) #[] #[]) #[v, .int .i64 0, .int .i64 (l.length : Nat)] K E ⟨F, M, N⟩ := by
  refine callv_of_text mixed Tryz.func121 (by kernel_rfl) (t121 _ E _ _ _) (fun hw => ?_)
  have hm : clean M N := hw.m
  refine inc_r (a := 0) (by omega) ?_
  refine l121_1_0_0 (σ := Nat) (fun i => .int .i64 (i : Nat)) (fun i h => ∃ M' N' l', h = ⟨F, M', N'⟩ ∧ N ≤ N' ∧ own M' B 30 1 v l'.length (ick .u32 l') ∧ l'.Perm l ∧ upto l' i ∧ (∀ q, v.ownBlock ≠ some q → M' q = M q) ∧ clean M' N' ∧ 1 ≤ i ∧ i ≤ l.length) (fun i => l.length - i) 1 rfl
    (fun hw1 => ⟨_, wk_refl hw1, M, N, l, rfl, Nat.le_refl _, hv, List.Perm.refl _, fun p q h1 h2 => by omega, fun _ _ => rfl, hm, Nat.le_refl _, h0⟩) (fun kk i j h1 hI hw1 next => ?_)
  rw [t121_1_0_0]
  obtain ⟨M1, N1, l1, rfl, hN1, ho1, hp1, hu1, hM1, hm1, hi1, hi2⟩ := hI
  have hlen1 := hp1.length_eq
  refine lss_r (fun hlt => ?_) (fun hge => ?_)
  · have i1 : i < l.length := by omega
    try simp only [sS]
    refine l121_1_0_0_1_0_0_1_0_0 (σ := Nat) (fun j => .int .i64 (j : Nat)) (fun j h => ∃ M' N' l', h = ⟨F, M', N'⟩ ∧ N ≤ N' ∧ own M' B 30 1 v l'.length (ick .u32 l') ∧ l'.Perm l ∧ insI l' i j ∧ (∀ q, v.ownBlock ≠ some q → M' q = M q) ∧ clean M' N' ∧ j ≤ i) (fun j => j) i rfl
      (fun hw2 => ⟨_, wk_refl hw2, M1, N1, l1, rfl, hN1, ho1, hp1, insI_start hu1, hM1, hm1, Nat.le_refl _⟩) (fun k2 j jj h2 hI2 hw2 next2 => ?_)
    rw [t121_1_0_0_1_0_0_1_0_0]
    obtain ⟨M2, N2, l2, rfl, hN2, ho2, hp2, hu2, hM2, hm2, hj⟩ := hI2
    have hlen2 := hp2.length_eq
    refine gtr_r (fun hj0 => ?_) (fun hj0 => ?_)
    · obtain ⟨j', rfl⟩ : ∃ j', j = j' + 1 := ⟨j - 1, by omega⟩
      have b1 : j' + 1 < l2.length := by omega
      have b2 : j' < l2.length := by omega
      try simp only [sS]
      refine getk_r ho2 b1 fun _ => ?_
      try simp only [sS]
      refine sub_n (a := j' + 1) (b := 1) (by omega) (by omega) ?_
      rw [Nat.add_sub_cancel]
      refine getk_r ho2 b2 fun _ => ?_
      try simp only [sS]
      refine less_u (fun N3 hN3 hw3 => ?_)
      have e1 : l2.getD j' 0 = l2[j'] := getD_at b2 0
      have e2 : l2.getD (j' + 1) 0 = l2[j' + 1] := getD_at b1 0
      by_cases hlt2 : l2[j' + 1] < l2[j']
      · rw [decide_eq_true hlt2]
        try simp only [sS]
        refine sub_n (a := j' + 1) (b := 1) (by omega) (by omega) ?_
        rw [Nat.add_sub_cancel]
        refine sub_n (a := j' + 1) (b := 1) (by omega) (by omega) ?_
        rw [Nat.add_sub_cancel]
        refine getk_r ho2 b2 fun _ => ?_
        refine getk_r ho2 b1 fun _ => ?_
        refine putk_r ho2 b1 fun _ M4 ho4 hM4 hm4 => ?_
        refine putk_r ho4 (by rw [List.length_set]; exact b2) fun _ M5 ho5 hM5 hm5 => ?_
        refine sub_n (a := j' + 1) (b := 1) (by omega) (by omega) ?_
        rw [Nat.add_sub_cancel]
        rw [← e1, ← e2] at ho5
        refine next2 j' _ _ (by omega) (fun hw6 => ⟨_, wk_refl hw6, M5, N3, _, rfl, by omega, ho5, (perm_swap b1).trans hp2, insI_step hu2 (by omega) hj (by omega), fun q hq => (hM5 q hq).trans ((hM4 q hq).trans (hM2 q hq)), hm5 _ (hm4 _ (hm2.up hN3)), by omega⟩)
      · rw [decide_eq_false hlt2]
        try simp only [sS]
        refine inc_r (by omega) ?_
        exact next (i + 1) _ _ (by omega) (fun hw6 => ⟨_, wk_refl hw6, M2, N3, l2, rfl, by omega, ho2, hp2, insI_end hu2 (by omega) hj, hM2, hm2.up hN3, by omega, i1⟩)
    · have hj0' : j = 0 := by omega
      subst hj0'
      try simp only [sS]
      refine inc_r (by omega) ?_
      exact next (i + 1) _ _ (by omega) (fun hw6 => ⟨_, wk_refl hw6, M2, N2, l2, rfl, hN2, ho2, hp2, insI_end0 hu2, hM2, hm2, by omega, i1⟩)
  · try simp only [sS]
    exact fun hc => ⟨_, wk_refl hc, fun hw' => k l1 M1 N1 hp1 (by rw [show l.length = i by omega]; exact hu1) ho1 hM1 hN1 hm1 hw'⟩
end Go.Proofs.YtgcmbkoejjcjlaaGreatDoor.A
open Go Go.RowKit Go.Proofs.YtgcmbkoejjcjlaaGreatDoor.K Go.Proofs.YtgcmbkoejjcjlaaGreatDoor.T
set_option linter.unusedVariables false
set_option linter.unusedSimpArgs false
namespace Go.Proofs.YtgcmbkoejjcjlaaGreatDoor.A
variable {F F' : Nat → Option (List Value)} {M M' : Nat → Option Chunk} {N N' : Nat} {K : Kont} {E : PanK}
set_option maxRecDepth 20000 in
theorem bitsLen_c {n : Nat} (hn : n ≤ 12) (k : ∀ r N', N ≤ N' → (Hp.mk F M N').wf → K r ⟨F, M, N'⟩) :
    callv Tryz.prog (.func (.func 99) #[] #[]) #[.int .u64 (n : Nat)] K E ⟨F, M, N⟩ := by
  refine callv_of_text mixed Tryz.func99 (by kernel_rfl) (t99 _ E _) (fun hw => ?_)
  refine cnd_f ?_
  refine callv_of_text mixed Tryz.func131 (by kernel_rfl) (t131 _ E _) (fun hw => ?_)
  refine geq_f (by omega) ?_
  try simp only [sS]
  rw [t131_1_1]
  refine geq_f (by omega) ?_
  try simp only [sS]
  rw [t131_1_1_1]
  refine geq_f (by omega) ?_
  try simp only [sS]
  rw [t131_1_1_1_1]
  have : n = 0 ∨ n = 1 ∨ n = 2 ∨ n = 3 ∨ n = 4 ∨ n = 5 ∨ n = 6 ∨ n = 7 ∨ n = 8 ∨ n = 9 ∨ n = 10 ∨ n = 11 ∨ n = 12 := by omega
  rcases this with rfl | rfl | rfl | rfl | rfl | rfl | rfl | rfl | rfl | rfl | rfl | rfl | rfl <;>
    exact pv_r rfl (pv_r rfl (pv_r rfl (pv_r rfl (fun hc => ⟨_, wk_refl hc, fun hw' hc' => ⟨_, wk_refl hc', fun hw'' => k _ _ (Nat.le_refl _) hw''⟩⟩))))
theorem insort0_c {v : Value} (k : (Hp.mk F M N).wf → K (.tuple #[]) ⟨F, M, N⟩) :
    callv Tryz.prog (.func (.func 121) #[] #[]) #[v, .int .i64 0, .int .i64 0] K E ⟨F, M, N⟩ := by
  refine callv_of_text mixed Tryz.func121 (by kernel_rfl) (t121 _ E _ _ _) (fun hw => ?_)
  refine inc_r (a := 0) (by omega) ?_
  refine l121_1_0_0 (σ := Nat) (fun i => .int .i64 (i : Nat)) (fun i h => h = ⟨F, M, N⟩ ∧ 1 ≤ i) (fun i => 0) 1 rfl
    (fun hw1 => ⟨_, wk_refl hw1, rfl, Nat.le_refl _⟩) (fun kk i j h1 hI hw1 next => ?_)
  rw [t121_1_0_0]
  obtain ⟨rfl, hi⟩ := hI
  refine lss_f (by omega) ?_
  try simp only [sS]
  exact fun hc => ⟨_, wk_refl hc, k⟩
theorem sortU_c {B : Nat} {v : Value} {l : List Int} (hv : own M B 30 1 v l.length (ick .u32 l)) (hl : l.length ≤ 12)
    (k : ∀ l' M' N', l'.Perm l → upto l' l.length → own M' B 30 1 v l'.length (ick .u32 l') → (∀ q, v.ownBlock ≠ some q → M' q = M q) → N ≤ N' → clean M' N' → (Hp.mk F M' N').wf → K (.tuple #[]) ⟨F, M', N'⟩) :
    callv Tryz.prog (.func (.func 70) #[] #[]) #[v] K E ⟨F, M, N⟩ := by
  refine callv_of_text mixed Tryz.func70 (by kernel_rfl) (t70 _ E _) (fun hw => ?_)
  have hm : clean M N := hw.m
  have hlv : lenV v = some (.int .i64 (l.length : Nat)) := by obtain ⟨a, c, e, _⟩ := hv.form; rw [e]; rfl
  refine pv_r hlv ?_
  refine pv_r (v := .int .u64 (l.length : Nat)) (by simp only [cvV]; rw [u64w (by omega) (by omega)]) ?_
  refine bitsLen_c hl (fun r N1 hN1 hw1 => ?_)
  refine callv_of_text mixed Tryz.func98 (by kernel_rfl) (t98 _ E _ _ _ _) (fun hw => ?_)
  refine l98_1_1_0_0 (σ := Unit) (fun _ => .int .i64 0) (fun _ => .int .i64 (l.length : Nat)) (fun _ => r) (fun _ => .bool true) (fun _ => .bool true) (fun _ h => h = ⟨F, M, N1⟩) (fun _ => 0) () rfl rfl rfl rfl rfl
    (fun hw2 => ⟨_, wk_refl hw2, rfl⟩) (fun kk s j h1 hI hw2 next => ?_)
  rw [t98_1_1_0_0]
  subst hI
  refine sub_n (a := l.length) (b := 0) (by omega) (by omega) ?_
  refine leq_t (by omega) ?_
  try simp only [sS]
  by_cases h0 : 0 < l.length
  · refine insort_c hv (by omega) h0 (fun l' M2 N2 q1 q2 q3 q4 q5 q6 q7 => ?_)
    exact fun hc => ⟨_, wk_refl hc, fun hw' hc' => ⟨_, wk_refl hc', fun hw'' => k l' M2 N2 q1 q2 q3 q4 (by omega) q6 hw''⟩⟩
  · have e0 : l = [] := List.eq_nil_of_length_eq_zero (by omega)
    subst e0
    refine insort0_c (fun hw3 => ?_)
    exact fun hc => ⟨_, wk_refl hc, fun hw' hc' => ⟨_, wk_refl hc', fun hw'' => k [] M N1 (List.Perm.refl _) (fun p q h1 h2 => by simp at h2) hv (fun _ _ => rfl) hN1 (hm.up hN1) hw''⟩⟩
def rises (l : List Int) : Prop := l.Pairwise (· < ·)
theorem upto_rises {l : List Int} (h : upto l l.length) (hn : l.Nodup) : rises l := by
  unfold rises
  rw [List.pairwise_iff_getElem]
  intro i j hi hj hij
  have h1 := h i j hij hj
  rw [getD_at hi, getD_at hj] at h1
  have h2 : l[i] ≠ l[j] := List.pairwise_iff_getElem.1 hn i j hi hj hij
  omega
theorem rises_ext : ∀ {a b : List Int}, rises a → rises b → (∀ x, x ∈ a ↔ x ∈ b) → a = b := by
  intro a b ha hb h
  have na : a.Nodup := ha.imp (fun {x y} h => by omega)
  have nb : b.Nodup := hb.imp (fun {x y} h => by omega)
  have hp : a.Perm b := (List.perm_ext_iff_of_nodup na nb).2 h
  exact hp.eq_of_pairwise (fun x y _ _ h1 h2 => by omega) ha hb
theorem nodup_le {α : Type} : ∀ {a b : List α}, a.Nodup → (∀ x ∈ a, x ∈ b) → a.length ≤ b.length
  | [], b, _, _ => Nat.zero_le _
  | x :: a, b, hn, hs => by
    obtain ⟨s, t, rfl⟩ := List.append_of_mem (hs x List.mem_cons_self)
    obtain ⟨h1, h2⟩ := List.pairwise_cons.1 hn
    have := nodup_le (b := s ++ t) h2 (fun y hy => by
      have h3 := hs y (List.mem_cons_of_mem _ hy)
      have h4 : y ≠ x := fun e => h1 y hy e.symm
      simp only [List.mem_append, List.mem_cons] at h3 ⊢
      rcases h3 with h3 | h3 | h3
      · exact .inl h3
      · exact absurd h3 h4
      · exact .inr h3)
    simp only [List.length_append, List.length_cons] at this ⊢
    omega
theorem sortedK_c {bm mb : Nat} {es : Array MapEntry} {clock : Nat} (hE : E [] badH) (hbm : F bm = some [.map (some mb)]) (hmb : M mb = some (.obj (.map es clock))) (hK : mapK es clock) (h12 : es.size ≤ 12)
    (k : ∀ v' (l : List Int) M' N', rises l → (∀ x : Int, x ∈ l ↔ ∃ e ∈ es.toList, e.key = .int .u32 x) → own M' N 30 1 v' l.length (ick .u32 l) → (∀ q, q < N → M' q = M q) → N ≤ N' → clean M' N' → (Hp.mk F M' N').wf → K v' ⟨F, M', N'⟩) :
    callv Tryz.prog (.func (.func 38) #[] #[]) #[.func (.func 71) #[] #[.pointer (some ⟨bm, 0, none⟩)]] K E ⟨F, M, N⟩ := by
  refine callv_of_text mixed Tryz.func38 (by kernel_rfl) (t38 _ E _) (fun hw => ?_)
  refine collectK_c hE hbm hmb hK (fun v ss M1 N1 hn hall ho hM1 hN1 hm1 => ?_)
  have hlen : ss.length ≤ 12 := by
    have hsub : ∀ x ∈ ss, (Value.int .u32 x) ∈ es.toList.map (·.key) := fun x hx => by
      obtain ⟨e, he, h1⟩ := (hall x).1 hx
      exact List.mem_map.2 ⟨e, he, h1⟩
    have h1 : (ss.map (Value.int .u32)).Nodup := by
      refine List.pairwise_map.2 (hn.imp (fun {a b} h e => h (by simpa using e)))
    have h2 := nodup_le h1 (fun v hv => by
      obtain ⟨x, hx, rfl⟩ := List.mem_map.1 hv
      exact hsub x hx)
    simp only [List.length_map, Array.length_toList] at h2
    omega
  refine sortU_c (l := ss) ho hlen (fun l M2 N2 hp hu ho2 hM2 hN2 hm2 hw2 => ?_)
  refine fun hc => ⟨_, wk_refl hc, fun hw' => k v l M2 N2 (upto_rises (by rw [hp.length_eq]; exact hu) (hp.nodup_iff.2 hn)) (fun x => (hp.mem_iff).trans (hall x)) ho2 (fun q hq => (hM2 q (fun e => by have := (ho.ge q e).1; omega)).trans (hM1 q hq)) (by omega) hm2 hw'⟩
end Go.Proofs.YtgcmbkoejjcjlaaGreatDoor.A
open Go Go.RowKit Go.Proofs.YtgcmbkoejjcjlaaGreatDoor.K
set_option linter.unusedVariables false
set_option maxRecDepth 100000
namespace Go.Proofs.YtgcmbkoejjcjlaaGreatDoor.T
section
variable (K : Kont) (E : PanK) (k1 k2 k3 k4 k5 : Env → Hp → Prop) (x0 x1 x2 x3 x4 x5 x6 x7 x8 x9 x10 x11 x12 x13 x14 x15 x16 x17 x18 x19 x20 x21 x22 x23 x24 x25 x26 x27 x28 x29 x30 x31 x32 x33 x34 x35 x36 x37 x38 x39 x40 x41 x42 x43 x44 x45 x46 x47 x48 x49 x50 x51 x52 x53 x54 x55 x56 x57 x58 v0 v1 v2 v3 v4 v5 v6 v7 v8 v9 v10 v11 v12 v13 v14 v15 v16 v17 v18 v19 v20 v21 v22 v23 v24 v25 v26 v27 v28 v29 v30 v31 v32 v33 v34 v35 v36 v37 v38 v39 v40 v41 v42 v43 v44 v45 v46 v47 v48 v49 v50 v51 v52 v53 v54 v55 v56 v57 v58 : Value) (j : Nat → Value)
abbrev q13 : QD := bodyQ Tryz.prog Tryz.f13.results.toList K E
abbrev d13 (p : List Nat) : QD → Env → Hp → Prop := den Tryz.prog (sel (bodyOf Tryz.f13) p)
theorem t13 : d13 [] (q13 K E) #[x0, U, U, U, U, U, U, U, U, U, U, U] =
  callv Tryz.prog (.func (.func 30) #[] #[]) #[x0] (fun t1 =>
  pv (binV .ptr .eql t1 (.pointer none)) fun t2 =>
  cnd t2 (
   K (.pointer none)) (
   mkm fun t3 =>
   pv (bdC #[(.pointer none), (.map none), (.int .u32 0)] [(0, 1), (1, 1), (2, 1)] #[(0, t1), (1, t3)]) fun t4 =>
   nw 72 (Value.cells t4).toList fun t5 =>
   K t5)) E := by kernel_rfl
abbrev q14 : QD := bodyQ Tryz.prog Tryz.f14.results.toList K E
abbrev d14 (p : List Nat) : QD → Env → Hp → Prop := den Tryz.prog (sel (bodyOf Tryz.f14) p)
theorem t14 : d14 [] (q14 K E) #[x0, x1, U, U, U, U, U, U, U, U, U, U, U, U, U, U, U, U, U, U, U, U, U, U, U, U, U] =
  nw 44 (Value.cells x1).toList fun t1 =>
  pv (faV 0 t1) fun t2 =>
  ld false 1 t2 fun t3 =>
  pv (binV .none .eql t3 (.int .u8 1)) fun t4 =>
  cnd t4 (
   ld true 10 t1 fun t5 =>
   callv Tryz.prog (.func (.func 31) #[] #[]) #[x0, t5] (fun t6 =>
   K t6) E) (
   pv (binV .none .eql t3 (.int .u8 2)) fun t7 =>
   cnd t7 (
    ld true 10 t1 fun t8 =>
    callv Tryz.prog (.func (.func 32) #[] #[]) #[x0, t8] (fun t9 =>
    K t9) E) (
    pv (binV .none .eql t3 (.int .u8 3)) fun t10 =>
    cnd t10 (
     ld true 10 t1 fun t11 =>
     callv Tryz.prog (.func (.func 33) #[] #[]) #[x0, t11] (fun t12 =>
     K t12) E) (
     pv (binV .none .eql t3 (.int .u8 7)) fun t13 =>
     cnd t13 (
      ld true 10 t1 fun t14 =>
      callv Tryz.prog (.func (.func 34) #[] #[]) #[x0, t14] (fun t15 =>
      K t15) E) (
      K (.int .u16 1))))) := by kernel_rfl
abbrev q16 : QD := bodyQ Tryz.prog Tryz.f16.results.toList K E
abbrev d16 (p : List Nat) : QD → Env → Hp → Prop := den Tryz.prog (sel (bodyOf Tryz.f16) p)
theorem t16 : d16 [] (q16 K E) #[x0, x1, U, U, U, U, U, U, U, U, U, U] =
  nw 32 [(.int .u8 0), (.int .u32 0)] fun t1 =>
  pv (nilV x0) fun t2 =>
  pv (faV 1 t2) fun t3 =>
  ld false 1 t3 fun t4 =>
  lkp Tryz.prog 70 t4 x1 false fun t5 =>
  pv (fdV true 0 2 t5) fun t6 =>
  st 2 t1 t6 fun _ =>
  ld true 2 t1 fun t7 =>
  K t7 := by kernel_rfl
abbrev q18 : QD := bodyQ Tryz.prog Tryz.f18.results.toList K E
abbrev d18 (p : List Nat) : QD → Env → Hp → Prop := den Tryz.prog (sel (bodyOf Tryz.f18) p)
theorem t18 : d18 [] (q18 K E) #[x0, U, U, U, U, U, U, U, U, U, U] =
  nw 28 (Value.cells x0).toList fun t1 =>
  ld false 1 t1 fun t2 =>
  pv (nilV t2) fun t3 =>
  pv (faV 1 t3) fun t4 =>
  ld false 1 t4 fun t5 =>
  callv Tryz.prog (.func (.func 39) #[] #[]) #[t5] (fun t6 =>
  callv Tryz.prog (.func (.func 38) #[] #[]) #[t6] (fun t7 =>
  callv Tryz.prog (.func (.func 37) #[] #[]) #[t7, (.func (.func 40) #[] #[t1])] (fun t8 =>
  K t8) E) E) E := by kernel_rfl
abbrev q19 : QD := bodyQ Tryz.prog Tryz.f19.results.toList K E
abbrev d19 (p : List Nat) : QD → Env → Hp → Prop := den Tryz.prog (sel (bodyOf Tryz.f19) p)
theorem t19 : d19 [] (q19 K E) #[x0, x1, x2, U, U, U, U, U, U, U, U, U, U, U, U, U, U, U, U, U, U] =
  nw 55 (Value.cells x1).toList fun t1 =>
  callv Tryz.prog (.func (.func 18) #[] #[]) #[x0] (fun t2 =>
  pv (lenV t2) fun t3 =>
  pv (binV .none .gtr t3 (.int .i64 0)) fun t4 =>
  cnd t4 (
   K (.tuple #[(.slice none 0 0), (.int .u16 141)])) (
   pv (nilV x0) fun t5 =>
   pv (faV 0 t5) fun t6 =>
   ld false 1 t6 fun t7 =>
   ld true 3 t1 fun t8 =>
   callv Tryz.prog (.func (.func 42) #[] #[]) #[t7, t8, x2] (fun t9 =>
   pv (exV 0 t9) fun t10 =>
   pv (exV 1 t9) fun t11 =>
   K (.tuple #[t10, t11])) E)) E := by kernel_rfl
abbrev q23 : QD := bodyQ Tryz.prog Tryz.f23.results.toList K E
abbrev d23 (p : List Nat) : QD → Env → Hp → Prop := den Tryz.prog (sel (bodyOf Tryz.f23) p)
theorem t23 : d23 [] (q23 K E) #[x0, U, U, U, U, U, U] =
  pv (nilV x0) fun t1 =>
  pv (faV 2 t1) fun t2 =>
  ld false 1 t2 fun t3 =>
  K t3 := by kernel_rfl
abbrev q31 : QD := bodyQ Tryz.prog Tryz.f31.results.toList K E
abbrev d31 (p : List Nat) : QD → Env → Hp → Prop := den Tryz.prog (sel (bodyOf Tryz.f31) p)
def m31_1_1_1_0_1_0_0 (j : Nat → Value) : Env := #[x0, x1, x2, x3, x4, x5, x6, (j 7), x8, x9, x10, x11, x12, x13, x14, x15, x16, x17, x18, x19, x20, x21, x22, x23, x24, x25, x26, x27, x28, x29, x30, x31, x32, x33, x34, x35, v36, (j 37), (j 38), (j 39), (j 40), (j 41), (j 42), (j 43), (j 44), (j 45), (j 46), (j 47), (j 48), (j 49), (j 50), (j 51), x52, x53, x54, x55, x56, x57, x58]
theorem t31 : d31 [] (q31 K E) #[x0, x1, U, U, U, U, U, U, U, U, U, U, U, U, U, U, U, U, U, U, U, U, U, U, U, U, U, U, U, U, U, U, U, U, U, U, U, U, U, U, U, U, U, U, U, U, U, U, U, U, U, U, U, U, U, U, U, U, U] =
  nw 44 (Value.cells x1).toList fun t1 =>
  pv (nilV x0) fun t2 =>
  pv (faV 1 t2) fun t3 =>
  ld false 1 t3 fun t4 =>
  pv (faV 1 t1) fun t5 =>
  ld false 1 t5 fun t6 =>
  lkp Tryz.prog 70 t4 t6 false fun t7 =>
  pv (fdV true 0 2 t7) fun t8 =>
  pv (fdV false 0 1 t8) fun t9 =>
  pv (binV .none .neq t9 (.int .u8 0)) fun t10 =>
  cnd t10 (
   K (.int .u16 140)) (
   pv (nilV x0) fun t11 =>
   pv (faV 0 t11) fun t12 =>
   ld false 1 t12 fun t13 =>
   pv (faV 4 t1) fun t14 =>
   ld false 1 t14 fun t15 =>
   callv Tryz.prog (.func (.func 27) #[] #[]) #[t13, t15] (fun t16 =>
   pv (unV .not t16) fun t17 =>
   cnd t17 (
    K (.int .u16 1)) (
    pv (bdC #[(.int .u8 0), (.int .u32 0)] [(0, 1), (1, 1)] #[(0, (.int .u8 1))]) fun t18 =>
    pv (faV 3 t1) fun t19 =>
    ld false 1 t19 fun t20 =>
    callv Tryz.prog (.func (.func 65) #[] #[]) #[t20] (fun t21 =>
    pv (bdC #[(.int .u8 0), (.int .u32 0), (.slice none 0 0), (.slice none 0 0)] [(0, 2), (2, 1), (3, 1)] #[(0, t18), (1, t21)]) fun t22 =>
    nw 95 [(.int .u8 0), (.int .u32 0), (.slice none 0 0), (.slice none 0 0)] fun t23 =>
    st 4 t23 t22 fun _ =>
    pv (faV 4 t1) fun t24 =>
    ld false 1 t24 fun t25 =>
    pv (lenV t25) fun t26 =>
    lp (fun k1 => d31 [1, 1, 1, 0, 1, 0, 0] (thenD k1 (blk 1 (thenD (d31 [1, 1, 1, 1] (q31 K E)) (q31 K E))))) (m31_1_1_1_0_1_0_0 x0 x1 U t1 (.int .u16 0) t23 U t10 x0 t2 t3 t4 t5 t6 t7 t8 t9 t10 t17 x0 t11 t12 t13 t14 t15 t16 t17 t18 t19 t20 t21 t22 t24 t25 t26 U U U U U U U (.int .i64 0) (jf #[]))) E)) E) := by kernel_rfl
theorem t31_1_1_1_0_1_0_0 : d31 [1, 1, 1, 0, 1, 0, 0] (thenD k1 (blk 1 (thenD (d31 [1, 1, 1, 1] (q31 K E)) (q31 K E)))) (m31_1_1_1_0_1_0_0 x0 x1 x2 x3 x4 x5 x6 x8 x9 x10 x11 x12 x13 x14 x15 x16 x17 x18 x19 x20 x21 x22 x23 x24 x25 x26 x27 x28 x29 x30 x31 x32 x33 x34 x35 x52 x53 x54 x55 x56 x57 x58 v36 j) =
  pv (binV .none .lss v36 x35) fun t1 =>
  cnd t1 (
   pv (iaV none 2 x34 v36) fun t2 =>
   ld true 2 t2 fun t3 =>
   nw 90 [(.slice none 0 0), (.int .i64 0)] fun t4 =>
   st 2 t4 t3 fun _ =>
   pv (faV 3 x5) fun t5 =>
   ld false 1 t5 fun t6 =>
   pv (faV 0 t4) fun t7 =>
   ld false 1 t7 fun t8 =>
   pv (faV 1 t4) fun t9 =>
   ld false 1 t9 fun t10 =>
   callv Tryz.prog (.func (.func 65) #[] #[]) #[t8] (fun t11 h12 => (ldV h12 false 1 t9 t10) ∧ (ldV h12 false 1 t5 t6) ∧ (
    pv (bdC #[(.slice none 0 0), (.int .i64 0)] [(0, 1), (1, 1)] #[(0, t11), (1, t10)]) fun t13 =>
    nws 90 1 (bsC #[(.slice none 0 0), (.int .i64 0)] 2 1 #[(0, t13)]) (fun t14 h15 => (ldV h15 false 1 t5 t6) ∧ (
     appX 90 2 32 t6 t14 fun t16 =>
     pv (faV 3 x5) fun t17 =>
     st 1 t17 t16 fun _ =>
     pv (binV .none .add v36 (.int .i64 1)) fun t18 =>
     k1 (m31_1_1_1_0_1_0_0 x0 x1 x2 x3 x4 x5 x6 x8 x9 x10 x11 x12 x13 x14 x15 x16 x17 x18 x19 x20 x21 x22 x23 x24 x25 x26 x27 x28 x29 x30 x31 x32 x33 x34 x35 x52 x53 x54 x55 x56 x57 x58 t18 (jf #[U, U, U, U, U, U, U, t4, U, U, U, U, U, U, U, U, U, U, U, U, U, U, U, U, U, U, U, U, U, U, U, U, U, U, U, U, U, t1, t2, t3, t5, t6, t7, t8, t11, t9, t10, t13, t14, t16, t17, t18]))) h15)) h12) E) (
   pv (nilV x0) fun t19 =>
   pv (faV 1 t19) fun t20 =>
   ld false 1 t20 fun t21 =>
   pv (faV 1 x3) fun t22 =>
   ld false 1 t22 fun t23 =>
   ld true 4 x5 fun t24 =>
   mup Tryz.prog 70 t21 t23 t24 fun _ =>
   K (.int .u16 0)) := by kernel_rfl
abbrev q32 : QD := bodyQ Tryz.prog Tryz.f32.results.toList K E
abbrev d32 (p : List Nat) : QD → Env → Hp → Prop := den Tryz.prog (sel (bodyOf Tryz.f32) p)
theorem t32 : d32 [] (q32 K E) #[x0, x1, U, U, U, U, U, U, U, U, U, U, U, U, U, U, U, U, U, U, U, U, U, U, U, U, U, U, U, U, U, U, U, U, U, U, U, U, U] =
  nw 44 (Value.cells x1).toList fun t1 =>
  pv (faV 1 t1) fun t2 =>
  ld false 1 t2 fun t3 =>
  callv Tryz.prog (.func (.func 41) #[] #[]) #[x0, t3] (fun t4 =>
  pv (unV .not t4) fun t5 =>
  cnd t5 (
   K (.int .u16 140)) (
   pv (nilV x0) fun t6 =>
   pv (faV 0 t6) fun t7 =>
   ld false 1 t7 fun t8 =>
   pv (faV 2 t1) fun t9 =>
   ld false 1 t9 fun t10 =>
   pv (nilV x0) fun t11 =>
   pv (faV 1 t11) fun t12 =>
   ld false 1 t12 fun t13 =>
   pv (faV 1 t1) fun t14 =>
   ld false 1 t14 fun t15 =>
   lkp Tryz.prog 70 t13 t15 false (fun t16 h17 => (ldV h17 false 1 t9 t10) ∧ (ldV h17 false 1 t7 t8) ∧ (
    pv (fdV false 3 1 t16) fun t18 =>
    callv Tryz.prog (.func (.func 66) #[] #[]) #[t8, t10, t18] (fun t19 =>
    pv (binV .none .neq t19 (.int .u16 0)) fun t20 =>
    cnd t20 (
     K t19) (
     pv (nilV x0) fun t21 =>
     pv (faV 1 t21) fun t22 =>
     ld false 1 t22 fun t23 =>
     pv (faV 1 t1) fun t24 =>
     ld false 1 t24 fun t25 =>
     pv (faV 2 t1) fun t26 =>
     ld false 1 t26 fun t27 =>
     pv (bdC #[(.int .u8 0), (.int .u32 0)] [(0, 1), (1, 1)] #[(0, (.int .u8 2)), (1, t27)]) fun t28 =>
     pv (bdC #[(.int .u8 0), (.int .u32 0), (.slice none 0 0), (.slice none 0 0)] [(0, 2), (2, 1), (3, 1)] #[(0, t28)]) fun t29 =>
     mup Tryz.prog 70 t23 t25 t29 fun _ =>
     K (.int .u16 0))) E) h17))) E := by kernel_rfl
abbrev q33 : QD := bodyQ Tryz.prog Tryz.f33.results.toList K E
abbrev d33 (p : List Nat) : QD → Env → Hp → Prop := den Tryz.prog (sel (bodyOf Tryz.f33) p)
theorem t33 : d33 [] (q33 K E) #[x0, x1, U, U, U, U, U, U, U, U, U, U, U, U, U, U, U, U, U, U, U, U, U] =
  nw 44 (Value.cells x1).toList fun t1 =>
  pv (nilV x0) fun t2 =>
  pv (faV 1 t2) fun t3 =>
  ld false 1 t3 fun t4 =>
  pv (faV 1 t1) fun t5 =>
  ld false 1 t5 fun t6 =>
  lkp Tryz.prog 70 t4 t6 false fun t7 =>
  pv (fdV true 0 2 t7) fun t8 =>
  pv (fdV false 0 1 t8) fun t9 =>
  pv (binV .none .gtr t9 (.int .u8 1)) fun t10 =>
  cnd t10 (
   K (.int .u16 140)) (
   pv (nilV x0) fun t11 =>
   pv (faV 1 t11) fun t12 =>
   ld false 1 t12 fun t13 =>
   pv (faV 1 t1) fun t14 =>
   ld false 1 t14 fun t15 =>
   pv (bdC #[(.int .u8 0), (.int .u32 0)] [(0, 1), (1, 1)] #[(0, (.int .u8 3))]) fun t16 =>
   pv (bdC #[(.int .u8 0), (.int .u32 0), (.slice none 0 0), (.slice none 0 0)] [(0, 2), (2, 1), (3, 1)] #[(0, t16)]) fun t17 =>
   mup Tryz.prog 70 t13 t15 t17 fun _ =>
   K (.int .u16 0)) := by kernel_rfl
abbrev q34 : QD := bodyQ Tryz.prog Tryz.f34.results.toList K E
abbrev d34 (p : List Nat) : QD → Env → Hp → Prop := den Tryz.prog (sel (bodyOf Tryz.f34) p)
theorem t34 : d34 [] (q34 K E) #[x0, x1, U, U, U, U, U, U, U, U, U, U, U, U, U, U, U, U, U, U, U, U, U, U, U, U, U, U, U, U, U, U] =
  nw 44 (Value.cells x1).toList fun t1 =>
  pv (faV 1 t1) fun t2 =>
  ld false 1 t2 fun t3 =>
  pv (nilV x0) fun t4 =>
  pv (faV 2 t4) fun t5 =>
  ld false 1 t5 fun t6 =>
  pv (binV .none .leq t3 t6) fun t7 =>
  cnd t7 (
   K (.int .u16 140)) (
   pv (nilV x0) fun t8 =>
   pv (faV 0 t8) fun t9 =>
   ld false 1 t9 fun t10 =>
   pv (faV 7 t1) fun t11 =>
   ld false 1 t11 fun t12 =>
   pv (faV 8 t1) fun t13 =>
   ld false 1 t13 fun t14 =>
   pv (faV 9 t1) fun t15 =>
   ld false 1 t15 fun t16 =>
   callv Tryz.prog (.func (.func 67) #[] #[]) #[t10, t12, t14, t16] (fun t17 =>
   pv (binV .none .eql t17 (.int .u16 0)) fun t18 =>
   cnd t18 (
    pv (faV 1 t1) fun t19 =>
    ld false 1 t19 fun t20 =>
    pv (nilV x0) fun t21 =>
    pv (faV 2 t21) fun t22 =>
    st 1 t22 t20 fun _ =>
    d34 [1, 1, 1, 1] (q34 K E) #[x0, x1, U, t1, (.int .u16 0), t17, t2, t3, x0, t4, t5, t6, t7, x0, t8, t9, t10, t11, t12, t13, t14, t15, t16, t17, t17, t18, x0, t19, t20, t21, t22, U]) (
    d34 [1, 1, 1, 1] (q34 K E) #[x0, x1, U, t1, (.int .u16 0), t17, t2, t3, x0, t4, t5, t6, t7, x0, t8, t9, t10, t11, t12, t13, t14, t15, t16, t17, t17, t18, U, U, U, U, U, U])) E) := by kernel_rfl
theorem t34_1_1_1_1 : d34 [1, 1, 1, 1] (q34 K E) #[x0, x1, x2, x3, x4, x5, x6, x7, x8, x9, x10, x11, x12, x13, x14, x15, x16, x17, x18, x19, x20, x21, x22, x23, x24, x25, x26, x27, x28, x29, x30, x31] =
  K x5 := by kernel_rfl
abbrev q61 : QD := bodyQ Tryz.prog Tryz.f61.results.toList K E
abbrev d61 (p : List Nat) : QD → Env → Hp → Prop := den Tryz.prog (sel (bodyOf Tryz.f61) p)
end
section
variable {K : Kont} {E : PanK} {k1 k2 k3 k4 k5 : Env → Hp → Prop} {σ : Type} {x0 x1 x2 x3 x4 x5 x6 x7 x8 x9 x10 x11 x12 x13 x14 x15 x16 x17 x18 x19 x20 x21 x22 x23 x24 x25 x26 x27 x28 x29 x30 x31 x32 x33 x34 x35 x36 x37 x38 x39 x40 x41 x42 x43 x44 x45 x46 x47 x48 x49 x50 x51 x52 x53 x54 x55 x56 x57 x58 v0 v1 v2 v3 v4 v5 v6 v7 v8 v9 v10 v11 v12 v13 v14 v15 v16 v17 v18 v19 v20 v21 v22 v23 v24 v25 v26 v27 v28 v29 v30 v31 v32 v33 v34 v35 v36 v37 v38 v39 v40 v41 v42 v43 v44 v45 v46 v47 v48 v49 v50 v51 v52 v53 v54 v55 v56 v57 v58 : Value} {h : Hp} {j : Nat → Value}
theorem l31_1_1_1_0_1_0_0 (f36 : σ → Value) (I : σ → Hp → Prop) (μ : σ → Nat) (s0 : σ) (e36 : v36 = f36 s0) (h0 : h.wf → ∃ h', h.wk h' ∧ I s0 h')
 (round : ∀ (k1 : Env → Hp → Prop) (s : σ) (j : Nat → Value) (h : Hp), I s h → h.wf → (∀ s' j' h', μ s' < μ s → (h'.wf → ∃ h'', h'.wk h'' ∧ I s' h'') → k1 (m31_1_1_1_0_1_0_0 x0 x1 x2 x3 x4 x5 x6 x8 x9 x10 x11 x12 x13 x14 x15 x16 x17 x18 x19 x20 x21 x22 x23 x24 x25 x26 x27 x28 x29 x30 x31 x32 x33 x34 x35 x52 x53 x54 x55 x56 x57 x58 (f36 s') j') h') → d31 [1, 1, 1, 0, 1, 0, 0] (thenD k1 (blk 1 (thenD (d31 [1, 1, 1, 1] (q31 K E)) (q31 K E)))) (m31_1_1_1_0_1_0_0 x0 x1 x2 x3 x4 x5 x6 x8 x9 x10 x11 x12 x13 x14 x15 x16 x17 x18 x19 x20 x21 x22 x23 x24 x25 x26 x27 x28 x29 x30 x31 x32 x33 x34 x35 x52 x53 x54 x55 x56 x57 x58 (f36 s) j) h) :
 lp (fun k1 => d31 [1, 1, 1, 0, 1, 0, 0] (thenD k1 (blk 1 (thenD (d31 [1, 1, 1, 1] (q31 K E)) (q31 K E))))) (m31_1_1_1_0_1_0_0 x0 x1 x2 x3 x4 x5 x6 x8 x9 x10 x11 x12 x13 x14 x15 x16 x17 x18 x19 x20 x21 x22 x23 x24 x25 x26 x27 x28 x29 x30 x31 x32 x33 x34 x35 x52 x53 x54 x55 x56 x57 x58 v36 j) h := by
 subst e36
 exact loop_r (fun s j => m31_1_1_1_0_1_0_0 x0 x1 x2 x3 x4 x5 x6 x8 x9 x10 x11 x12 x13 x14 x15 x16 x17 x18 x19 x20 x21 x22 x23 x24 x25 x26 x27 x28 x29 x30 x31 x32 x33 x34 x35 x52 x53 x54 x55 x56 x57 x58 (f36 s) j) I μ round s0 j h0
end
end Go.Proofs.YtgcmbkoejjcjlaaGreatDoor.T
open Go Go.RowKit Go.Proofs.YtgcmbkoejjcjlaaGreatDoor.K Go.Proofs.YtgcmbkoejjcjlaaGreatDoor.T
set_option linter.unusedVariables false
set_option linter.unusedSimpArgs false
namespace Go.Proofs.YtgcmbkoejjcjlaaGreatDoor.A
variable {F F' : Nat → Option (List Value)} {M M' : Nat → Option Chunk} {N N' : Nat} {K : Kont} {E : PanK}
theorem wf_i64 {x : Int} (h : (Lit.int .i64 x).wf = true) : i64 x := by
  have h' : -9223372036854775808 ≤ x ∧ x ≤ 9223372036854775807 := by simpa [Lit.wf, IntKind.min, IntKind.max, IntKind.signed, IntKind.bits] using h
  exact h'
theorem rowsF_all {α : Type} {R : List Value → α → Prop} {sz : Nat} {rows : List (List Value)} {xs : List α} (h : rowsF R sz rows xs) : ∀ x ∈ xs, ∃ r, R r x := fun x hx => by
  obtain ⟨i, hi, rfl⟩ := List.mem_iff_getElem.1 hx
  obtain ⟨r, _, h2, _⟩ := h.get (List.getElem?_eq_getElem hi)
  exact ⟨r, h2⟩
theorem keyI {cs : List Value} {l : List Int} (h : rS 1 (rI .i64) F cs l) : ∃ v, cs = [v] ∧ sF F 1 v l.length (ic l) ∧ (∀ x ∈ l, i64 x) ∧ l.length ≤ 140737488351232 := by
  obtain ⟨v, rows, rfl, h2⟩ := h
  obtain ⟨h3, h4, h5⟩ := rS_ints ⟨v, rows, rfl, h2⟩
  exact ⟨v, rfl, h3, fun x hx => wf_i64 (h4 x hx), h5⟩
theorem facts_of {v : Value} {y : List (List Int × Int)} (h : rS 2 (rP (rS 1 (rI .i64)) (rI .i64)) F [v] y) : fctsD F v y ∧ y.length ≤ 140737488351232 ∧ ∀ f ∈ y, (∀ x ∈ f.1, i64 x) ∧ i64 f.2 := by
  obtain ⟨v', rows, e, hv, hr, hl⟩ := h
  injection e with e _
  subst e
  have hr' : rowsF (fun r f => fctD F r f ∧ (∀ x ∈ f.1, i64 x) ∧ i64 f.2) 2 rows y := hr.mono fun r f ⟨c1, c2, e, ha, hb⟩ => by
    obtain ⟨u, rfl, h1, h2, h3⟩ := keyI ha
    obtain ⟨rfl, h4⟩ := hb
    exact ⟨⟨u, by rw [e]; rfl, h1, h3⟩, h2, wf_i64 h4⟩
  exact ⟨⟨rows, hv, hr'.mono fun _ _ h => h.1⟩, hl, fun f hf => by obtain ⟨r, h⟩ := rowsF_all hr' f hf; exact h.2⟩
end Go.Proofs.YtgcmbkoejjcjlaaGreatDoor.A
open Go Go.RowKit Go.Proofs.YtgcmbkoejjcjlaaGreatDoor.K Go.Proofs.YtgcmbkoejjcjlaaGreatDoor.T
set_option linter.unusedVariables false
set_option linter.unusedSimpArgs false
namespace Go.Proofs.YtgcmbkoejjcjlaaGreatDoor.A
variable {F F' : Nat → Option (List Value)} {M M' : Nat → Option Chunk} {N N' : Nat} {K : Kont} {E : PanK}
abbrev rCell : (Nat → Option (List Value)) → List Value → Int × Int × Int × Int → Prop := rP (rI .i64) (rP (rI .i64) (rP (rI .i64) (rI .i64)))
abbrev rRow : (Nat → Option (List Value)) → List Value → List Int × Int × Int × Int × Int → Prop := rP (rS 1 (rI .i64)) rCell
def toRw (y : List Int × Int × Int × Int × Int) : Rw := (y.1, ⟨y.2.1, y.2.2.1, y.2.2.2.1, y.2.2.2.2⟩)
theorem all2_map {α β γ : Type} {R : α → γ → Prop} (f : β → γ) {xs : List α} {ys : List β} (h : all2 (fun a b => R a (f b)) xs ys) : all2 R xs (ys.map f) :=
  ⟨by simp [h.1], fun i x y hx hy => by
    rw [List.getElem?_map] at hy
    cases hb : ys[i]? with
    | none => rw [hb] at hy; cases hy
    | some b => rw [hb] at hy; simp at hy; subst hy; exact h.2 i x b hx hb⟩
theorem rowsF_map {α β : Type} {R : List Value → β → Prop} {sz : Nat} (f : α → β) {rows : List (List Value)} {xs : List α} (h : rowsF (fun r x => R r (f x)) sz rows xs) : rowsF R sz rows (xs.map f) := ⟨h.len, h.one, all2_map f h.all⟩
end Go.Proofs.YtgcmbkoejjcjlaaGreatDoor.A
open Go Go.RowKit Go.Proofs.YtgcmbkoejjcjlaaGreatDoor.K Go.Proofs.YtgcmbkoejjcjlaaGreatDoor.T
set_option linter.unusedVariables false
set_option linter.unusedSimpArgs false
namespace Go.Proofs.YtgcmbkoejjcjlaaGreatDoor.A
variable {F F' : Nat → Option (List Value)} {M M' : Nat → Option Chunk} {N N' : Nat} {K : Kont} {E : PanK}
theorem wf_u16 {x : Int} (h : (Lit.int .u16 x).wf = true) : 0 ≤ x ∧ x < 65536 := by
  have h' : 0 ≤ x ∧ x ≤ 65535 := by simpa [Lit.wf, IntKind.min, IntKind.max, IntKind.signed, IntKind.bits] using h
  omega
theorem wf_u8 {x : Int} (h : (Lit.int .u8 x).wf = true) : 0 ≤ x ∧ x < 256 := by
  have h' : 0 ≤ x ∧ x ≤ 255 := by simpa [Lit.wf, IntKind.min, IntKind.max, IntKind.signed, IntKind.bits] using h
  omega
theorem listK {kk : IntKind} {cs : List Value} {l : List Int} (h : rS 1 (rI kk) F cs l) : ∃ v, cs = [v] ∧ sF F 1 v l.length (ick kk l) ∧ (∀ x ∈ l, (Lit.int kk x).wf = true) ∧ l.length ≤ 140737488351232 := by
  obtain ⟨v, rows, rfl, h2⟩ := h
  obtain ⟨h3, h4, h5⟩ := rS_ints ⟨v, rows, rfl, h2⟩
  exact ⟨v, rfl, h3, h4, h5⟩
theorem list_of {kk : IntKind} {v : Value} {l : List Int} (h : rS 1 (rI kk) F [v] l) : sF F 1 v l.length (ick kk l) ∧ (∀ x ∈ l, (Lit.int kk x).wf = true) ∧ l.length ≤ 140737488351232 := by
  obtain ⟨u, e, h⟩ := listK h
  injection e with e _
  subst e; exact h
theorem lists_of {kk : IntKind} {v : Value} {ls : List (List Int)} (h : rS 1 (rS 1 (rI kk)) F [v] ls) : kksD kk F v ls ∧ ls.length ≤ 140737488351232 ∧ ∀ l ∈ ls, ∀ x ∈ l, (Lit.int kk x).wf = true := by
  obtain ⟨v', rows, e, hv, hr, hl⟩ := h
  injection e with e _
  subst e
  have hr' : rowsF (fun r c => (∃ u, r = [u] ∧ sF F 1 u c.length (ick kk c) ∧ c.length ≤ 140737488351232) ∧ ∀ x ∈ c, (Lit.int kk x).wf = true) 1 rows ls := hr.mono fun r c h => by
    obtain ⟨u, rfl, h1, h2, h3⟩ := listK h
    exact ⟨⟨u, rfl, h1, h3⟩, h2⟩
  exact ⟨⟨rows, hv, hr'.mono fun _ _ h => h.1⟩, hl, fun l hl => by obtain ⟨r, h⟩ := rowsF_all hr' l hl; exact h.2⟩
abbrev rCut : (Nat → Option (List Value)) → List Value → Int × List Int → Prop := rP (rI .u16) (rS 1 (rI .u8))
theorem cuts_of {v : Value} {y : List (Int × List Int)} (h : rS 2 rCut F [v] y) : cutsD F v y ∧ y.length ≤ 140737488351232 ∧ ∀ c ∈ y, (0 ≤ c.1 ∧ c.1 < 65536) ∧ ∀ x ∈ c.2, 0 ≤ x ∧ x < 256 := by
  obtain ⟨v', rows, e, hv, hr, hl⟩ := h
  injection e with e _
  subst e
  have hr' : rowsF (fun r f => cutD F r f ∧ (0 ≤ f.1 ∧ f.1 < 65536) ∧ ∀ x ∈ f.2, 0 ≤ x ∧ x < 256) 2 rows y := hr.mono fun r f ⟨c1, c2, e, ⟨ha, hb⟩, hc⟩ => by
    obtain ⟨u, rfl, h1, h2, h3⟩ := listK hc
    exact ⟨⟨u, by rw [e, ha]; rfl, h1, h3⟩, wf_u16 hb, fun x hx => wf_u8 (h2 x hx)⟩
  exact ⟨⟨rows, hv, hr'.mono fun _ _ h => h.1⟩, hl, fun c hc => by obtain ⟨r, h⟩ := rowsF_all hr' c hc; exact h.2⟩
end Go.Proofs.YtgcmbkoejjcjlaaGreatDoor.A
open Go Go.RowKit Go.Proofs.YtgcmbkoejjcjlaaGreatDoor.K Go.Proofs.YtgcmbkoejjcjlaaGreatDoor.T
set_option linter.unusedVariables false
set_option linter.unusedSimpArgs false
namespace Go.Proofs.YtgcmbkoejjcjlaaGreatDoor.A
variable {F F' : Nat → Option (List Value)} {M M' : Nat → Option Chunk} {N N' : Nat} {K : Kont} {E : PanK}
abbrev rDim : (Nat → Option (List Value)) → List Value → Int × List Int → Prop := rP (rI .i64) (rS 1 (rI .i64))
end Go.Proofs.YtgcmbkoejjcjlaaGreatDoor.A
open Go Go.RowKit Go.Proofs.YtgcmbkoejjcjlaaGreatDoor.K Go.Proofs.YtgcmbkoejjcjlaaGreatDoor.T
set_option linter.unusedVariables false
set_option linter.unusedSimpArgs false
namespace Go.Proofs.YtgcmbkoejjcjlaaGreatDoor.A
variable {F F' : Nat → Option (List Value)} {M M' : Nat → Option Chunk} {N N' : Nat} {K : Kont} {E : PanK}
theorem look_filter (p : List Int → Bool) (k : List Int) : ∀ t : List Rw, look (t.filter fun r => p r.1) k = if p k = true then look t k else none
  | [] => by simp [look]
  | (k', c) :: t => by
    have ih := look_filter p k t
    rw [List.filter_cons]
    by_cases hk : k' = k
    · subst hk
      by_cases hp : p k' = true
      · rw [if_pos hp, if_pos hp]; simp [look]
      · rw [if_neg hp, ih, if_neg hp, if_neg hp]
    · have e : look ((k', c) :: t) k = look t k := by simp [look, hk]
      rw [e]
      split
      · rw [← ih]; simp [look, hk]
      · exact ih
theorem vals_filter (p : List Int → Bool) (k : List Int) : ∀ ls : List KV, valsAt (ls.filter fun x => p x.1) k = if p k = true then valsAt ls k else []
  | [] => by simp [valsAt]
  | x :: ls => by
    have ih := vals_filter p k ls
    rw [List.filter_cons, valsAt_cons]
    by_cases hk : x.1 = k
    · by_cases hp : p x.1 = true
      · have hp' : p k = true := by rw [← hk]; exact hp
        rw [if_pos hp, valsAt_cons, ih, if_pos hp', if_pos hp']
      · rw [if_neg hp, ih, ← hk, if_neg hp, if_neg hp]
    · rw [if_neg hk, List.nil_append]
      split
      · rw [valsAt_cons, if_neg hk, List.nil_append, ih]
      · exact ih
theorem sizeL_filter (p : KV → Bool) : ∀ ls : List KV, sizeL (ls.filter p) ≤ sizeL ls
  | [] => by simp
  | x :: ls => by
    have ih := sizeL_filter p ls
    rw [List.filter_cons]
    split
    · simp only [sizeL, List.map_cons, List.sum_cons] at ih ⊢; omega
    · simp only [sizeL, List.map_cons, List.sum_cons] at ih ⊢; omega
def boxedL (lo hi : List Int) (ls : List KV) : List KV := ls.filter fun x => withinF lo hi x.1
theorem goodT.cut {l : List Dm} {t : List Rw} {ls : List KV} (h : goodT l t ls) (lo hi : List Int) : goodT l (cutF lo hi t) (boxedL lo hi ls) := by
  refine ⟨fun k => ?_, List.Pairwise.filter _ h.srt, fun x hx => h.key x (List.mem_filter.1 hx).1, fun x hx => h.val x (List.mem_filter.1 hx).1⟩
  have e1 : look (cutF lo hi t) k = if withinF lo hi k = true then look t k else none := look_filter (withinF lo hi) k t
  have e2 : valsAt (boxedL lo hi ls) k = if withinF lo hi k = true then valsAt ls k else [] := vals_filter (withinF lo hi) k ls
  rw [e1, e2]
  have h0 := h.has k
  by_cases hp : withinF lo hi k = true
  · rw [if_pos hp, if_pos hp]; exact h0
  · rw [if_neg hp, if_neg hp]
def told (l : List Dm) (m lo hi : List Int) (ls : List KV) : List KV := reK (atF l (zeros l.length) m) (boxedL lo hi ls)
theorem lvOK_of {l : List Dm} {m : List Int} (hl : m.length = l.length) (h : okLev l m) : lvOK l m = true := by
  unfold lvOK
  rw [decide_eq_true hl, Bool.true_and, List.all_eq_true]
  intro i hi
  have i1 := List.mem_range.1 hi
  unfold lvP
  rw [getD_at i1]
  have := h i i1
  exact decide_eq_true ⟨by omega, by omega⟩
theorem checkE_of {l : List Dm} {m lo hi : List Int} (hd : okDims l = true) (hl : m.length = l.length) (h : okLev l m) (hb : boxOK l lo hi = true) : checkE l m lo hi = 0 := by
  unfold checkE
  rw [hd, lvOK_of hl h, hb]; rfl
theorem goodT.run {l : List Dm} {t : List Rw} {ls : List KV} (h : goodT l t ls) {m lo hi : List Int} (hd : okDims l = true) (hl : m.length = l.length) (hm : okLev l m) (hb : boxOK l lo hi = true) (h1 : t.length ≤ 500) (h2 : sizeL ls ≤ 1000) :
    runE l t m lo hi = 0 ∧ goodT l (runT l t m lo hi) (told l m lo hi ls) := by
  have hc := h.cut lo hi
  have h3 := cutF_len lo hi t
  have h4 := sizeL_filter (fun x => withinF lo hi x.1) ls
  have h6 : sizeL (boxedL lo hi ls) ≤ 1000 := Nat.le_trans h4 h2
  obtain ⟨h5, hg⟩ := hc.rolled hd (zeros_up hl hm) (small2 (by omega) h6)
  have h7 : (runRows l t m lo hi).length ≤ 500 := by unfold runRows; have := rollT_len l (cutF lo hi t) (zeros l.length) m; omega
  have e : runE l t m lo hi = 0 := by
    unfold runE
    rw [if_pos (checkE_of hd hl hm hb), if_neg (by rw [h.sound]; decide), if_neg (by omega)]
  refine ⟨e, ?_⟩
  unfold runT
  rw [if_pos e]; exact hg
theorem goodT.none (l : List Dm) : goodT l [] [] := ⟨fun k => by simp [look, valsAt], .nil, by simp, by simp⟩
end Go.Proofs.YtgcmbkoejjcjlaaGreatDoor.A
open Go Go.RowKit Go.Proofs.YtgcmbkoejjcjlaaGreatDoor.K Go.Proofs.YtgcmbkoejjcjlaaGreatDoor.T
set_option linter.unusedVariables false
set_option linter.unusedSimpArgs false
namespace Go.Proofs.YtgcmbkoejjcjlaaGreatDoor.A
variable {F F' : Nat → Option (List Value)} {M M' : Nat → Option Chunk} {N N' : Nat} {K : Kont} {E : PanK}
end Go.Proofs.YtgcmbkoejjcjlaaGreatDoor.A
open Go Go.RowKit Go.Proofs.YtgcmbkoejjcjlaaGreatDoor.K Go.Proofs.YtgcmbkoejjcjlaaGreatDoor.T
set_option linter.unusedVariables false
set_option linter.unusedSimpArgs false
namespace Go.Proofs.YtgcmbkoejjcjlaaGreatDoor.A
variable {F F' : Nat → Option (List Value)} {M M' : Nat → Option Chunk} {N N' : Nat} {K : Kont} {E : PanK}
abbrev En := Int × List Fc
def entD (F : Nat → Option (List Value)) (cs : List Value) (e : En) : Prop := ∃ v, cs = [.int .u32 e.1, v] ∧ fctsD F v e.2 ∧ e.2.length ≤ 140737488351232
theorem entD.mono {cs : List Value} {e : En} (h : entD F cs e) (hF : subF F F') : entD F' cs e := let ⟨v, h1, h2, h3⟩ := h; ⟨v, h1, h2.mono hF, h3⟩
theorem fctsD.form {v : Value} {t : List Fc} (h : fctsD F v t) : ∃ a c, v = .slice a t.length c := let ⟨rows, h1, _⟩ := h; let ⟨a, c, h2, _⟩ := h1.form; ⟨a, c, h2⟩
theorem entD.one {cs : List Value} {e : En} (h : entD F cs e) : cs.length = 2 ∧ ∀ c ∈ cs, c.oneCell' = true := by
  obtain ⟨v, rfl, hv, _⟩ := h
  obtain ⟨a, c, rfl⟩ := hv.form
  exact ⟨rfl, List.all_eq_true.1 rfl⟩
def risen (h : List En) : Prop := h.Pairwise fun a b => a.1 < b.1
def place : List En → Int → Nat
  | [], _ => 0
  | e :: h, t => if e.1 < t then place h t + 1 else 0
theorem place_le : ∀ (h : List En) (t : Int), place h t ≤ h.length
  | [], _ => Nat.le_refl _
  | e :: h, t => by unfold place; split; simp; exact place_le h t; simp
theorem place_lt : ∀ {h : List En} {t : Int} {i : Nat} (hi : i < h.length), i < place h t → h[i].1 < t
  | e :: h, t, i, hi, hp => by
    unfold place at hp
    split at hp
    · cases i with
      | zero => assumption
      | succ i => exact place_lt (h := h) (by simpa using hi) (by omega)
    · omega
theorem place_ge : ∀ {h : List En} {t : Int} (hs : risen h) {i : Nat} (hi : i < h.length), place h t ≤ i → t ≤ h[i].1
  | e :: h, t, hs, i, hi, hp => by
    obtain ⟨h1, h2⟩ := List.pairwise_cons.1 hs
    unfold place at hp
    split at hp
    · cases i with
      | zero => omega
      | succ i => exact place_ge h2 (by simpa using hi) (by omega)
    · rename_i hn
      cases i with
      | zero => simp; omega
      | succ i =>
        have := h1 (h[i]'(by simpa using hi)) (List.getElem_mem _)
        simp only [List.getElem_cons_succ]; omega
def there (h : List En) (t : Int) : Bool := match h[place h t]? with
  | some e => decide (e.1 = t)
  | none => false
theorem nanT_c {a : Int} (k : (Hp.mk F M N).wf → K (.bool false) ⟨F, M, N⟩) : callv Tryz.prog (.func (.func 132) #[] #[]) #[.int .u32 a] K E ⟨F, M, N⟩ := by
  refine callv_of_text mixed Tryz.func132 (by kernel_rfl) (t132 _ E _) (fun hw => ?_)
  refine neq_r (fun h => absurd rfl h) (fun _ => ?_)
  exact fun hc => ⟨_, wk_refl hc, fun hw' => k hw'⟩
def cmpT (a b : Int) : Int := if a < b then -1 else if a > b then 1 else 0
set_option maxRecDepth 10000 in
theorem cmpT_c {a b : Int} (k : (Hp.mk F M N).wf → K (.int .i64 (cmpT a b)) ⟨F, M, N⟩) : callv Tryz.prog (.func (.func 102) #[] #[]) #[.int .u32 a, .int .u32 b] K E ⟨F, M, N⟩ := by
  refine callv_of_text mixed Tryz.func102 (by kernel_rfl) (t102 _ E _ _) (fun hw => ?_)
  refine nanT_c (fun _ => nanT_c (fun _ => ?_))
  unfold cmpT at k
  try simp only [sS]
  refine lss_r (fun h => ?_) (fun h => ?_)
  · try simp only [sS]
    rw [if_pos h] at k
    exact fun hc => ⟨_, wk_refl hc, fun hw' => k hw'⟩
  rw [if_neg h] at k
  try simp only [sS]
  refine gtr_r (fun h2 => ?_) (fun h2 => ?_)
  · try simp only [sS]
    rw [if_pos h2] at k
    exact fun hc => ⟨_, wk_refl hc, fun hw' => k hw'⟩
  rw [if_neg h2] at k
  try simp only [sS]
  exact fun hc => ⟨_, wk_refl hc, fun hw' => k hw'⟩
theorem find1_c {cs : List Value} {e : En} {t : Int} (he : entD F cs e) (k : ∀ N', N ≤ N' → (Hp.mk F M N').wf → K (.int .i64 (cmpT e.1 t)) ⟨F, M, N'⟩) : callv Tryz.prog (.func (.func 101) #[] #[]) #[.agg cs.toArray, .int .u32 t] K E ⟨F, M, N⟩ := by
  refine callv_of_text mixed Tryz.func101 (by kernel_rfl) (t101 _ E _ _) (fun hw => ?_)
  have hm := hw.m
  obtain ⟨v, rfl, hv, hvl⟩ := he
  refine nw_r (cs := [.int .u32 e.1, v]) (fun b hb => ?_)
  try simp only [sS]
  refine ldM (v := .int .u32 e.1) ?_
  refine cmpT_c (fun hw1 => ?_)
  exact fun hc => ⟨⟨F, M, b + 1⟩, wk_end hc, fun hw' => k _ (by omega) hw'⟩
theorem orow_r {α : Type} {R : List Value → α → Prop} {B sz : Nat} {e : TypeId} {v : Value} {l : List α} {rows : List (List Value)} {K : Value → Kont} (hv : own M B e sz v l.length rows.flatten) (hr : rowsF R sz rows l) (hz : 0 < sz) {i : Nat} (hi : i < l.length)
    (k : ∀ p r, rows[i]? = some r → R r l[i] → r.length = sz → (∀ x ∈ r, x.oneCell' = true) → K p (.agg r.toArray) ⟨F, M, N⟩) : pv (iaV none sz v (.int .i64 (i : Nat))) (fun p => ld true sz p (K p)) ⟨F, M, N⟩ := by
  rcases hv.2 with ⟨rfl, h0⟩ | ⟨b, c, rest, rfl, h1, h2, h3, h4⟩
  · omega
  obtain ⟨r, hri, hR, _⟩ := hr.get (List.getElem?_eq_getElem hi)
  have hil := (List.getElem?_eq_some_iff.1 hri).1
  have hrm : r ∈ rows := List.mem_of_getElem? hri
  have hlen := hr.len r hrm
  have hfl := hr.flen
  have hle : i * sz + sz ≤ l.length * sz := by rw [← Nat.succ_mul]; exact Nat.mul_le_mul_right _ hi
  have hd : (rows.flatten.drop (i * sz)).take sz = r := by
    rw [flatten_drop rows i hr.len, List.drop_eq_getElem_cons hil, List.flatten_cons]
    rw [(List.getElem?_eq_some_iff.1 hri).2, ← hlen, List.take_left]
  refine iaN_r hi (ld_r (ldV_a (row_M h4) (by rw [List.length_append]; omega) ?_) (k _ r hri hR hlen (hr.one r hrm)))
  rw [Nat.zero_add, List.drop_append_of_le_length (by omega), List.take_append_of_le_length (by rw [List.length_drop]; omega), hd]
end Go.Proofs.YtgcmbkoejjcjlaaGreatDoor.A
open Go Go.RowKit Go.Proofs.YtgcmbkoejjcjlaaGreatDoor.K Go.Proofs.YtgcmbkoejjcjlaaGreatDoor.T
set_option linter.unusedVariables false
set_option linter.unusedSimpArgs false
namespace Go.Proofs.YtgcmbkoejjcjlaaGreatDoor.A
variable {F F' : Nat → Option (List Value)} {M M' : Nat → Option Chunk} {N N' : Nat} {K : Kont} {E : PanK}
theorem cv_u64 {k : IntKind} {a : Nat} {h : Hp} (h1 : a ≤ 9223372036854775807) (kk : K (.int .u64 (a : Nat)) h) : pv (cvV .u64 (.int k (a : Nat))) K h :=
  ⟨_, rfl, by rw [u64w (by omega) (by omega)]; exact kk⟩
theorem half_r {a : Nat} {h : Hp} (h1 : a ≤ 9223372036854775807) (kk : K (.int .u64 ((a / 2 : Nat) : Int)) h) : pv (binV .none .shr (.int .u64 (a : Nat)) (.int .u64 1)) K h := by
  have e : binV .none .shr (.int .u64 (a : Nat)) (.int .u64 1) = some (.int .u64 ((a : Int).fdiv 2)) := by kernel_rfl
  refine ⟨_, e, ?_⟩
  rw [Int.fdiv_eq_ediv_of_nonneg _ (by omega)]
  exact kk
theorem cmpT_lt {a b : Int} : cmpT a b < 0 ↔ a < b := by unfold cmpT; split <;> (try split) <;> omega
theorem cmpT_eq {a b : Int} : cmpT a b = 0 ↔ a = b := by unfold cmpT; split <;> (try split) <;> omega
theorem there_in {h : List En} {t : Int} (hi : place h t < h.length) : there h t = decide (h[place h t].1 = t) := by
  unfold there; rw [List.getElem?_eq_getElem hi]
theorem there_out {h : List En} {t : Int} (hi : ¬ place h t < h.length) : there h t = false := by
  unfold there; rw [List.getElem?_eq_none (by omega)]
theorem find_c {B : Nat} {v : Value} {rows : List (List Value)} {h : List En} {t : Int} (hv : own M B 74 2 v h.length rows.flatten) (hr : rowsF (entD F) 2 rows h) (hs : risen h) (hl : h.length ≤ 100000000000)
    (k : ∀ N', N ≤ N' → (Hp.mk F M N').wf → K (.tuple #[.int .i64 (place h t : Nat), .bool (there h t)]) ⟨F, M, N'⟩) : callv Tryz.prog (.func (.func 72) #[] #[]) #[v, .int .u32 t] K E ⟨F, M, N⟩ := by
  refine callv_of_text mixed Tryz.func72 (by kernel_rfl) (t72 _ E _ _) (fun hw => ?_)
  refine callv_of_text mixed Tryz.func100 (by kernel_rfl) (t100 _ E _ _ _) (fun hw => ?_)
  have hlv : lenV v = some (.int .i64 (h.length : Nat)) := by obtain ⟨a, c, rfl, _⟩ := hv.form; rfl
  have hpl := place_le h t
  refine pv_r hlv ?_
  refine l100_1_1_1_0_0_0 (σ := Nat × Nat) (fun s => .int .i64 (s.1 : Nat)) (fun s => .int .i64 (s.2 : Nat)) (fun s h' => ∃ N', h' = ⟨F, M, N'⟩ ∧ N ≤ N' ∧ s.1 ≤ place h t ∧ place h t ≤ s.2 ∧ s.2 ≤ h.length) (fun s => s.2 - s.1) (0, h.length) rfl rfl
    (fun hw1 => ⟨_, wk_refl hw1, N, rfl, Nat.le_refl _, Nat.zero_le _, hpl, Nat.le_refl _⟩) (fun k1 s j h1 hI hw1 next => ?_)
  rw [t100_1_1_1_0_0_0]
  obtain ⟨N1, rfl, hN1, a1, a2, a3⟩ := hI
  refine lss_r (fun hlt => ?_) (fun hge => ?_)
  · try simp only [sS]
    refine add_n (by omega) (cv_u64 (by omega) (half_r (by omega) (cv_i64 (by omega) ?_)))
    have hm : (s.1 + s.2) / 2 < h.length := by omega
    refine orow_r hv hr (by decide) hm fun p r _ hR _ _ => ?_
    refine find1_c hR (fun N2 hN2 hw2 => ?_)
    refine lss_r (fun hc => ?_) (fun hc => ?_)
    · rw [cmpT_lt] at hc
      have : ¬ place h t ≤ (s.1 + s.2) / 2 := fun e => by have := place_ge hs hm e; omega
      try simp only [sS]
      refine inc_r (by omega) ?_
      exact next ((s.1 + s.2) / 2 + 1, s.2) _ _ (by simp only; omega) (fun hw3 => ⟨_, wk_refl hw3, N2, rfl, by omega, by simp only; omega, by simp only; omega, by simp only; omega⟩)
    · rw [cmpT_lt] at hc
      have : ¬ (s.1 + s.2) / 2 < place h t := fun e => hc (place_lt hm e)
      try simp only [sS]
      exact next (s.1, (s.1 + s.2) / 2) _ _ (by simp only; omega) (fun hw3 => ⟨_, wk_refl hw3, N2, rfl, by omega, by simp only; omega, by simp only; omega, by simp only; omega⟩)
  · try simp only [sS]
    have e : s.1 = place h t := by omega
    rw [e]
    refine lss_r (fun hc => ?_) (fun hc => ?_)
    · have hp : place h t < h.length := by omega
      try simp only [sS]
      refine orow_r hv hr (by decide) hp fun p r _ hR _ _ => ?_
      refine find1_c hR (fun N2 hN2 hw2 => ?_)
      rw [there_in hp] at k
      refine eql_r (fun hz => ?_) (fun hz => ?_)
      · rw [cmpT_eq] at hz
        rw [decide_eq_true hz] at k
        try simp only [sS]
        exact fun hc => ⟨_, wk_refl hc, fun hw3 => by
          try simp only [sS]
          exact fun hc => ⟨_, wk_refl hc, fun hw' => k _ (by omega) hw'⟩⟩
      · rw [cmpT_eq] at hz
        rw [decide_eq_false hz] at k
        try simp only [sS]
        exact fun hc => ⟨_, wk_refl hc, fun hw3 => by
          try simp only [sS]
          exact fun hc => ⟨_, wk_refl hc, fun hw' => k _ (by omega) hw'⟩⟩
    · rw [there_out (by omega)] at k
      try simp only [sS]
      exact fun hc => ⟨_, wk_refl hc, fun hw3 => by
        try simp only [sS]
        exact fun hc => ⟨_, wk_refl hc, fun hw' => k _ (by omega) hw'⟩⟩
end Go.Proofs.YtgcmbkoejjcjlaaGreatDoor.A
open Go Go.RowKit Go.Proofs.YtgcmbkoejjcjlaaGreatDoor.K Go.Proofs.YtgcmbkoejjcjlaaGreatDoor.T
set_option linter.unusedVariables false
set_option linter.unusedSimpArgs false
namespace Go.Proofs.YtgcmbkoejjcjlaaGreatDoor.A
variable {F F' : Nat → Option (List Value)} {M M' : Nat → Option Chunk} {N N' : Nat} {K : Kont} {E : PanK}
theorem fcts_frz {v : Value} {t : List Fc} {rows : List (List Value)} {p : Nat → Prop} (ho : own M N 90 2 v t.length rows.flatten) (hr : rowsF (fctD F) 2 rows t) (hc : (Hp.mk F M N').wf) (hp : ∀ q, v.ownBlock = some q → p q) : fctsD (frzP F M p) v t :=
  ⟨rows, ho.frzP hp, hr.mono fun _ _ h => h.mono (subF_frzP hc)⟩
set_option maxRecDepth 10000 in
theorem cclone_g {v : Value} {l : List Fc} (hv : fctsD F v l) (hl : l.length ≤ 1000000000) (hk : ∀ f ∈ l, f.1.length ≤ 10000000000)
    (k : clean M N → ∀ v' F' M' N' rows, subF F F' → N ≤ N' → own M' N 90 2 v' l.length rows.flatten → rowsF (fctD F') 2 rows l → (∀ q, q < N → M' q = M q) → clean M' N' → (Hp.mk F' M' N').wf → ∃ h', (Hp.mk F' M' N').wk h' ∧ (h'.wf → K v' h')) :
    callv Tryz.prog (.func (.func 76) #[] #[]) #[v] K E ⟨F, M, N⟩ := by
  refine callv_of_text mixed Tryz.func76 (by kernel_rfl) (t76 _ E _) (fun hw => ?_)
  have hm : clean M N := hw.m
  obtain ⟨trs, hvs, hrs⟩ := hv
  refine lenF_r hvs ?_
  refine l76_1_1_0_1_0_0 (σ := Nat × Value) (fun s => s.2) (fun s => .int .i64 (s.1 : Nat))
    (fun s h => ∃ F' M' N' rows, h = ⟨F', M', N'⟩ ∧ subF F F' ∧ N ≤ N' ∧ (∀ q, q < N → M' q = M q) ∧ clean M' N' ∧ s.1 ≤ l.length ∧ own M' N 90 2 s.2 s.1 rows.flatten ∧ rowsF (fctD F') 2 rows (l.take s.1)) (fun s => l.length - s.1) (0, .slice none 0 0) rfl rfl
    (fun hw1 => ⟨_, wk_refl hw1, F, M, N, [], rfl, subF.refl _, Nat.le_refl _, fun _ _ => rfl, hm, Nat.zero_le _, own.nil, rowsF.nil _ _⟩) (fun k1 s j h1 hI hw1 next => ?_)
  rw [t76_1_1_0_1_0_0]
  obtain ⟨F1, M1, N1, rows, rfl, hF1, hN1, hM1, hm1, hi', ho, hr⟩ := hI
  refine lss_r (fun hlt => ?_) (fun hge => ?_)
  · have h1 : s.1 < l.length := by omega
    try simp only [sS]
    refine row_r (hvs.mono hF1) (hrs.mono fun _ _ h => h.mono hF1) (by decide) h1 (fun p r _ hR hrl hr1 => ?_)
    obtain ⟨kv, hre, hkv, hkl⟩ := hR
    subst hre
    refine nw_r (fun b1 hb1 => ?_)
    refine stM (cs' := [kv, .int .i64 l[s.1].2]) ?_ (upd_same _ _ _) rfl rfl hr1
    rw [upd_upd]
    have hb2 := upd_same M1 b1 (some (.cells 90 [kv, .int .i64 l[s.1].2] [Value.slice none 0 0, Value.int .i64 0].length))
    have hM2 : ∀ q, q < N → upd M1 b1 (some (.cells 90 [kv, .int .i64 l[s.1].2] [Value.slice none 0 0, Value.int .i64 0].length)) q = M q := fun q hq => (upd_ne _ _ (by omega)).trans (hM1 q hq)
    have ho2 := ho.box hm1 hb1 (some (.cells 90 [kv, .int .i64 l[s.1].2] [Value.slice none 0 0, Value.int .i64 0].length))
    have hm2 := hm1.new hb1 (some (.cells 90 [kv, .int .i64 l[s.1].2] [Value.slice none 0 0, Value.int .i64 0].length))
    generalize upd M1 b1 _ = M2 at *
    try simp only [sS]
    refine ldM (v := kv) ?_ hb2
    try simp only [sS]
    refine ldM (v := .int .i64 l[s.1].2) ?_ hb2
    refine clone_f hm2 hkv.sR (by have := hk _ (List.getElem_mem h1); omega) (fun kv' F3 N3 hw3 hF3 hN3 hkv' => ?_)
    refine ⟨ldV_c (row_M hb2) rfl, ?_⟩
    have h1f : fctD F3 [kv', .int .i64 l[s.1].2] l[s.1] := ⟨kv', rfl, hkv', hkl⟩
    obtain ⟨ak, ck, hkf, hck⟩ := hkv'.form
    refine pv_r (v := .agg #[kv', .int .i64 l[s.1].2]) (by rw [hkf]; kernel_rfl) ?_
    refine push_r (new := [kv', .int .i64 l[s.1].2]) ho2 hw3.m (by omega) (by rw [hkf]; kernel_rfl) rfl h1f.one.2 (by omega) (by unfold maxLen; omega) (fun p v' M4 N4 h4 h5 h6 h7 => ?_)
    refine inc_r (by omega) ?_
    refine next (s.1 + 1, v') _ _ (by simp only; omega) (fun hw5 => ⟨_, wk_refl hw5, F3, M4, N4, rows ++ [[kv', .int .i64 l[s.1].2]], rfl, hF1.trans hF3, by omega, fun q hq => ?_, h7, h1, ?_, ?_⟩)
    · exact ((h5 q (fun e => by have := (ho2.ge q e).1; omega) (by omega)).1).trans (hM2 q hq)
    · simpa using h4
    · simp only
      rw [List.take_add_one, List.getElem?_eq_getElem h1, Option.toList_some]
      exact rowsF_snoc1 (hr.mono fun _ _ h => h.mono hF3) h1f.one h1f
  · try simp only [sS]
    rw [show s.1 = l.length by omega] at ho
    rw [List.take_of_length_le (by omega)] at hr
    exact fun hc => k hm s.2 F1 M1 N1 rows hF1 hN1 ho hr hM1 hm1 hc
theorem fcts_frzA {v : Value} {t : List Fc} {rows : List (List Value)} (hc : (Hp.mk F M' N').wf) (ho : own M' N 90 2 v t.length rows.flatten) (hr : rowsF (fctD F) 2 rows t) : fctsD (frzAll F M' N) v t :=
  ⟨rows, ho.rd.frz hc (fun b hb => .inl (ho.ge b hb).1), hr.mono fun _ _ h => h.mono (subF_frzAll hc)⟩
theorem cclone_c {v : Value} {l : List Fc} (hv : fctsD F v l) (hl : l.length ≤ 1000000000) (hk : ∀ f ∈ l, f.1.length ≤ 10000000000)
    (k : ∀ v' F' N', (Hp.mk F' M N').wf → subF F F' → N ≤ N' → fctsD F' v' l → K v' ⟨F', M, N'⟩) :
    callv Tryz.prog (.func (.func 76) #[] #[]) #[v] K E ⟨F, M, N⟩ :=
  cclone_g hv hl hk (fun hm v' F' M' N' rows hF hN ho hr hM _ hc => ⟨_, frz_wf hm hM hc, fun hw' => k _ _ _ hw' (hF.trans (subF_frzAll hc)) hN (fcts_frzA hc ho hr)⟩)
theorem cclone_o {v : Value} {l : List Fc} (hv : fctsD F v l) (hl : l.length ≤ 1000000000) (hk : ∀ f ∈ l, f.1.length ≤ 10000000000)
    (k : ∀ v' F' M' N' rows, subF F F' → N ≤ N' → own M' N 90 2 v' l.length rows.flatten → rowsF (fctD F') 2 rows l → (∀ q, q < N → M' q = M q) → clean M' N' → (Hp.mk F' M' N').wf → K v' ⟨F', M', N'⟩) :
    callv Tryz.prog (.func (.func 76) #[] #[]) #[v] K E ⟨F, M, N⟩ :=
  cclone_g hv hl hk (fun _ v' F' M' N' rows hF hN ho hr hM hm' hc => ⟨_, wk_refl hc, fun hw' => k v' F' M' N' rows hF hN ho hr hM hm' hw'⟩)
end Go.Proofs.YtgcmbkoejjcjlaaGreatDoor.A
open Go Go.RowKit Go.Proofs.YtgcmbkoejjcjlaaGreatDoor.K Go.Proofs.YtgcmbkoejjcjlaaGreatDoor.T
set_option linter.unusedVariables false
set_option linter.unusedSimpArgs false
namespace Go.Proofs.YtgcmbkoejjcjlaaGreatDoor.A
variable {F F' : Nat → Option (List Value)} {M M' : Nat → Option Chunk} {N N' : Nat} {K : Kont} {E : PanK}
set_option maxRecDepth 100000 in
theorem szE : ∀ w, (Go.sizeOf 74).run Tryz.prog w = .ok 2 w := fun w => run_sizeOf' (i := (Tryz.prog.info? 74).getD default) (by kernel_rfl) w
theorem overlaps_c {b o l c b2 l2 c2 : Nat} {e e2 : TypeId} {cs cs2 : List Value} {tot tot2 : Nat} (h1 : M b2 = some (.cells e2 cs2 tot2)) (h2 : M b = some (.cells e cs tot)) (hne : b2 ≠ b) (ht : 0 < tot) (k : K (.bool false) ⟨F, M, N⟩) :
    callv Tryz.prog (.func (.func 153) #[] #[]) #[.slice (some ⟨b2, 0, none⟩) l2 c2, .slice (some ⟨b, o, none⟩) l c] K E ⟨F, M, N⟩ := by
  refine .inr fun w0 w r => ⟨.bool false, w, ⟨F, M, N⟩, ?_, r, k⟩
  obtain ⟨_, _, _, arr2, a1, a2, _⟩ := r.cl b2 e2 cs2 tot2 h1
  obtain ⟨_, _, _, arr, a3, a4, _⟩ := r.cl b e cs tot h2
  rw [run_callFunc_extern Tryz.func153 (by kernel_rfl) (by kernel_rfl) (by kernel_rfl) (e := Extern.SlicesOverlaps.overlaps #[42, 42] #[4]) (by kernel_rfl)]
  have := Lib.run_overlaps_apart (P := Tryz.prog) w 42 4 74 Tryz.underlying42 2 szE ⟨b2, 0, none⟩ ⟨b, o, none⟩ l2 c2 l c hne e2 e arr2.size arr.size (by simp [World.shape?, a1]) (by simp [World.shape?, a3]) (by omega) (by simp [World.frozen?, a1]) (by simp [World.frozen?, a1])
  have h3 : appA (appA #[] #[.slice (some ⟨b2, 0, none⟩) l2 c2, .slice (some ⟨b, o, none⟩) l c]) #[] = #[Value.slice (some ⟨b2, 0, none⟩) l2 c2, .slice (some ⟨b, o, none⟩) l c] := rfl
  rw [h3, this]
  rfl
theorem cut3 {α : Type} (L : List α) (n : Nat) (h : n ≤ L.length) : ∃ X Y, L = X ++ Y ∧ X.length = n := ⟨L.take n, L.drop n, (List.take_append_drop n L).symm, by simp; omega⟩
theorem insert_c {b b2 n c : Nat} {A B : List (List Value)} {r rest : List Value} (hM : M b = some (.cells 74 ((A ++ B).flatten ++ rest) (c * 2))) (hM2 : M b2 = some (.cells 74 r 2)) (hne : b2 ≠ b) (hl : ∀ r ∈ A ++ B, r.length = 2) (h1 : ∀ r ∈ A ++ B, ∀ c ∈ r, c.oneCell' = true)
    (hr : r.length = 2) (hr1 : ∀ c ∈ r, c.oneCell' = true) (hn : (A ++ B).length = n) (hc : n ≤ c) (hcm : c ≤ maxLen) (hi : A.length < n) (hn2 : n < 100000000000)
    (k : ∀ rest' b' c' N' X, (b' = b ∨ N ≤ b') → (∀ k, k ≠ b → k < N → X k = M k) → X b' = some (.cells 74 ((A ++ r :: B).flatten ++ rest') (c' * 2)) → n + 1 ≤ c' → c' ≤ maxLen → N ≤ N' → (Hp.mk F X N').wf → K (.slice (some ⟨b', 0, none⟩) (n + 1) c') ⟨F, X, N'⟩) :
    callv Tryz.prog (.func (.func 119) #[] #[]) #[.slice (some ⟨b, 0, none⟩) n c, .int .i64 (A.length : Nat), .slice (some ⟨b2, 0, none⟩) 1 1] K E ⟨F, M, N⟩ := by
  refine callv_reveal hM rfl (by kernel_rfl) (fun ext hext => ?_)
  obtain ⟨R, hR⟩ : ∃ R, R = rest ++ ext := ⟨_, rfl⟩
  rw [List.append_assoc, ← hR] at hext
  obtain ⟨M1, hM1⟩ : ∃ M1, M1 = upd M b (some (.cells 74 ((A ++ B).flatten ++ R) (c * 2))) := ⟨_, rfl⟩
  rw [show (Hp.mk F M N).set b (.cells 74 ((A ++ B).flatten ++ rest ++ ext) (c * 2)) = ⟨F, M1, N⟩ by rw [hM1, hR, ← List.append_assoc]; rfl]
  clear hM
  have hM : M1 b = some (.cells 74 ((A ++ B).flatten ++ R) (c * 2)) := by rw [hM1, upd_same]
  have hM2' : M1 b2 = some (.cells 74 r 2) := by rw [hM1, upd_ne _ _ hne]; exact hM2
  have hMo : ∀ k, k ≠ b → M1 k = M k := fun k hk => by rw [hM1, upd_ne _ _ hk]
  clear hM1
  refine call_text mixed Tryz.func119 (by kernel_rfl) (t119 _ E _ _ _) (fun hw => ?_)
  have hA : A.flatten.length = A.length * 2 := flatten_len _ (fun r hr => hl r (by simp [hr]))
  have hB : B.flatten.length = B.length * 2 := flatten_len _ (fun r hr => hl r (by simp [hr]))
  have hBl : B.length = n - A.length := by simp at hn; omega
  rw [List.flatten_append] at hM hext
  simp only [List.length_append, hA, hB] at hext
  have hm := hw.m
  have key : ∀ b, M1 b ≠ none → b < N := fun q hq => by
    rcases Nat.lt_or_ge q N with h | h
    · exact h
    · exact absurd (hm q h) hq
  have hbN := key b (by rw [hM]; simp)
  have hb2N := key b2 (by rw [hM2']; simp)
  have h1B : ∀ c ∈ B.flatten, c.oneCell' = true := fun c hc => by
    obtain ⟨q, hq, hc⟩ := List.mem_flatten.1 hc
    exact h1 q (by simp [hq]) c hc
  refine sl_suf A.length (by omega) hc ?_
  refine pv_r rfl (eql_f (by omega) (cnd_f ?_))
  refine pv_r rfl (eql_f (by omega) (cnd_f ?_))
  refine inc_r (by omega) (pv_r rfl ?_)
  by_cases hgt : n + 1 > c
  · refine gtr_t (by omega) (cnd_t ?_)
    refine sl_pre A.length (by omega) ?_
    refine inc_r (by omega) ?_
    refine sub_r (by omega) (by omega) ?_
    have e0 : ((n + 1 : Nat) : Int) - (A.length : Nat) = ((n + 1 - A.length : Nat) : Int) := by omega
    rw [e0]
    refine ⟨some ⟨b, 0, none⟩, A.length, c, A.flatten, n + 1 - A.length, .i64, rfl, rfl, ⟨by rw [hA], .inr ⟨b, 0, c, _, rfl, .inr ⟨.inr ⟨_, _, hM⟩, by rw [List.drop_zero, ← hA, List.append_assoc, List.take_left]⟩⟩⟩, by omega, by omega, by omega, by simp [maxLen]; omega, fun b' c' hb' hc' hcm' => ?_⟩
    have e1 : A.length + (n + 1 - A.length) = n + 1 := by omega
    rw [e1] at hc' ⊢
    have hb'b : b' ≠ b := by simp only at hb'; omega
    have hb'2 : b' ≠ b2 := by simp only at hb'; omega
    have hZ : ((List.replicate (n + 1 - A.length) [Value.int .u32 0, .slice none 0 0]).flatten).length = 2 + B.length * 2 := by
      rw [flatten_len (sz := 2) _ (fun r hr => by rw [(List.mem_replicate.1 hr).2]; rfl), List.length_replicate]; omega
    obtain ⟨Z1, Z2, hZe, hZ1⟩ := cut3 _ 2 (by rw [hZ]; omega)
    rw [hZe] at hZ ⊢
    simp only [List.length_append, hZ1] at hZ
    show pv _ _ (Hp.mk F (upd M1 b' (some (.cells 74 (A.flatten ++ (Z1 ++ Z2)) (c' * 2)))) (b' + 1))
    refine sl_suf A.length (by omega) hc' ?_
    rw [if_neg (by omega)]
    refine ⟨b', _, _, _, 74, _, _, 1, r, rfl, upd_same _ _ _, ⟨by rw [hr], .inr ⟨b2, 0, 1, r, rfl, .inr ⟨.inr ⟨_, _, (upd_ne _ _ (Ne.symm hb'2)).trans hM2'⟩, by rw [List.drop_zero, List.take_of_length_le (by omega)]⟩⟩⟩, fun c hc => hr1 c (List.mem_of_mem_take hc), by simp [hA, hZ1]; omega, ?_⟩
    have em : min 1 (n + 1 - A.length) = 1 := by omega
    rw [em, List.take_of_length_le (by omega : r.length ≤ 1 * 2)]
    have es1 : splice (A.flatten ++ (Z1 ++ Z2)) (0 + A.length * 2) r = A.flatten ++ r ++ Z2 := by
      rw [← List.append_assoc, Nat.zero_add, ← hA, splice_at _ _ _ _ (by omega)]
    rw [es1]
    refine inc_r (by omega) ?_
    refine sl_suf (A.length + 1) (by omega) hc' ?_
    rw [if_neg (by omega)]
    refine sl_suf A.length (by omega) hc ?_
    rw [if_neg (by omega)]
    refine ⟨b', _, _, _, 74, _, _, n - A.length, B.flatten, rfl, upd_same _ _ _, ⟨by rw [hB, hBl], .inr ⟨b, _, _, _, rfl, .inr ⟨.inr ⟨_, _, (upd_ne _ _ (Ne.symm hb'b)).trans ((upd_ne _ _ (Ne.symm hb'b)).trans hM)⟩, ?_⟩⟩⟩, fun c hc => h1B c (List.mem_of_mem_take hc), ?_, fun hc2 => ?_⟩
    · rw [Nat.zero_add, ← hA, List.append_assoc, List.drop_left, ← hBl, ← hB, List.take_left]
    · simp [hA, hr]; omega
    have em2 : min (n - A.length) (n + 1 - (A.length + 1)) = B.length := by omega
    rw [em2] at hc2 ⊢
    have es2 : splice (A.flatten ++ r ++ Z2) (0 + (A.length + 1) * 2) (B.flatten.take (B.length * 2)) = A.flatten ++ r ++ B.flatten := by
      have : 0 + (A.length + 1) * 2 = (A.flatten ++ r).length := by simp [hA, hr]; omega
      rw [List.take_of_length_le (by omega), this]
      have h := splice_at (A.flatten ++ r) Z2 B.flatten [] (by omega)
      simpa using h
    rw [es2] at hc2 ⊢
    refine ⟨_, wk_refl hc2, fun hw' => k [] b' c' _ _ (.inr hb') (fun q hq hqN => ?_) ?_ hc' hcm' ?_ hw'⟩
    · simp only at hb'
      exact (upd_ne _ _ (by omega)).trans ((upd_ne _ _ (by omega)).trans ((upd_ne _ _ (by omega)).trans (hMo q hq)))
    · show upd _ _ _ _ = _
      rw [upd_same]; simp
    · simp only at hb'; show N ≤ b' + 1; omega
  · refine gtr_f (by omega) (cnd_f ?_)
    refine inc_r (by omega) ?_
    refine sl_pre (n + 1) (by omega) ?_
    refine inc_r (by omega) ?_
    refine sl_suf (A.length + 1) (by omega) (by omega) ?_
    rw [if_neg (by omega)]
    refine overlaps_c hM2' hM hne (by omega) ?_
    refine pv_r rfl (cnd_t ?_)
    refine inc_r (by omega) ?_
    refine sl_suf (A.length + 1) (by omega) (by omega) ?_
    rw [if_neg (by omega)]
    refine sl_suf A.length (by omega) (by omega) ?_
    rw [if_neg (by omega)]
    obtain ⟨X, Y, hXY, hX⟩ := cut3 (B.flatten ++ R) 2 (by simp [hB]; omega)
    obtain ⟨Y1, R1, hY, hY1⟩ := cut3 Y (B.length * 2) (by have := congrArg List.length hXY; simp [hX, hB] at this; omega)
    subst hY
    have hcs : A.flatten ++ B.flatten ++ R = A.flatten ++ X ++ Y1 ++ R1 := by rw [List.append_assoc, hXY]; simp
    have em : min (n + 1 - A.length) (n + 1 - (A.length + 1)) = B.length := by omega
    have hnews : ((B.flatten ++ R).take ((n + 1 - A.length) * 2)).take (B.length * 2) = B.flatten := by
      rw [List.take_take, Nat.min_eq_left (by omega), ← hB, List.take_left]
    refine ⟨b, _, _, _, 74, _, _, n + 1 - A.length, (B.flatten ++ R).take ((n + 1 - A.length) * 2), rfl, hM, ⟨?_, .inr ⟨b, _, _, _, rfl, .inr ⟨.inr ⟨_, _, hM⟩, ?_⟩⟩⟩, ?_, ?_, ?_⟩
    · rw [List.length_take, List.length_append, hB]; omega
    · rw [Nat.zero_add, ← hA, List.append_assoc, List.drop_left]
    · rw [em, hnews]; exact h1B
    · simp [hA, hB]; omega
    rw [em, hnews]
    have es1 : splice (A.flatten ++ B.flatten ++ R) (0 + (A.length + 1) * 2) B.flatten = A.flatten ++ X ++ B.flatten ++ R1 := by
      have : 0 + (A.length + 1) * 2 = (A.flatten ++ X).length := by simp [hA, hX]; omega
      rw [hcs, this, splice_at _ _ _ _ (by omega)]
    rw [es1]
    refine sl_suf A.length (by omega) (by omega) ?_
    rw [if_neg (by omega)]
    refine ⟨b, _, _, _, 74, _, _, 1, r, rfl, upd_same _ _ _, ⟨by rw [hr], .inr ⟨b2, 0, 1, r, rfl, .inr ⟨.inr ⟨_, _, (upd_ne _ _ hne).trans hM2'⟩, by rw [List.drop_zero, List.take_of_length_le (by omega)]⟩⟩⟩, fun c hc => hr1 c (List.mem_of_mem_take hc), by simp [hA, hB, hX]; omega, fun hc2 => ?_⟩
    have em2 : min 1 (n + 1 - A.length) = 1 := by omega
    rw [em2, List.take_of_length_le (by omega : r.length ≤ 1 * 2)] at hc2 ⊢
    have es2 : splice (A.flatten ++ X ++ B.flatten ++ R1) (0 + A.length * 2) r = A.flatten ++ r ++ B.flatten ++ R1 := by
      have h := splice_at A.flatten X r (B.flatten ++ R1) (by omega)
      rw [Nat.zero_add, ← hA]
      simpa using h
    rw [es2] at hc2 ⊢
    refine ⟨_, wk_refl hc2, fun hw' => k R1 b c _ _ (.inl rfl) (fun q hq hqN => ?_) ?_ (by omega) hcm (Nat.le_refl _) hw'⟩
    · exact (upd_ne _ _ hq).trans ((upd_ne _ _ hq).trans (hMo q hq))
    · show upd _ _ _ _ = _
      rw [upd_same]; simp
end Go.Proofs.YtgcmbkoejjcjlaaGreatDoor.A
open Go Go.RowKit Go.Proofs.YtgcmbkoejjcjlaaGreatDoor.K Go.Proofs.YtgcmbkoejjcjlaaGreatDoor.T
set_option linter.unusedVariables false
set_option linter.unusedSimpArgs false
namespace Go.Proofs.YtgcmbkoejjcjlaaGreatDoor.A
variable {F F' : Nat → Option (List Value)} {M M' : Nat → Option Chunk} {N N' : Nat} {K : Kont} {E : PanK}
set_option maxRecDepth 10000 in
theorem ins_c {B b2 i : Nat} {v : Value} {rows : List (List Value)} {r : List Value} {n : Nat} (hv : own M B 74 2 v n rows.flatten) (hm : clean M N) (hB : B ≤ N) (hlen : rows.length = n) (hl : ∀ q ∈ rows, q.length = 2) (h1 : ∀ q ∈ rows, ∀ c ∈ q, c.oneCell' = true)
    (hM2 : M b2 = some (.cells 74 r 2)) (hne : v.ownBlock ≠ some b2) (hr : r.length = 2) (hr1 : ∀ c ∈ r, c.oneCell' = true) (hi : i ≤ n) (hn : n < 100000000000)
    (k : ∀ v' M' N', own M' B 74 2 v' (n + 1) (rows.take i ++ r :: rows.drop i).flatten → (∀ q, v.ownBlock ≠ some q → q < N → M' q = M q ∧ v'.ownBlock ≠ some q) → N ≤ N' → clean M' N' → (Hp.mk F M' N').wf → K v' ⟨F, M', N'⟩) :
    callv Tryz.prog (.func (.func 119) #[] #[]) #[v, .int .i64 (i : Nat), .slice (some ⟨b2, 0, none⟩) 1 1] K E ⟨F, M, N⟩ := by
  have hrw : rows.flatten.length = n * 2 := hv.1
  by_cases hin : i < n
  · rcases hv.2 with ⟨rfl, h0⟩ | ⟨b, c, rest, rfl, g1, g2, g3, g4⟩
    · omega
    have hA : (rows.take i).length = i := by rw [List.length_take]; omega
    have hsp : rows.take i ++ rows.drop i = rows := List.take_append_drop i rows
    have hbN : b < N := hm.lt g4
    have hne' : b2 ≠ b := fun e => hne (by rw [e]; rfl)
    have := insert_c (F := F) (N := N) (K := K) (E := E) (A := rows.take i) (B := rows.drop i) (n := n) (c := c) (rest := rest) (by rw [hsp]; exact g4) hM2 hne' (by rw [hsp]; exact hl) (by rw [hsp]; exact h1) hr hr1 (by rw [hsp]; exact hlen) g1 g2 (by omega) hn (fun rest' b' c' N' X q1 q2 q3 q4 q5 q6 q7 => ?_)
    · rw [hA] at this; exact this
    · refine k _ X N' ⟨?_, .inr ⟨b', c', rest', rfl, q4, q5, ?_, q3⟩⟩ (fun q hq hqN => ⟨q2 q (fun e => hq (by rw [e]; rfl)) hqN, fun e => ?_⟩) q6 q7.m q7
      · have h2 : ∀ q ∈ rows.take i ++ r :: rows.drop i, q.length = 2 := fun q hq => by
          rcases List.mem_append.1 hq with hq | hq
          · exact hl q (List.mem_of_mem_take hq)
          · rcases List.mem_cons.1 hq with rfl | hq
            · exact hr
            · exact hl q (List.mem_of_mem_drop hq)
        rw [flatten_len _ h2, List.length_append, List.length_cons, List.length_take, List.length_drop]; omega
      · rcases q1 with rfl | q1
        · exact g3
        · omega
      · have e' : b' = q := by simpa [Value.ownBlock] using e
        rcases q1 with q1 | q1
        · exact hq (by rw [← e', q1]; rfl)
        · omega
  · have e : i = n := by omega
    subst e
    have hform := hv.form
    obtain ⟨a, c, hvf, hc⟩ := hform
    subst hvf
    refine callv_of_text mixed Tryz.func119 (by kernel_rfl) (t119 _ E _ _ _) (fun hw => ?_)
    refine sl_r i i c (Nat.le_refl _) hc (Nat.le_refl _) ?_ (h4 := fun _ => ⟨rfl, hc⟩)
    try simp only [sS]
    refine eql_f (by omega) ?_
    try simp only [sS]
    refine eql_t rfl ?_
    try simp only [sS]
    refine hv.app (m := 1) (news := r) hm hB ⟨by rw [hr], .inr ⟨b2, 0, 1, r, rfl, Nat.le_refl _, .inr ⟨_, _, hM2⟩, by rw [List.drop_zero, List.take_of_length_le (by omega)]⟩⟩ hr1 (by omega) (by unfold maxLen; omega) (fun v' M' N' h4 h5 h6 h7 => ?_)
    refine fun hc' => ⟨_, wk_refl hc', fun hw' => k v' M' N' ?_ h5 h6 h7 hw'⟩
    rw [List.take_of_length_le (by omega), List.drop_eq_nil_of_le (by omega), List.flatten_append]
    simpa using h4
end Go.Proofs.YtgcmbkoejjcjlaaGreatDoor.A
open Go Go.RowKit Go.Proofs.YtgcmbkoejjcjlaaGreatDoor.K Go.Proofs.YtgcmbkoejjcjlaaGreatDoor.T
set_option linter.unusedVariables false
set_option linter.unusedSimpArgs false
namespace Go.Proofs.YtgcmbkoejjcjlaaGreatDoor.A
variable {F F' : Nat → Option (List Value)} {M M' : Nat → Option Chunk} {N N' : Nat} {K : Kont} {E : PanK}
def inP (l : List Dm) (key : List Int) (i : Nat) : Bool := decide (0 ≤ key.getD i 0 ∧ key.getD i 0 < (l.getD i (0, [])).1)
def inF (l : List Dm) (key : List Int) : Bool := decide (key.length = l.length) && (List.range l.length).all (inP l key)
theorem in1_c {cs : List Value} {d : Dm} {n : Int} (hd : dimD F cs d) (k : ∀ N', N ≤ N' → (Hp.mk F M N').wf → K (.bool (decide (0 ≤ n ∧ n < d.1))) ⟨F, M, N'⟩) :
    callv Tryz.prog (.func (.func 87) #[] #[]) #[.agg cs.toArray, .int .i64 n] K E ⟨F, M, N⟩ := by
  refine callv_of_text mixed Tryz.func87 (by kernel_rfl) (t87 _ E _ _) (fun hw => ?_)
  have hm := hw.m
  obtain ⟨v, rfl, hv, hvl⟩ := hd
  refine nw_r (cs := [.int .i64 d.1, v]) (fun b hb => ?_)
  refine geq_r (fun h1 => ?_) (fun h1 => ?_)
  · try simp only [sS]
    refine ldM (v := .int .i64 d.1) ?_
    refine lss_r (fun h2 => ?_) (fun h2 => ?_)
    · try simp only [sS]
      rw [decide_eq_true ⟨h1, h2⟩] at k
      exact fun hc => ⟨⟨F, M, b + 1⟩, wk_end hc, fun hw' => k _ (by omega) hw'⟩
    · try simp only [sS]
      rw [decide_eq_false fun q => h2 q.2] at k
      exact fun hc => ⟨⟨F, M, b + 1⟩, wk_end hc, fun hw' => k _ (by omega) hw'⟩
  · try simp only [sS]
    rw [decide_eq_false fun q => h1 q.1] at k
    exact fun hc => ⟨⟨F, M, b + 1⟩, wk_end hc, fun hw' => k _ (by omega) hw'⟩
set_option maxRecDepth 10000 in
theorem din_c {v u : Value} {l : List Dm} {m : List Int} (hv : dimsD F v l) (hu : sF F 1 u m.length (ic m)) (hl : l.length ≤ 140737488351232) (k : ∀ N', N ≤ N' → (Hp.mk F M N').wf → K (.bool (inF l m)) ⟨F, M, N'⟩) :
    callv Tryz.prog (.func (.func 55) #[] #[]) #[v, u] K E ⟨F, M, N⟩ := by
  refine callv_of_text mixed Tryz.func55 (by kernel_rfl) (t55 _ E _ _) (fun hw => ?_)
  refine callv_of_text mixed Tryz.func86 (by kernel_rfl) (t86 _ E _ _ _) (fun hw => ?_)
  have hm : clean M N := hw.m
  have hlv : lenV v = some (.int .i64 (l.length : Nat)) := by obtain ⟨a, c, rfl⟩ := hv.form; rfl
  have hlu : lenV u = some (.int .i64 (m.length : Nat)) := by obtain ⟨a, c, rfl, _⟩ := hu.form; rfl
  refine pv_r hlv (pv_r hlu ?_)
  refine neq_r (fun h1 => ?_) (fun h1 => ?_)
  · try simp only [sS]
    refine fun hc => ⟨_, wk_refl hc, fun hw' hc => ⟨_, wk_refl hc, fun hw' => ?_⟩⟩
    have := k _ (Nat.le_refl _) hw'
    rw [show inF l m = false by unfold inF; rw [decide_eq_false (by omega)]; rfl] at this
    exact this
  try simp only [sS]
  refine pv_r hlv ?_
  obtain ⟨rows, hv1, hv2⟩ := hv
  refine l86_1_1_0_1_0_0 (σ := Nat) (fun i => .int .i64 (i : Nat)) (fun i h => ∃ N', h = ⟨F, M, N'⟩ ∧ N ≤ N' ∧ i ≤ l.length ∧ (List.range i).all (inP l m) = true) (fun i => l.length - i) 0 rfl
    (fun hw1 => ⟨_, wk_refl hw1, N, rfl, Nat.le_refl _, Nat.zero_le _, rfl⟩) (fun k1 i j h1' hI hw1 next => ?_)
  rw [t86_1_1_0_1_0_0]
  obtain ⟨N1, rfl, hN1, hi, he⟩ := hI
  have hm1 : clean M N1 := hw1.m
  refine lss_r (fun hlt => ?_) (fun hge => ?_)
  · have i1 : i < l.length := by omega
    have i2 : i < m.length := by omega
    try simp only [sS]
    refine row_r hv1 hv2 (by decide) i1 fun p r _ hR hr2 hr1 => ?_
    have hR' := hR
    obtain ⟨kv, hre, hkv, hkl⟩ := hR
    subst hre
    refine nw_r (fun b1 hb1 => ?_)
    refine stM (cs' := [.int .i64 l[i].1, kv]) ?_ (upd_same _ _ _) rfl rfl hr1
    rw [upd_upd]
    refine ixn_r hu i2 fun p => ?_
    refine ldMa (vs := [.int .i64 l[i].1, kv]) ?_
    refine in1_c hR' (fun N2 hN2 hw2 => ?_)
    have hp : inP l m i = decide (0 ≤ m[i] ∧ m[i] < l[i].1) := by
      unfold inP
      rw [getD_at i1, getD_at i2]
    rw [← hp]
    have hdrop : ∀ {h : Hp}, h = (⟨F, upd M b1 (some (.cells 88 [.int .i64 l[i].1, kv] 2)), N2⟩ : Hp) → h.wf → h.wk ⟨F, M, N2⟩ := fun e hc => by subst e; exact wk_drop hc (subM_drop (subM_refl _) (hm1 _ hb1))
    cases hpi : inP l m i
    · try simp only [sS]
      refine fun hc => ⟨⟨F, M, N2⟩, hdrop rfl hc, fun hw' hc => ⟨_, wk_refl hc, fun hw' => ?_⟩⟩
      have := k N2 (by omega) hw'
      rw [show inF l m = false by unfold inF; rw [all_range_no i1 hpi]; simp] at this
      exact this
    · try simp only [sS]
      refine inc_r (by omega) ?_
      exact next (i + 1) _ _ (by omega) (fun hw3 => ⟨⟨F, M, N2⟩, hdrop rfl hw3, N2, rfl, by omega, i1, all_range_succ he hpi⟩)
  · try simp only [sS]
    rw [show i = l.length by omega] at he
    refine fun hc => ⟨_, wk_refl hc, fun hw' hc => ⟨_, wk_refl hc, fun hw' => ?_⟩⟩
    have := k _ hN1 hw'
    rw [show inF l m = true by unfold inF; rw [he, decide_eq_true (by omega)]; rfl] at this
    exact this
theorem fits1_c {b g : Nat} {e1 : TypeId} {t1 : Nat} {hv dv : Value} {cs : List Value} {l : List Dm} {f : Fc} (hb : M b = some (.cells e1 [.pointer (some ⟨g, 0, none⟩)] t1)) (hg : M g = some (.cells 113 [hv, dv] 2)) (hd : dimsD F dv l) (hl : l.length ≤ 140737488351232) (hf : fctD F cs f)
    (k : ∀ N', N ≤ N' → (Hp.mk F M N').wf → K (.bool (!inF l f.1)) ⟨F, M, N'⟩) : callv Tryz.prog (.func (.func 54) #[] #[.pointer (some ⟨b, 0, none⟩)]) #[.agg cs.toArray] K E ⟨F, M, N⟩ := by
  refine callv_of_text mixed Tryz.func54 (by kernel_rfl) (t54 _ E _ _) (fun hw => ?_)
  have hm : clean M N := hw.m
  have hbN := hm.lt hb
  have hgN := hm.lt hg
  obtain ⟨kv, rfl, hkv, hkl⟩ := hf
  refine nw_r (cs := [kv, .int .i64 f.2]) (fun b2 hb2 => ?_)
  refine ldM (v := .pointer (some ⟨g, 0, none⟩)) ?_ ((upd_ne _ _ (by omega)).trans hb)
  try simp only [sS]
  refine ldM (v := dv) ?_ ((upd_ne _ _ (by omega)).trans hg)
  try simp only [sS]
  refine ldM (v := kv) ?_
  refine din_c hd hkv hl (fun N2 hN2 hw2 => ?_)
  try simp only [sS]
  exact fun hc => ⟨⟨F, M, N2⟩, wk_drop hc (subM_drop (subM_refl _) (hm _ hb2)), fun hw' => k _ (by omega) hw'⟩
end Go.Proofs.YtgcmbkoejjcjlaaGreatDoor.A
open Go Go.RowKit Go.Proofs.YtgcmbkoejjcjlaaGreatDoor.K Go.Proofs.YtgcmbkoejjcjlaaGreatDoor.T
set_option linter.unusedVariables false
set_option linter.unusedSimpArgs false
namespace Go.Proofs.YtgcmbkoejjcjlaaGreatDoor.A
variable {F F' : Nat → Option (List Value)} {M M' : Nat → Option Chunk} {N N' : Nat} {K : Kont} {E : PanK}
def fitsF (l : List Dm) (fs : List Fc) : Bool := decide (fs.length ≤ 200) && fs.all fun f => inF l f.1
theorem fidx_c {b g : Nat} {e1 : TypeId} {t1 : Nat} {v hv dv : Value} {l : List Dm} {fs : List Fc} (hb : M b = some (.cells e1 [.pointer (some ⟨g, 0, none⟩)] t1)) (hg : M g = some (.cells 113 [hv, dv] 2)) (hd : dimsD F dv l) (hl : l.length ≤ 140737488351232) (hf : fctsD F v fs) (hfl : fs.length ≤ 140737488351232)
    (k : ∀ (r : Int) N', N ≤ N' → (Hp.mk F M N').wf → (decide (r ≥ 0) = !fs.all fun f => inF l f.1) → K (.int .i64 r) ⟨F, M, N'⟩) :
    callv Tryz.prog (.func (.func 85) #[] #[]) #[v, .func (.func 54) #[] #[.pointer (some ⟨b, 0, none⟩)]] K E ⟨F, M, N⟩ := by
  refine callv_of_text mixed Tryz.func85 (by kernel_rfl) (t85 _ E _ _) (fun hw => ?_)
  obtain ⟨rows, hv1, hv2⟩ := hf
  refine lenF_r hv1 ?_
  refine l85_1_0_1_0_0 (σ := Nat) (fun i => .int .i64 (i : Nat)) (fun i h => ∃ N', h = ⟨F, M, N'⟩ ∧ N ≤ N' ∧ i ≤ fs.length ∧ (fs.all fun f => inF l f.1) = ((fs.drop i).all fun f => inF l f.1)) (fun i => fs.length - i) 0 rfl
    (fun hw1 => ⟨_, wk_refl hw1, N, rfl, Nat.le_refl _, Nat.zero_le _, rfl⟩) (fun k1 i j h1 hI hw1 next => ?_)
  rw [t85_1_0_1_0_0]
  obtain ⟨N1, rfl, hN1, hi, he⟩ := hI
  refine lss_r (fun hlt => ?_) (fun hge => ?_)
  · have h1 : i < fs.length := by omega
    try simp only [sS]
    refine row_r hv1 hv2 (by decide) h1 fun p r _ hR _ _ => fits1_c hb hg hd hl hR (fun N2 hN2 hw2 => ?_)
    rw [List.drop_eq_getElem_cons h1, List.all_cons] at he
    cases hn : inF l fs[i].1
    · try simp only [sS]
      refine fun hc => ⟨_, wk_refl hc, fun hw' => k _ _ (by omega) hw' ?_⟩
      rw [he, hn, decide_eq_true (by omega)]; rfl
    · try simp only [sS]
      refine inc_r (by omega) ?_
      refine next (i + 1) _ _ (by omega) (fun hw3 => ⟨_, wk_refl hw3, N2, rfl, by omega, by omega, ?_⟩)
      rw [he, hn, Bool.true_and]
  · try simp only [sS]
    refine fun hc => ⟨_, wk_refl hc, fun hw' => k _ _ hN1 hw' ?_⟩
    rw [he, List.drop_eq_nil_of_le (by omega)]; rfl
theorem fits_c {g : Nat} {v hv dv : Value} {l : List Dm} {fs : List Fc} (hg : M g = some (.cells 113 [hv, dv] 2)) (hd : dimsD F dv l) (hl : l.length ≤ 140737488351232) (hf : fctsD F v fs) (hfl : fs.length ≤ 140737488351232)
    (k : ∀ N', N ≤ N' → (Hp.mk F M N').wf → K (.bool (fitsF l fs)) ⟨F, M, N'⟩) :
    callv Tryz.prog (.func (.func 27) #[] #[]) #[.pointer (some ⟨g, 0, none⟩), v] K E ⟨F, M, N⟩ := by
  refine callv_of_text mixed Tryz.func27 (by kernel_rfl) (t27 _ E _ _) (fun hw => ?_)
  have hm : clean M N := hw.m
  have hgN := hm.lt hg
  have hlv : lenV v = some (.int .i64 (fs.length : Nat)) := by obtain ⟨a, c, h⟩ := hf.form; rw [h]; rfl
  unfold fitsF at k
  refine nw_r (cs := [.pointer (some ⟨g, 0, none⟩)]) (fun b1 hb1 => ?_)
  refine pv_r hlv ?_
  refine leq_r (fun h1 => ?_) (fun h1 => ?_)
  · rw [decide_eq_true (by omega), Bool.true_and] at k
    try simp only [sS]
    refine callv_of_text mixed Tryz.func53 (by kernel_rfl) (t53 _ E _ _) (fun hw => ?_)
    refine fidx_c (upd_same _ _ _) ((upd_ne _ _ (by omega)).trans hg) hd hl hf hfl (fun r N2 hN2 hw2 hr => ?_)
    cases ha : fs.all fun f => inF l f.1
    · rw [ha] at hr k
      refine geq_t (by simpa using hr) fun hc => ⟨_, wk_refl hc, fun hw' => ?_⟩
      try simp only [sS]
      exact fun hc => ⟨⟨F, M, N2⟩, wk_drop hc (subM_drop (subM_refl _) (hm _ hb1)), fun hw' => k _ (by omega) hw'⟩
    · rw [ha] at hr k
      refine geq_f (by simpa using hr) fun hc => ⟨_, wk_refl hc, fun hw' => ?_⟩
      try simp only [sS]
      exact fun hc => ⟨⟨F, M, N2⟩, wk_drop hc (subM_drop (subM_refl _) (hm _ hb1)), fun hw' => k _ (by omega) hw'⟩
  · rw [decide_eq_false (by omega), Bool.false_and] at k
    try simp only [sS]
    exact fun hc => ⟨⟨F, M, b1 + 1⟩, wk_drop hc (subM_drop (subM_refl _) (hm _ hb1)), fun hw' => k _ (by omega) hw'⟩
end Go.Proofs.YtgcmbkoejjcjlaaGreatDoor.A
open Go Go.RowKit Go.Proofs.YtgcmbkoejjcjlaaGreatDoor.K Go.Proofs.YtgcmbkoejjcjlaaGreatDoor.T
set_option linter.unusedVariables false
set_option linter.unusedSimpArgs false
namespace Go.Proofs.YtgcmbkoejjcjlaaGreatDoor.A
variable {F F' : Nat → Option (List Value)} {M M' : Nat → Option Chunk} {N N' : Nat} {K : Kont} {E : PanK}
def layE (h : List En) (t : Int) (fs : List Fc) : List En := h.take (place h t) ++ (t, fs) :: h.drop (place h t)
theorem layE_len (h : List En) (t : Int) (fs : List Fc) : (layE h t fs).length = h.length + 1 := by
  have := place_le h t
  unfold layE
  rw [List.length_append, List.length_cons, List.length_take, List.length_drop]; omega
theorem layE_risen {h : List En} {t : Int} {fs : List Fc} (hs : risen h) (ht : there h t = false) : risen (layE h t fs) := by
  have hpl := place_le h t
  unfold layE risen
  have hgt : ∀ x ∈ h.drop (place h t), t < x.1 := fun x hx => by
    obtain ⟨j, hj, rfl⟩ := List.mem_iff_getElem.1 hx
    rw [List.getElem_drop]
    have hj2 : place h t + j < h.length := by rw [List.length_drop] at hj; omega
    have h1 := place_ge (t := t) hs hj2 (by omega)
    have h2 : h[place h t + j].1 ≠ t := fun e => by
      have h3 : place h t < h.length := by omega
      rw [there_in h3] at ht
      have h4 := of_decide_eq_false ht
      have h5 := place_ge (t := t) hs h3 (Nat.le_refl _)
      rcases Nat.eq_zero_or_pos j with h0 | h0
      · subst h0; exact h4 e
      · have := List.pairwise_iff_getElem.1 hs (place h t) (place h t + j) h3 hj2 (by omega)
        omega
    omega
  have hlt : ∀ x ∈ h.take (place h t), x.1 < t := fun x hx => by
    obtain ⟨j, hj, rfl⟩ := List.mem_iff_getElem.1 hx
    rw [List.length_take] at hj
    rw [List.getElem_take]
    exact place_lt (by omega) (by omega)
  refine List.pairwise_append.2 ⟨hs.sublist (List.take_sublist _ _), List.pairwise_cons.2 ⟨fun x hx => hgt x hx, hs.sublist (List.drop_sublist _ _)⟩, fun x hx y hy => ?_⟩
  have h1 := hlt x hx
  rcases List.mem_cons.1 hy with rfl | hy
  · exact h1
  · have := hgt y hy; omega
set_option maxRecDepth 10000 in
theorem hwith_c {B : Nat} {v fv : Value} {rows : List (List Value)} {h : List En} {t : Int} {fs : List Fc} (hv : own M B 74 2 v h.length rows.flatten) (hB : B ≤ N) (hr : rowsF (entD F) 2 rows h) (hs : risen h) (hl : h.length ≤ 10000000000) (ht : there h t = false) (hf : fctsD F fv fs) (hfl : fs.length ≤ 1000000) (hk : ∀ f ∈ fs, f.1.length ≤ 10000000000)
    (k : ∀ v' F' M' N' rows', subF F F' → own M' B 74 2 v' (layE h t fs).length rows'.flatten → rowsF (entD F') 2 rows' (layE h t fs) → (∀ q, v.ownBlock ≠ some q → q < N → M' q = M q ∧ v'.ownBlock ≠ some q) → N ≤ N' → clean M' N' → (Hp.mk F' M' N').wf → K v' ⟨F', M', N'⟩) :
    callv Tryz.prog (.func (.func 93) #[] #[]) #[v, .int .u32 t, fv] K E ⟨F, M, N⟩ := by
  refine callv_of_text mixed Tryz.func93 (by kernel_rfl) (t93 _ E _ _ _) (fun hw => ?_)
  have hm : clean M N := hw.m
  have hpl := place_le h t
  refine find_c hv hr hs (by omega) (fun N1 hN1 hw1 => ?_)
  rw [ht]
  try simp only [sS]
  refine cclone_c hf (by omega) hk (fun v2 F2 N2 hw2 hF2 hN2 hf2 => ?_)
  have hm2 : clean M N2 := hw2.m
  have he : entD F2 [.int .u32 t, v2] (t, fs) := ⟨v2, rfl, hf2, by simp only; omega⟩
  obtain ⟨a2, c2, e2⟩ := hf2.form
  refine pv_r (v := .agg #[.int .u32 t, v2]) (by rw [e2]; kernel_rfl) ?_
  refine nws_r (cs := [.int .u32 t, v2]) (by rw [e2]; kernel_rfl) (fun b3 hb3 => ?_)
  have hr2 : rowsF (entD F2) 2 rows h := hr.mono fun _ _ h => h.mono hF2
  have hvb : v.ownBlock ≠ some b3 := fun e => by have := hv.lt hm _ e; omega
  refine ins_c (i := place h t) (r := [.int .u32 t, v2]) (hv.box hm (by omega) _) (hm2.new hb3 _) (by omega) hr.all.1 hr.len hr.one (upd_same _ _ _) hvb rfl he.one.2 hpl (by omega) (fun v4 M4 N4 g1 g2 g3 g4 g5 => ?_)
  refine fun hc => ⟨_, wk_refl hc, fun hw' => k v4 F2 M4 N4 _ hF2 (by rw [layE_len]; exact g1) ?_ (fun q hq hqN => ?_) (by omega) g4 hw'⟩
  · have h1 := rowsF_snoc1 (rowsF.nil (entD F2) 2) he.one he
    exact rows_app (rows_take hr2 (place h t)) (by have := rows_app h1 (rows_drop hr2 (place h t)); simpa using this)
  · obtain ⟨x1, x2⟩ := g2 q hq (by omega)
    exact ⟨x1.trans (upd_ne _ _ (by omega)), x2⟩
structure isCube (F : Nat → Option (List Value)) (M : Nat → Option Chunk) (B g : Nat) (hv dv : Value) (rows : List (List Value)) (l : List Dm) (h : List En) : Prop where
  gg : M g = some (.cells 113 [hv, dv] 2)
  gB : B ≤ g
  oo : own M B 74 2 hv h.length rows.flatten
  rr : rowsF (entD F) 2 rows h
  vg : hv.ownBlock ≠ some g
  dd : dimsD F dv l
  rs : risen h
def addE (l : List Dm) (h : List En) (t : Int) (fs : List Fc) : Nat := if fitsF l fs = false then 1 else if t = 0 ∨ there h t = true then 130 else if h.length ≥ 5000 then 3 else 0
def addH (l : List Dm) (h : List En) (t : Int) (fs : List Fc) : List En := if addE l h t fs = 0 then layE h t fs else h
end Go.Proofs.YtgcmbkoejjcjlaaGreatDoor.A
open Go Go.RowKit Go.Proofs.YtgcmbkoejjcjlaaGreatDoor.K Go.Proofs.YtgcmbkoejjcjlaaGreatDoor.T
set_option linter.unusedVariables false
set_option linter.unusedSimpArgs false
namespace Go.Proofs.YtgcmbkoejjcjlaaGreatDoor.A
variable {F F' : Nat → Option (List Value)} {M M' : Nat → Option Chunk} {N N' : Nat} {K : Kont} {E : PanK}
theorem fitsF_of {l : List Dm} {fs : List Fc} (h : fitsF l fs = true) : fs.length ≤ 200 ∧ ∀ f ∈ fs, inF l f.1 = true := by
  unfold fitsF at h
  rw [Bool.and_eq_true] at h
  exact ⟨of_decide_eq_true h.1, fun f hf => List.all_eq_true.1 h.2 f hf⟩
theorem of_fitsF {l : List Dm} {fs : List Fc} (h1 : fs.length ≤ 200) (h2 : ∀ f ∈ fs, inF l f.1 = true) : fitsF l fs = true := by
  unfold fitsF
  rw [decide_eq_true h1, List.all_eq_true.2 h2]; rfl
theorem inF_len {l : List Dm} {k : List Int} (h : inF l k = true) : k.length = l.length := by
  unfold inF at h
  rw [Bool.and_eq_true] at h
  exact of_decide_eq_true h.1
set_option maxRecDepth 10000 in
theorem add_to_c {B g : Nat} {hv dv fv : Value} {rows : List (List Value)} {l : List Dm} {h : List En} {t : Int} {fs : List Fc} (hC : isCube F M B g hv dv rows l h) (hB : B ≤ N) (hdl : l.length ≤ 1000) (hl : h.length ≤ 5000) (ht0 : 0 ≤ t) (hf : fctsD F fv fs) (hfl : fs.length ≤ 140737488351232)
    (k : ∀ hv' F' M' N' rows', subF F F' → isCube F' M' B g hv' dv rows' l (addH l h t fs) → (∀ q, hv.ownBlock ≠ some q → q ≠ g → q < N → M' q = M q ∧ hv'.ownBlock ≠ some q) → N ≤ N' → clean M' N' → (Hp.mk F' M' N').wf → K (.int .u16 ((addE l h t fs : Nat) : Int)) ⟨F', M', N'⟩) :
    callv Tryz.prog (.func (.func 66) #[] #[]) #[.pointer (some ⟨g, 0, none⟩), .int .u32 t, fv] K E ⟨F, M, N⟩ := by
  refine callv_of_text mixed Tryz.func66 (by kernel_rfl) (t66 _ E _ _ _) (fun hw => ?_)
  have hm : clean M N := hw.m
  have hlv : lenV hv = some (.int .i64 (h.length : Nat)) := by obtain ⟨a, c, e, _⟩ := hC.oo.form; rw [e]; rfl
  have fin : ∀ n : Nat, n ≠ 0 → n = addE l h t fs → ∀ N', N ≤ N' → ∀ h', h' = (⟨F, M, N'⟩ : Hp) → h'.wf → ∃ h'', h'.wk h'' ∧ (h''.wf → K (.int .u16 ((n : Nat) : Int)) h'') := fun n n0 e N' hN h' e' hc => by
    subst e'
    refine ⟨_, wk_refl hc, fun hw' => ?_⟩
    rw [e]
    refine k hv F M N' rows (subF.refl _) ?_ (fun _ h _ _ => ⟨rfl, h⟩) hN hw'.m hw'
    unfold addH; rw [if_neg (by omega)]; exact hC
  try simp only [sS]
  refine ldM (v := hv) ?_ hC.gg
  refine find_c hC.oo hC.rr hC.rs (by omega) (fun N1 hN1 hw1 => ?_)
  try simp only [sS]
  refine fits_c hC.gg hC.dd (by omega) hf hfl (fun N2 hN2 hw2 => ?_)
  cases h1 : fitsF l fs
  · try simp only [sS]
    exact fin 1 (by decide) (by unfold addE; rw [if_pos h1]) N2 (by omega) _ rfl
  try simp only [sS]
  have last : (h2 : ¬ t = 0) → addE l h t fs = (if there h t = true then 130 else if h.length ≥ 5000 then 3 else 0) := fun h2 => by
    unfold addE; rw [if_neg (by rw [h1]; decide)]
    by_cases h3 : there h t = true
    · rw [if_pos (.inr h3), if_pos h3]
    · rw [if_neg (by rintro (q | q); exact h2 q; exact h3 q), if_neg h3]
  refine eql_r (fun h2 => ?_) (fun h2 => ?_)
  · try simp only [sS]
    rw [t66_1_1_0_0_1_1_1]
    try simp only [sS]
    exact fin 130 (by decide) (by unfold addE; rw [if_neg (by rw [h1]; decide), if_pos (.inl h2)]) N2 (by omega) _ rfl
  · try simp only [sS]
    rw [t66_1_1_0_0_1_1_1]
    cases h3 : there h t
    · try simp only [sS]
      refine ldM (v := hv) ?_ hC.gg
      refine pv_r hlv ?_
      refine geq_r (fun h4 => ?_) (fun h4 => ?_)
      · try simp only [sS]
        exact fin 3 (by decide) (by rw [last h2, if_neg (by rw [h3]; decide), if_pos (by omega)]) N2 (by omega) _ rfl
      · try simp only [sS]
        try simp only [sS]
        refine ldM (v := hv) ?_ hC.gg
        obtain ⟨f1, f2⟩ := fitsF_of h1
        refine hwith_c hC.oo (by omega) hC.rr hC.rs (by omega) h3 hf (by omega) (fun f hf => by have := inF_len (f2 f hf); omega) (fun v' F3 M3 N3 rows' hF3 g1 g2 g3 g4 g5 g6 => ?_)
        have hgN := hm.lt hC.gg
        obtain ⟨x1, x2⟩ := g3 g hC.vg (by omega)
        have hg3 : M3 g = some (.cells 113 [hv, dv] 2) := x1.trans hC.gg
        obtain ⟨a, c, e, _⟩ := g1.form
        try simp only [sS]
        refine stM (cs' := [v', dv]) ?_ hg3 (by rw [e]; rfl) (by rw [e]; rfl) (by rw [e]; exact List.all_eq_true.1 rfl)
        have e0 : addE l h t fs = 0 := by rw [last h2, if_neg (by rw [h3]; decide), if_neg (by omega)]
        refine fun hc => ⟨_, wk_refl hc, fun hw' => ?_⟩
        rw [e0] at k
        refine k v' F3 _ N3 rows' hF3 ?_ (fun q hq hqg hqN => ?_) (by omega) (g5.set (g5.lt hg3) _) hw'
        · unfold addH; rw [if_pos e0]
          exact ⟨upd_same _ _ _, hC.gB, g1.keep (fun q hq => upd_ne _ _ (fun e => x2 (e ▸ hq))) (Nat.le_refl _), g2, x2, hC.dd.mono hF3, layE_risen hC.rs h3⟩
        · obtain ⟨y1, y2⟩ := g3 q hq (by omega)
          exact ⟨(upd_ne _ _ hqg).trans y1, y2⟩
    · try simp only [sS]
      exact fin 130 (by decide) (by rw [last h2, if_pos h3]) N2 (by omega) _ rfl
end Go.Proofs.YtgcmbkoejjcjlaaGreatDoor.A
open Go Go.RowKit Go.Proofs.YtgcmbkoejjcjlaaGreatDoor.K Go.Proofs.YtgcmbkoejjcjlaaGreatDoor.T
set_option linter.unusedVariables false
set_option linter.unusedSimpArgs false
namespace Go.Proofs.YtgcmbkoejjcjlaaGreatDoor.A
variable {F F' : Nat → Option (List Value)} {M M' : Nat → Option Chunk} {N N' : Nat} {K : Kont} {E : PanK}
set_option maxRecDepth 10000 in
theorem new_c {v : Value} {l : List Dm} (hv : dimsD F v l) (hl : l.length ≤ 140737488351232)
    (k1 : okDims l = false → ∀ N', N ≤ N' → (Hp.mk F M N').wf → K (.pointer none) ⟨F, M, N'⟩)
    (k2 : okDims l = true → ∀ g dv F' M' N', subF F F' → isCube F' M' N g (.slice none 0 0) dv [] l [] → (∀ q, q < N → M' q = M q) → N ≤ N' → clean M' N' → (Hp.mk F' M' N').wf → K (.pointer (some ⟨g, 0, none⟩)) ⟨F', M', N'⟩) :
    callv Tryz.prog (.func (.func 30) #[] #[]) #[v] K E ⟨F, M, N⟩ := by
  refine callv_of_text mixed Tryz.func30 (by kernel_rfl) (t30 _ E _) (fun hw => ?_)
  have hm : clean M N := hw.m
  have hlv : lenV v = some (.int .i64 (l.length : Nat)) := by obtain ⟨a, c, rfl⟩ := hv.form; rfl
  refine dsound_c hv hl (fun N1 hN1 hw1 => ?_)
  cases hok : okDims l
  · try simp only [sS]
    exact fun hc => ⟨_, wk_refl hc, fun hw' => k1 hok _ hN1 hw'⟩
  have hl4 := okDims_len hok
  try simp only [sS]
  refine pv_r (v := .agg #[.slice none 0 0, .slice none 0 0]) (by kernel_rfl) ?_
  refine nw_r (cs := [.slice none 0 0, .slice none 0 0]) (fun g hg => ?_)
  refine pv_r hlv ?_
  obtain ⟨drs, hv1, hv2⟩ := hv
  refine l30_1_1_1_0_1_0_0 (σ := Nat) (fun i => .int .i64 (i : Nat))
    (fun i h => ∃ F' M' N' dv rows, h = ⟨F', M', N'⟩ ∧ subF F F' ∧ g < N' ∧ (∀ q, q < N → M' q = M q) ∧ clean M' N' ∧ i ≤ l.length ∧ M' g = some (.cells 113 [.slice none 0 0, dv] 2) ∧ own M' (g + 1) 88 2 dv i rows.flatten ∧ rowsF (dimD F') 2 rows (l.take i)) (fun i => l.length - i) 0 rfl
    (fun hw2 => ⟨_, wk_refl hw2, F, _, g + 1, .slice none 0 0, [], rfl, subF.refl _, Nat.lt_succ_self _, fun q hq => upd_ne _ _ (by omega), (hm.up hN1).new hg _, Nat.zero_le _, upd_same _ _ _, own.nil, rowsF.nil _ _⟩) (fun kk i j h1 hI hw2 next => ?_)
  rw [t30_1_1_1_0_1_0_0]
  obtain ⟨F1, M1, N2, dv, rows, rfl, hF1, hgN, hM1, hm1, hi, hbox, ho, hr⟩ := hI
  obtain ⟨da, dc, hdf, _⟩ := ho.form
  refine lss_r (fun hlt => ?_) (fun hge => ?_)
  · have i1 : i < l.length := by omega
    try simp only [sS]
    refine row_r (hv1.mono hF1) (hv2.mono fun _ _ h => h.mono hF1) (by decide) i1 (fun p r _ hR hrl hr1 => ?_)
    obtain ⟨kv, hre, hkv, hkl⟩ := hR
    subst hre
    refine nw_r (fun b1 hb1 => ?_)
    refine stM (cs' := [.int .i64 l[i].1, kv]) ?_ (upd_same _ _ _) rfl rfl hr1
    rw [upd_upd]
    have hb2 := upd_same M1 b1 (some (.cells 88 [.int .i64 l[i].1, kv] [Value.int .i64 0, Value.slice none 0 0].length))
    have hg2 := (upd_ne M1 (b := b1) (k := g) (some (.cells 88 [.int .i64 l[i].1, kv] [Value.int .i64 0, Value.slice none 0 0].length)) (by omega)).trans hbox
    have hM2 : ∀ q, q < N → upd M1 b1 (some (.cells 88 [.int .i64 l[i].1, kv] [Value.int .i64 0, Value.slice none 0 0].length)) q = M q := fun q hq => (upd_ne _ _ (by omega)).trans (hM1 q hq)
    have ho2 := ho.box hm1 hb1 (some (.cells 88 [.int .i64 l[i].1, kv] [Value.int .i64 0, Value.slice none 0 0].length))
    have hm2 := hm1.new hb1 (some (.cells 88 [.int .i64 l[i].1, kv] [Value.int .i64 0, Value.slice none 0 0].length))
    generalize upd M1 b1 _ = M2 at *
    try simp only [sS]
    refine ldM (v := dv) ?_ hg2
    try simp only [sS]
    refine ldM (v := .int .i64 l[i].1) ?_ hb2
    try simp only [sS]
    refine ldM (v := kv) ?_ hb2
    have hdl := okDim_div (okDims_all hok _ (List.getElem_mem i1))
    refine clone_f hm2 hkv.sR (by omega) (fun kv' F3 N3 hw3 hF3 hN3 hkv' => ?_)
    refine ⟨ldV_c (row_M hb2) rfl, ldV_c (row_M hg2) rfl, ?_⟩
    have h1f : dimD F3 [.int .i64 l[i].1, kv'] l[i] := ⟨kv', rfl, hkv', hkl⟩
    obtain ⟨ak, ck, hkf, hck⟩ := hkv'.form
    refine pv_r (v := .agg #[.int .i64 l[i].1, kv']) (by rw [hkf]; kernel_rfl) ?_
    refine nws_r (cs := [.int .i64 l[i].1, kv']) (by rw [hkf]; kernel_rfl) (fun b4 hb4 => ?_)
    have hg4 := (upd_ne M2 (b := b4) (k := g) (some (.cells 88 [.int .i64 l[i].1, kv'] [Value.int .i64 l[i].1, kv'].length)) (by omega)).trans hg2
    have hM4 : ∀ q, q < N → upd M2 b4 (some (.cells 88 [.int .i64 l[i].1, kv'] [Value.int .i64 l[i].1, kv'].length)) q = M q := fun q hq => (upd_ne _ _ (by omega)).trans (hM2 q hq)
    have hm3 : clean M2 N3 := hw3.m
    have ho4 := ho2.box hm3 hb4 (some (.cells 88 [.int .i64 l[i].1, kv'] [Value.int .i64 l[i].1, kv'].length))
    have hm4 := hm3.new hb4 (some (.cells 88 [.int .i64 l[i].1, kv'] [Value.int .i64 l[i].1, kv'].length))
    have hx := upd_same M2 b4 (some (.cells 88 [.int .i64 l[i].1, kv'] [Value.int .i64 l[i].1, kv'].length))
    refine ⟨ldV_c (row_M hg4) rfl, ?_⟩
    generalize upd M2 b4 _ = M4 at *
    refine ho4.app (m := 1) (news := [.int .i64 l[i].1, kv']) hm4 (by omega) ⟨rfl, .inr ⟨b4, 0, 1, _, rfl, Nat.le_refl _, .inr ⟨_, _, hx⟩, rfl⟩⟩ h1f.one.2 (by omega) (by unfold maxLen; omega) (fun dv' M5 N5 g1 g2 g3 g4 => ?_)
    have hgd : dv.ownBlock ≠ some g := fun e => by have := (ho4.ge g e).1; omega
    obtain ⟨y1, y2⟩ := g2 g hgd (by omega)
    obtain ⟨a5, c5, e5, _⟩ := g1.form
    try simp only [sS]
    refine stM (cs' := [.slice none 0 0, dv']) ?_ (y1.trans hg4) (by rw [e5]; rfl) (by rw [e5]; rfl) (by rw [e5]; exact List.all_eq_true.1 rfl)
    refine inc_r (by omega) ?_
    refine next (i + 1) _ _ (by omega) (fun hw6 => ⟨_, wk_refl hw6, F3, _, N5, dv', rows ++ [[.int .i64 l[i].1, kv']], rfl, hF1.trans hF3, by omega, fun q hq => ?_, g4.set (by omega) _, i1, upd_same _ _ _, ?_, ?_⟩)
    · exact (upd_ne _ _ (by omega)).trans (((g2 q (fun e => by have := (ho4.ge q e).1; omega) (by omega)).1).trans (hM4 q hq))
    · refine own.keep (M := M5) ?_ (fun q hq => upd_ne _ _ (fun e => y2 (e ▸ hq))) (Nat.le_refl _)
      simpa using g1
    · rw [List.take_add_one, List.getElem?_eq_getElem i1, Option.toList_some]
      exact rowsF_snoc1 (hr.mono fun _ _ h => h.mono hF3) h1f.one h1f
  · try simp only [sS]
    rw [show i = l.length by omega] at ho
    rw [List.take_of_length_le (by omega)] at hr
    have hne : ¬ dv.ownBlock = some g := fun e => by have := (ho.ge g e).1; omega
    refine fun hc => ⟨_, wk_P (p := fun q => dv.ownBlock = some q) hc, fun hw' => k2 hok g dv _ _ N2 (hF1.trans (subF_frzP hc)) ⟨(keepM_in hne).trans hbox, by omega, own.nil, rowsF.nil _ _, by simp [Value.ownBlock], ⟨rows, ho.frzP (fun q h => h), hr.mono fun _ _ h => h.mono (subF_frzP hc)⟩, .nil⟩ (fun q hq => (keepM_in (fun e => by have := (ho.ge q e).1; omega)).trans (hM1 q hq)) (by omega) (keepM_clean hm1) hw'⟩
end Go.Proofs.YtgcmbkoejjcjlaaGreatDoor.A
open Go Go.RowKit Go.Proofs.YtgcmbkoejjcjlaaGreatDoor.K Go.Proofs.YtgcmbkoejjcjlaaGreatDoor.T
set_option linter.unusedVariables false
set_option linter.unusedSimpArgs false
namespace Go.Proofs.YtgcmbkoejjcjlaaGreatDoor.A
variable {F F' : Nat → Option (List Value)} {M M' : Nat → Option Chunk} {N N' : Nat} {K : Kont} {E : PanK}
theorem opre_r {B n : Nat} {v : Value} {len : Nat} {rows : List (List Value)} {K : Kont} (hv : own M B 74 2 v len rows.flatten) (hlen : rows.length = len) (hl : ∀ q ∈ rows, q.length = 2) (hn : n ≤ len) (k : ∀ w, own M B 74 2 w n (rows.take n).flatten → K w ⟨F, M, N⟩) :
    pv (slV 2 v none (some (.int .i64 (n : Nat))) none) K ⟨F, M, N⟩ := by
  have hfl : (rows.take n).flatten.length = n * 2 := by
    rw [flatten_len _ (fun q hq => hl q (List.mem_of_mem_take hq)), List.length_take, hlen, Nat.min_eq_left hn]
  rcases hv.2 with ⟨rfl, h0⟩ | ⟨b, c, rest, rfl, h1, h2, h3, h4⟩
  · have hn0 : n = 0 := by omega
    subst hn0
    refine sl_r 0 0 0 (Nat.le_refl _) (Nat.le_refl _) (Nat.le_refl _) ?_
    exact k _ ⟨by simp, .inl ⟨rfl, rfl⟩⟩
  · refine sl_pre n (by omega) ?_
    refine k _ ⟨hfl, .inr ⟨b, c, (rows.drop n).flatten ++ rest, rfl, by omega, h2, h3, ?_⟩⟩
    rw [h4, ← List.append_assoc, ← List.flatten_append, List.take_append_drop]
def upTo (h : List En) (t : Int) : Nat := place h t + (if there h t = true then 1 else 0)
def allAt (h : List En) (t : Int) : List Fc := ((h.take (upTo h t)).map (·.2)).flatten
theorem upTo_le (h : List En) (t : Int) : upTo h t ≤ h.length := by
  have := place_le h t
  unfold upTo
  split
  · rename_i ht
    rcases Nat.lt_or_ge (place h t) h.length with h1 | h1
    · omega
    · rw [there_out (by omega)] at ht; cases ht
  · omega
end Go.Proofs.YtgcmbkoejjcjlaaGreatDoor.A
open Go Go.RowKit Go.Proofs.YtgcmbkoejjcjlaaGreatDoor.K Go.Proofs.YtgcmbkoejjcjlaaGreatDoor.T
set_option linter.unusedVariables false
set_option linter.unusedSimpArgs false
namespace Go.Proofs.YtgcmbkoejjcjlaaGreatDoor.A
variable {F F' : Nat → Option (List Value)} {M M' : Nat → Option Chunk} {N N' : Nat} {K : Kont} {E : PanK}
def allI (h : List En) (i : Nat) : List Fc := ((h.take i).map (·.2)).flatten
theorem allI_succ {h : List En} {i : Nat} (hi : i < h.length) : allI h (i + 1) = allI h i ++ h[i].2 := by
  unfold allI
  rw [List.take_add_one, List.getElem?_eq_getElem hi, Option.toList_some, List.map_append, List.flatten_append]; simp
theorem allI_le (h : List En) (i : Nat) : (allI h i).length ≤ ((h.map (·.2)).flatten).length := by
  have e : h.map (·.2) = (h.take i).map (·.2) ++ (h.drop i).map (·.2) := by rw [← List.map_append, List.take_append_drop]
  rw [e, List.flatten_append, List.length_append]
  unfold allI; omega
set_option maxRecDepth 10000 in
theorem cquery_c {B g : Nat} {hv dv : Value} {cs : List Value} {rows : List (List Value)} {l : List Dm} {h : List En} {t : Int} {m lo hi : List Int} (hC : isCube F M B g hv dv rows l h) (hdl : l.length ≤ 140737488351232) (hl : h.length ≤ 5000) (hT : ((h.map (·.2)).flatten).length ≤ 1000000) (hk : ∀ e ∈ h, ∀ f ∈ e.2, okK f.1) (hq : queryD F cs m lo hi) (hmi : ∀ x ∈ m, i64 x) (hok : ∀ r ∈ tab ((allI h (upTo h t)).map fr1), okK r.1)
    (k : ∀ v' F' N', (Hp.mk F' M N').wf → subF F F' → N ≤ N' → tblD F' v' (runT l (tab ((allI h (upTo h t)).map fr1)) m lo hi) → K (.tuple #[v', .int .u16 ((runE l (tab ((allI h (upTo h t)).map fr1)) m lo hi : Nat) : Int)]) ⟨F', M, N'⟩) :
    callv Tryz.prog (.func (.func 42) #[] #[]) #[.pointer (some ⟨g, 0, none⟩), .agg cs.toArray, .int .u32 t] K E ⟨F, M, N⟩ := by
  refine callv_of_text mixed Tryz.func42 (by kernel_rfl) (t42 _ E _ _ _) (fun hw => ?_)
  have hm : clean M N := hw.m
  have hq' := hq
  obtain ⟨a, b, c, rfl, ha, hb, hc, hml, hlol, hhil⟩ := hq'
  have hgN := hm.lt hC.gg
  have hup := upTo_le h t
  refine nw_r (cs := [a, b, c]) (fun b1 hb1 => ?_)
  have hbox := upd_same M b1 (some (.cells 55 [a, b, c] 3))
  have hg1 := (upd_ne M (b := b1) (k := g) (some (.cells 55 [a, b, c] 3)) (by omega)).trans hC.gg
  have ho1 := hC.oo.box hm hb1 (some (.cells 55 [a, b, c] 3))
  have hM1 : ∀ q, q < N → upd M b1 (some (.cells 55 [a, b, c] 3)) q = M q := fun q hq => upd_ne _ _ (by omega)
  have go : ∀ x : Value, x = .int .i64 (upTo h t : Nat) → ∀ N1, b1 < N1 → clean (upd M b1 (some (.cells 55 [a, b, c] 3))) N1 → ∀ X : (Value → Hp → Prop) → Hp → Prop, True := fun _ _ _ _ _ _ => trivial
  clear go
  try simp only [sS]
  refine ldM (v := hv) ?_ hg1
  refine find_c ho1 hC.rr hC.rs (by omega) (fun N1 hN1 hw1 => ?_)
  have hm1 : clean (upd M b1 (some (.cells 55 [a, b, c] 3))) N1 := hw1.m
  have hb1N : b1 < N1 := hm1.lt hbox
  generalize upd M b1 _ = M1 at *
  obtain ⟨n, hn⟩ : ∃ n, n = upTo h t := ⟨_, rfl⟩
  have hn2 : upTo h t = place h t + (if there h t = true then 1 else 0) := rfl
  cases hth : there h t
  rotate_left
  rw [hth, if_pos rfl] at hn2
  try simp only [sS]
  refine inc_r (by omega) ?_
  rw [← hn2]
  rw [t42_1_1_1]
  rotate_left
  rw [hth, if_neg (by decide), Nat.add_zero] at hn2
  try simp only [sS]
  rw [← hn2]
  rw [t42_1_1_1]
  all_goals
    clear hn2
    rw [← hn] at hok k hup ⊢
    clear hn
    try simp only [sS]
    refine ldM (v := hv) ?_ hg1
    refine opre_r ho1 hC.rr.all.1 hC.rr.len hup (fun w how => ?_)
    obtain ⟨wa, wc, hwf, _⟩ := how.form
    refine pv_r (v := .int .i64 (n : Nat)) (by rw [hwf]; rfl) ?_
    refine l42_1_1_1_1_0_1_0_0 (σ := Nat × Value) (fun s => s.2) (fun s => .int .i64 (s.1 : Nat))
      (fun s h' => ∃ M' N' frs, h' = ⟨F, M', N'⟩ ∧ N1 ≤ N' ∧ (∀ q, q < N1 → M' q = M1 q) ∧ clean M' N' ∧ s.1 ≤ n ∧ own M' N1 90 2 s.2 (allI h s.1).length frs.flatten ∧ rowsF (fctD F) 2 frs (allI h s.1)) (fun s => n - s.1) (0, .slice none 0 0) rfl rfl
      (fun hw2 => ⟨_, wk_refl hw2, M1, N1, [], rfl, Nat.le_refl _, fun _ _ => rfl, hm1, Nat.zero_le _, own.nil, rowsF.nil _ _⟩) (fun kk s j h1 hI hw2 next => ?_)
    obtain ⟨M2, N2, frs, rfl, hN2, hM2, hm2, hi2, hoa, hra⟩ := hI
    have how2 : own M2 B 74 2 w n (rows.take n).flatten := how.keep (fun q e => hM2 q (how.lt hm1 q e)) (Nat.le_refl _)
    refine lss_r (fun hlt => ?_) (fun hge => ?_)
    · have i1 : s.1 < n := by omega
      have i2 : s.1 < h.length := by omega
      try simp only [sS]
      have htk : (h.take n).length = n := by rw [List.length_take]; omega
      refine orow_r (l := h.take n) (by rw [htk]; exact how2) (rows_take hC.rr n) (by decide) (by omega) fun p r _ hR _ hr1 => ?_
      rw [List.getElem_take] at hR
      obtain ⟨fv, rfl, hfv, hfl⟩ := hR
      refine nw_r (fun b4 hb4 => ?_)
      refine stM (cs' := [.int .u32 h[s.1].1, fv]) ?_ (upd_same _ _ _) rfl rfl hr1
      rw [upd_upd]
      try simp only [sS]
      refine ldM (v := fv) ?_
      obtain ⟨frows, hf1, hf2⟩ := hfv
      have e := allI_succ i2
      have hle := allI_le h (s.1 + 1)
      rw [e, List.length_append] at hle
      refine (hoa.box hm2 hb4 _).app (hm2.new hb4 _) (by omega) hf1.sR hf2.f1 (by omega) (by unfold maxLen; omega) (fun w' M3 N3 h4 h5 h6 h7 => ?_)
      refine inc_r (by omega) ?_
      refine next (s.1 + 1, w') _ _ (by simp only; omega) (fun hw4 => ⟨_, wk_refl hw4, M3, N3, frs ++ frows, rfl, by omega, fun q hq => ?_, h7, i1, ?_, ?_⟩)
      · exact ((h5 q (fun e => by have := (hoa.ge q e).1; omega) (by omega)).1).trans ((upd_ne _ _ (by omega)).trans (hM2 q hq))
      · simp only
        rw [e, List.length_append, List.flatten_append]; exact h4
      · simp only
        rw [e]; exact rows_app hra hf2
    · try simp only [sS]
      rw [t42_1_1_1_1_1]
      rw [show s.1 = n by omega] at hoa hra
      have hgq := (hM2 g (by omega)).trans hg1
      have hbq := (hM2 b1 hb1N).trans hbox
      try simp only [sS]
      refine ldM (v := dv) ?_ hgq
      refine ldMa (vs := [a, b, c]) ?_ hbq
      refine callv_go (fun hc' => ⟨_, wk_P (p := fun q => s.2.ownBlock = some q) hc', ?_⟩)
      have hs9 := subF_frzP (p := fun q => s.2.ownBlock = some q) hc'
      have hfa : fctsD (frzP F M2 (fun q => s.2.ownBlock = some q)) s.2 (allI h n) := ⟨frs, hoa.frzP (fun q h => h), hra.mono fun _ _ h => h.mono hs9⟩
      have hnb : ∀ q, q < N1 → ¬ s.2.ownBlock = some q := fun q hq e => by have := (hoa.ge q e).1; omega
      have hg9 := (keepM_in (M := M2) (p := fun q => ¬ s.2.ownBlock = some q) (hnb g (by omega))).trans hgq
      have hb9 := (keepM_in (M := M2) (p := fun q => ¬ s.2.ownBlock = some q) (hnb b1 hb1N)).trans hbq
      have hM9 : ∀ q, q < N → keepM M2 (fun q => ¬ s.2.ownBlock = some q) q = M q := fun q hq => (keepM_in (hnb q (by omega))).trans ((hM2 q (by omega)).trans (hM1 q hq))
      generalize frzP F M2 _ = F9 at *
      generalize keepM M2 _ = M9 at *
      have hal := allI_le h n
      refine make_c hfa (by omega) (fun f hf => ?_) (fun vt F10 N10 hw10 hF10 hN10 ht => ?_)
      · obtain ⟨x, hx, hfx⟩ := List.mem_flatten.1 hf
        obtain ⟨e, he, rfl⟩ := List.mem_map.1 hx
        exact hk e (List.mem_of_mem_take he) f hfx
      refine ⟨ldV_a (row_M hb9) (by exact Nat.le_of_ble_eq_true rfl) rfl, ldV_c (row_M hg9) rfl, ?_⟩
      have F0A := hs9.trans hF10
      have htl := tab_len ((allI h n).map fr1)
      rw [List.length_map] at htl
      refine run_c (hC.dd.mono F0A) hdl ht (by omega) (hq.mono F0A) hmi (fun r hr => (hok r hr).2) (fun _ r hr => (hok r hr).1) (fun v11 F11 N11 hw11 hF11 hN11 h11 => ?_)
      try simp only [sS]
      exact fun hc => ⟨_, frz_wf hm hM9 hc, fun hw' => k _ _ _ hw' ((F0A.trans hF11).trans (subF_frzAll hc)) (by omega) (h11.mono (subF_frzAll hc))⟩
end Go.Proofs.YtgcmbkoejjcjlaaGreatDoor.A
open Go Go.RowKit Go.Proofs.YtgcmbkoejjcjlaaGreatDoor.K Go.Proofs.YtgcmbkoejjcjlaaGreatDoor.T
set_option linter.unusedVariables false
set_option linter.unusedSimpArgs false
namespace Go.Proofs.YtgcmbkoejjcjlaaGreatDoor.A
variable {F F' : Nat → Option (List Value)} {M M' : Nat → Option Chunk} {N N' : Nat} {K : Kont} {E : PanK}
def inR (a b : Int) (f : Fc) : Bool := decide (0 < f.1.length ∧ a ≤ f.1.getD 0 0 ∧ f.1.getD 0 0 < b)
def atT : List En → Int → List Fc
  | [], _ => []
  | e :: h, t => if e.1 = t then e.2 else atT h t
theorem atT_out : ∀ {h : List En} {t : Int}, (∀ e ∈ h, e.1 ≠ t) → atT h t = []
  | [], _, _ => rfl
  | e :: h, t, hn => by
    unfold atT
    rw [if_neg (hn e List.mem_cons_self)]
    exact atT_out fun x hx => hn x (List.mem_cons_of_mem _ hx)
theorem risen_nil : risen [] := List.Pairwise.nil
theorem risen_cons {e : En} {h : List En} : risen (e :: h) ↔ (∀ x ∈ h, e.1 < x.1) ∧ risen h := List.pairwise_cons
def withR : List En → Int → List Fc → List En
  | [], t, fs => [(t, fs)]
  | e :: h, t, fs => if e.1 < t then e :: withR h t fs else if e.1 = t then (t, e.2 ++ fs) :: h else (t, fs) :: e :: h
theorem withR_mem : ∀ {h : List En} {t : Int} {fs : List Fc} {x : En}, x ∈ withR h t fs → x.1 = t ∨ x ∈ h
  | [], t, fs, x, hx => by simp [withR] at hx; exact .inl (by rw [hx])
  | e :: h, t, fs, x, hx => by
    unfold withR at hx
    split at hx
    · rcases List.mem_cons.1 hx with rfl | hx
      · exact .inr List.mem_cons_self
      · exact (withR_mem hx).imp id (List.mem_cons_of_mem _)
    · split at hx
      · rcases List.mem_cons.1 hx with rfl | hx
        · exact .inl rfl
        · exact .inr (List.mem_cons_of_mem _ hx)
      · rcases List.mem_cons.1 hx with rfl | hx
        · exact .inl rfl
        · exact .inr hx
theorem withR_risen : ∀ {h : List En} {t : Int} {fs : List Fc}, risen h → risen (withR h t fs)
  | [], t, fs, _ => risen_cons.2 ⟨by simp, risen_nil⟩
  | e :: h, t, fs, hs => by
    obtain ⟨h1, h2⟩ := risen_cons.1 hs
    unfold withR
    split
    · refine risen_cons.2 ⟨fun x hx => ?_, withR_risen h2⟩
      rcases withR_mem hx with hx | hx
      · omega
      · exact h1 x hx
    · split
      · rename_i he
        exact risen_cons.2 ⟨fun x hx => by have := h1 x hx; simp only; omega, h2⟩
      · refine risen_cons.2 ⟨fun x hx => ?_, hs⟩
        rcases List.mem_cons.1 hx with rfl | hx
        · simp only; omega
        · have := h1 x hx; simp only; omega
theorem withR_at : ∀ {h : List En} {t : Int} {fs : List Fc} (s : Int), risen h → atT (withR h t fs) s = if s = t then atT h t ++ fs else atT h s
  | [], t, fs, s, _ => by
    simp only [withR, atT]
    by_cases h : s = t
    · rw [if_pos h.symm, if_pos h]; rfl
    · rw [if_neg (fun e => h e.symm), if_neg h]
  | e :: h, t, fs, s, hs => by
    obtain ⟨h1, h2⟩ := risen_cons.1 hs
    unfold withR
    split
    · rename_i hlt
      simp only [atT]
      rw [withR_at s h2, if_neg (by omega : ¬ e.1 = t)]
      by_cases hes : e.1 = s
      · rw [if_pos hes, if_neg (by omega), if_pos hes]
      · rw [if_neg hes]
        by_cases hst : s = t
        · rw [if_pos hst, if_pos hst]
        · rw [if_neg hst, if_neg hst, if_neg hes]
    · split
      · rename_i he
        simp only [atT]
        by_cases hst : s = t
        · rw [if_pos hst.symm, if_pos hst, if_pos he]
        · rw [if_neg (fun q => hst q.symm), if_neg hst, if_neg (by omega)]
      · rename_i h3 h4
        have ho : atT (e :: h) t = [] := atT_out fun x hx => by
          rcases List.mem_cons.1 hx with rfl | hx
          · exact h4
          · have := h1 x hx; omega
        rw [ho]
        by_cases hst : s = t
        · subst hst; simp [atT]
        · rw [if_neg hst]
          show (if t = s then fs else atT (e :: h) s) = _
          rw [if_neg (fun q => hst q.symm)]
theorem withR_len : ∀ (h : List En) (t : Int) (fs : List Fc), (withR h t fs).length ≤ h.length + 1
  | [], t, fs => by simp [withR]
  | e :: h, t, fs => by
    unfold withR
    split
    · have := withR_len h t fs; simp only [List.length_cons]; omega
    · split <;> simp
def oldAt (h : List En) (t : Int) : List Fc := if there h t = true then (h.getD (place h t) (0, [])).2 else []
def withH (h : List En) (t : Int) (fs : List Fc) : List En := h.take (place h t) ++ (t, oldAt h t ++ fs) :: h.drop (upTo h t)
theorem place_cons (e : En) (h : List En) (t : Int) : place (e :: h) t = if e.1 < t then place h t + 1 else 0 := rfl
theorem there_cons (e : En) (h : List En) (t : Int) : there (e :: h) t = if e.1 < t then there h t else decide (e.1 = t) := by
  unfold there
  rw [place_cons]
  by_cases h1 : e.1 < t
  · rw [if_pos h1, if_pos h1, List.getElem?_cons_succ]
  · rw [if_neg h1, if_neg h1]; rfl
theorem upTo_cons (e : En) (h : List En) (t : Int) : upTo (e :: h) t = if e.1 < t then upTo h t + 1 else if e.1 = t then 1 else 0 := by
  unfold upTo
  rw [place_cons, there_cons]
  split
  · omega
  · by_cases h : e.1 = t <;> simp [h]
theorem withH_eq : ∀ (h : List En) (t : Int) (fs : List Fc), withH h t fs = withR h t fs
  | [], t, fs => by simp [withH, withR, place, oldAt, there, upTo]
  | e :: h, t, fs => by
    have ih := withH_eq h t fs
    unfold withH oldAt at ih ⊢
    unfold withR
    rw [place_cons, there_cons, upTo_cons]
    by_cases h1 : e.1 < t
    · rw [if_pos h1, if_pos h1, if_pos h1, if_pos h1, ← ih]
      simp
    · rw [if_neg h1, if_neg h1, if_neg h1, if_neg h1]
      by_cases h2 : e.1 = t
      · simp [h2]
      · simp [h2]
theorem withH_new {h : List En} {t : Int} {fs : List Fc} (ht : there h t = false) : withH h t fs = layE h t fs := by
  unfold withH oldAt upTo layE
  rw [ht]; simp
theorem withH_old {h : List En} {t : Int} {fs : List Fc} (ht : there h t = true) (hi : place h t < h.length) : withH h t fs = h.set (place h t) (t, h[place h t].2 ++ fs) := by
  unfold withH oldAt upTo
  rw [ht, if_pos rfl, if_pos rfl, getD_at hi, List.set_eq_take_append_cons_drop, if_pos hi]
theorem there_lt {h : List En} {t : Int} (ht : there h t = true) : place h t < h.length := by
  rcases Nat.lt_or_ge (place h t) h.length with h1 | h1
  · exact h1
  · rw [there_out (by omega)] at ht; cases ht
theorem fm_risen {f : En → Option En} (hf : ∀ e x, f e = some x → x.1 = e.1) {h : List En} (hs : risen h) : risen (h.filterMap f) :=
  List.Pairwise.filterMap f (fun a a' hr b hb b' hb' => by rw [hf a b hb, hf a' b' hb']; exact hr) hs
theorem fm_mem {f : En → Option En} {h : List En} {x : En} (hx : x ∈ h.filterMap f) : ∃ e ∈ h, f e = some x := List.mem_filterMap.1 hx
def entE (a b : Int) (e : En) : Option En := if 0 < (e.2.filter (inR a b)).length then some (e.1, e.2.filter (inR a b)) else none
def entF (a b : Int) (h : List En) : List En := h.filterMap (entE a b)
def outR (a b : Int) (f : Fc) : Bool := !inR a b f
def restE (a b : Int) (e : En) : Option En := if 0 < (e.2.filter (outR a b)).length ∨ e.2.length = 0 then some (e.1, e.2.filter (outR a b)) else none
def restH (a b : Int) (h : List En) : List En := h.filterMap (restE a b)
theorem restE_or (a b : Int) (e : En) : (restE a b e = none ∧ e.2.filter (outR a b) = []) ∨ restE a b e = some (e.1, e.2.filter (outR a b)) := by
  unfold restE
  by_cases h : 0 < (e.2.filter (outR a b)).length ∨ e.2.length = 0
  · rw [if_pos h]; exact .inr rfl
  · rw [if_neg h]; exact .inl ⟨rfl, List.eq_nil_of_length_eq_zero (by omega)⟩
theorem or_time {f : En → Option En} {g : List Fc → List Fc} (hf : ∀ e, (f e = none ∧ g e.2 = []) ∨ f e = some (e.1, g e.2)) (e x : En) (h : f e = some x) : x = (e.1, g e.2) := by
  rcases hf e with ⟨h1, _⟩ | h1
  · rw [h1] at h; cases h
  · rw [h1] at h; cases h; rfl
theorem restH_risen {a b : Int} {h : List En} (hs : risen h) : risen (restH a b h) := fm_risen (fun e x hx => by rw [or_time (restE_or a b) e x hx]) hs
theorem restH_mem {a b : Int} {h : List En} {x : En} (hx : x ∈ restH a b h) : ∃ e ∈ h, x = (e.1, e.2.filter (outR a b)) := by
  obtain ⟨e, he, hf⟩ := fm_mem hx
  exact ⟨e, he, or_time (restE_or a b) e x hf⟩
def lay1 (h : List En) (e : En) : List En := if 0 < e.2.length then withR h e.1 e.2 else h
def layAll (h es : List En) : List En := es.foldl lay1 h
theorem lay1_at {h : List En} {e : En} (hs : risen h) (s : Int) : atT (lay1 h e) s = if s = e.1 then atT h s ++ e.2 else atT h s := by
  unfold lay1
  split
  · rw [withR_at s hs]
    by_cases hse : s = e.1
    · rw [if_pos hse, if_pos hse, hse]
    · rw [if_neg hse, if_neg hse]
  · rename_i h0
    rw [List.eq_nil_of_length_eq_zero (by omega : e.2.length = 0)]
    split <;> simp
theorem lay1_risen {h : List En} {e : En} (hs : risen h) : risen (lay1 h e) := by
  unfold lay1; split
  · exact withR_risen hs
  · exact hs
theorem layAll_risen : ∀ {es h : List En}, risen h → risen (layAll h es)
  | [], h, hs => hs
  | e :: es, h, hs => layAll_risen (es := es) (lay1_risen hs)
theorem layAll_at : ∀ {es h : List En} (s : Int), risen h → risen es → atT (layAll h es) s = atT h s ++ atT es s
  | [], h, s, _, _ => by simp [layAll, atT]
  | e :: es, h, s, hs, he => by
    obtain ⟨h1, h2⟩ := risen_cons.1 he
    have := layAll_at (es := es) s (lay1_risen (e := e) hs) h2
    show atT (layAll (lay1 h e) es) s = _
    rw [this, lay1_at hs]
    simp only [atT]
    by_cases hse : s = e.1
    · rw [if_pos hse, if_pos hse.symm, atT_out (h := es) fun x hx => by have := h1 x hx; omega, List.append_nil]
    · rw [if_neg hse, if_neg (fun q => hse q.symm)]
theorem layAll_len : ∀ (es h : List En), (layAll h es).length ≤ h.length + es.length
  | [], h => by simp [layAll]
  | e :: es, h => by
    have h1 := layAll_len es (lay1 h e)
    have h2 : (lay1 h e).length ≤ h.length + 1 := by
      unfold lay1; split
      · exact withR_len _ _ _
      · omega
    show (layAll (lay1 h e) es).length ≤ _
    simp only [List.length_cons]; omega
end Go.Proofs.YtgcmbkoejjcjlaaGreatDoor.A
open Go Go.RowKit Go.Proofs.YtgcmbkoejjcjlaaGreatDoor.K Go.Proofs.YtgcmbkoejjcjlaaGreatDoor.T
set_option linter.unusedVariables false
set_option linter.unusedSimpArgs false
namespace Go.Proofs.YtgcmbkoejjcjlaaGreatDoor.A
variable {F F' : Nat → Option (List Value)} {M M' : Nat → Option Chunk} {N N' : Nat} {K : Kont} {E : PanK}
def rightF (l : List Dm) (a b : Int) : Int → List En → Bool
  | _, [] => true
  | last, e :: es => decide (last < e.1) && fitsF l e.2 && (e.2.all (inR a b) && rightF l a b e.1 es)
def replH (a b : Int) (h es : List En) : List En := layAll (restH a b h) es
def longH (h : List En) : Bool := h.any fun e => decide (200 < e.2.length)
def replE (l : List Dm) (a b : Int) (h es : List En) : Nat := if rightF l a b 0 es = false then 1 else if 5000 < (replH a b h es).length ∨ longH (replH a b h es) = true then 3 else 0
def replF (l : List Dm) (a b : Int) (h es : List En) : List En := if replE l a b h es = 0 then replH a b h es else h
theorem rightF_cons {l : List Dm} {a b last : Int} {e : En} {es : List En} (h : rightF l a b last (e :: es) = true) : last < e.1 ∧ fitsF l e.2 = true ∧ (∀ f ∈ e.2, inR a b f = true) ∧ rightF l a b e.1 es = true := by
  unfold rightF at h
  rw [Bool.and_eq_true, Bool.and_eq_true, Bool.and_eq_true] at h
  exact ⟨of_decide_eq_true h.1.1, h.1.2, List.all_eq_true.1 h.2.1, h.2.2⟩
theorem rightF_all {l : List Dm} {a b : Int} : ∀ {es : List En} {last : Int}, rightF l a b last es = true → risen es ∧ ∀ e ∈ es, last < e.1 ∧ fitsF l e.2 = true ∧ ∀ f ∈ e.2, inR a b f = true
  | [], _, _ => ⟨risen_nil, by simp⟩
  | e :: es, last, h => by
    obtain ⟨h1, h2, h3, h4⟩ := rightF_cons h
    obtain ⟨g1, g2⟩ := rightF_all h4
    refine ⟨risen_cons.2 ⟨fun x hx => (g2 x hx).1, g1⟩, fun x hx => ?_⟩
    rcases List.mem_cons.1 hx with rfl | hx
    · exact ⟨h1, h2, h3⟩
    · obtain ⟨a1, a2, a3⟩ := g2 x hx
      exact ⟨by omega, a2, a3⟩
structure okH (l : List Dm) (n m : Nat) (h : List En) : Prop where
  rs : risen h
  ti : ∀ e ∈ h, 0 < e.1
  fi : ∀ e ∈ h, ∀ f ∈ e.2, inF l f.1 = true
  le : h.length ≤ n
  fl : ∀ e ∈ h, e.2.length ≤ m
theorem okH.nil (l : List Dm) (n m : Nat) : okH l n m [] := ⟨risen_nil, by simp, by simp, Nat.zero_le _, by simp⟩
theorem okH.up {l : List Dm} {n m n' m' : Nat} {h : List En} (k : okH l n m h) (h1 : n ≤ n') (h2 : m ≤ m') : okH l n' m' h := ⟨k.rs, k.ti, k.fi, by have := k.le; omega, fun e he => by have := k.fl e he; omega⟩
theorem withR_all {P : En → Prop} {t : Int} {fs : List Fc} (h0 : P (t, fs)) (ha : ∀ e : En, e.1 = t → P e → P (t, e.2 ++ fs)) : ∀ {h : List En}, (∀ e ∈ h, P e) → ∀ e ∈ withR h t fs, P e
  | [], _, e, he => by simp [withR] at he; rw [he]; exact h0
  | d :: h, hp, e, he => by
    unfold withR at he
    split at he
    · rcases List.mem_cons.1 he with rfl | he
      · exact hp _ List.mem_cons_self
      · exact withR_all h0 ha (fun x hx => hp x (List.mem_cons_of_mem _ hx)) e he
    · split at he
      · rename_i hd
        rcases List.mem_cons.1 he with rfl | he
        · exact ha d hd (hp d List.mem_cons_self)
        · exact hp e (List.mem_cons_of_mem _ he)
      · rcases List.mem_cons.1 he with rfl | he
        · exact h0
        · exact hp e he
theorem okH.withR {l : List Dm} {n m k : Nat} {h : List En} (o : okH l n m h) {t : Int} {fs : List Fc} (ht : 0 < t) (hf : ∀ f ∈ fs, inF l f.1 = true) (hk : fs.length ≤ k) : okH l (n + 1) (m + k) (A.withR h t fs) := by
  refine ⟨withR_risen o.rs, ?_, ?_, by have := withR_len h t fs; have := o.le; omega, ?_⟩
  · exact withR_all (P := fun e => 0 < e.1) ht (fun _ _ _ => ht) o.ti
  · refine withR_all (P := fun e => ∀ f ∈ e.2, inF l f.1 = true) hf (fun e _ he f hx => ?_) o.fi
    rcases List.mem_append.1 hx with hx | hx
    · exact he f hx
    · exact hf f hx
  · intro e he
    have key : ∀ {h : List En}, (∀ e ∈ h, e.2.length ≤ m) → ∀ e ∈ A.withR h t fs, e.2.length ≤ m + k := by
      intro h
      induction h with
      | nil => intro _ e he; simp [A.withR] at he; rw [he]; simp only; omega
      | cons d h ih =>
        intro hp e he
        unfold A.withR at he
        split at he
        · rcases List.mem_cons.1 he with rfl | he
          · have := hp _ List.mem_cons_self; omega
          · exact ih (fun x hx => hp x (List.mem_cons_of_mem _ hx)) e he
        · split at he
          · rcases List.mem_cons.1 he with rfl | he
            · have := hp d List.mem_cons_self; simp only [List.length_append]; omega
            · have := hp e (List.mem_cons_of_mem _ he); omega
          · rcases List.mem_cons.1 he with rfl | he
            · simp only; omega
            · have := hp e he; omega
    exact key o.fl e he
theorem addE_eq {l : List Dm} {h : List En} {t : Int} {fs : List Fc} (e : addE l h t fs = 0) : fitsF l fs = true ∧ t ≠ 0 ∧ there h t = false ∧ h.length < 5000 := by
  unfold addE at e
  split at e
  · omega
  · rename_i h1
    split at e
    · omega
    · rename_i h2
      split at e
      · omega
      · refine ⟨by simpa using h1, fun q => h2 (.inl q), ?_, by omega⟩
        cases h3 : there h t
        · rfl
        · exact absurd (.inr h3) h2
theorem addH_eq {l : List Dm} {h : List En} {t : Int} {fs : List Fc} (e : addE l h t fs = 0) : addH l h t fs = withR h t fs := by
  unfold addH
  rw [if_pos e, ← withH_new (addE_eq e).2.2.1, withH_eq]
theorem withR_out {h : List En} {t : Int} {fs : List Fc} (hs : risen h) (ht : there h t = false) {m : Nat} (hm : ∀ e ∈ h, e.2.length ≤ m) (hk : fs.length ≤ m) : ∀ e ∈ withR h t fs, e.2.length ≤ m := by
  intro e he
  rw [← withH_eq, withH_new ht] at he
  unfold layE at he
  rcases List.mem_append.1 he with he | he
  · exact hm e (List.mem_of_mem_take he)
  · rcases List.mem_cons.1 he with rfl | he
    · exact hk
    · exact hm e (List.mem_of_mem_drop he)
theorem okH.add {l : List Dm} {h : List En} (o : okH l 5000 200 h) {t : Int} (ht : 0 ≤ t) (fs : List Fc) : okH l 5000 200 (addH l h t fs) := by
  by_cases e : addE l h t fs = 0
  · obtain ⟨h1, h2, h3, h4⟩ := addE_eq e
    obtain ⟨f1, f2⟩ := fitsF_of h1
    have w := o.withR (t := t) (by omega) f2 f1
    rw [addH_eq e]
    exact ⟨w.rs, w.ti, w.fi, by have := withR_len h t fs; omega, withR_out o.rs h3 o.fl f1⟩
  · unfold addH; rw [if_neg e]; exact o
theorem okH.rest {l : List Dm} {n m : Nat} {h : List En} (o : okH l n m h) (a b : Int) : okH l n m (restH a b h) := by
  refine ⟨restH_risen o.rs, fun x hx => ?_, fun x hx => ?_, ?_, fun x hx => ?_⟩
  · obtain ⟨e, he, rfl⟩ := restH_mem hx; exact o.ti e he
  · obtain ⟨e, he, rfl⟩ := restH_mem hx; exact fun f hf => o.fi e he f (List.mem_filter.1 hf).1
  · have := List.length_filterMap_le (restE a b) h; have := o.le; unfold restH; omega
  · obtain ⟨e, he, rfl⟩ := restH_mem hx
    have := o.fl e he
    have := List.length_filter_le (outR a b) e.2
    simp only; omega
theorem layAll_fi {l : List Dm} : ∀ {es h : List En}, (∀ e ∈ h, 0 < e.1 ∧ ∀ f ∈ e.2, inF l f.1 = true) → (∀ e ∈ es, 0 < e.1 ∧ ∀ f ∈ e.2, inF l f.1 = true) → ∀ e ∈ layAll h es, 0 < e.1 ∧ ∀ f ∈ e.2, inF l f.1 = true
  | [], h, h1, _ => h1
  | d :: es, h, h1, h2 => by
    obtain ⟨d1, d2⟩ := h2 d List.mem_cons_self
    refine layAll_fi (es := es) (h := lay1 h d) ?_ fun x hx => h2 x (List.mem_cons_of_mem _ hx)
    unfold lay1
    split
    · refine withR_all (P := fun e => 0 < e.1 ∧ ∀ f ∈ e.2, inF l f.1 = true) ⟨d1, d2⟩ (fun e _ he => ⟨d1, fun f hx => ?_⟩) h1
      rcases List.mem_append.1 hx with hx | hx
      · exact he.2 f hx
      · exact d2 f hx
    · exact h1
theorem replE_zero {l : List Dm} {a b : Int} {h es : List En} (e : replE l a b h es = 0) : rightF l a b 0 es = true ∧ (replH a b h es).length ≤ 5000 ∧ ∀ x ∈ replH a b h es, x.2.length ≤ 200 := by
  unfold replE at e
  split at e
  · omega
  · rename_i h1
    split at e
    · omega
    · rename_i h2
      refine ⟨by simpa using h1, by omega, fun x hx => ?_⟩
      rcases Nat.lt_or_ge 200 x.2.length with h3 | h3
      · exact absurd (.inr (List.any_eq_true.2 ⟨x, hx, decide_eq_true h3⟩)) h2
      · exact h3
theorem okH.repl {l : List Dm} {h : List En} (o : okH l 5000 200 h) (a b : Int) (es : List En) : okH l 5000 200 (replF l a b h es) := by
  unfold replF
  by_cases e : replE l a b h es = 0
  · rw [if_pos e]
    obtain ⟨h1, h2, h3⟩ := replE_zero e
    obtain ⟨g1, g2⟩ := rightF_all h1
    have hr := o.rest a b
    have hf := layAll_fi (l := l) (h := restH a b h) (es := es) (fun e he => ⟨hr.ti e he, hr.fi e he⟩) (fun e he => ⟨(g2 e he).1, (fitsF_of (g2 e he).2.1).2⟩)
    exact ⟨layAll_risen hr.rs, fun e he => (hf e he).1, fun e he => (hf e he).2, h2, h3⟩
  · rw [if_neg e]; exact o
def allF (h : List En) : List Fc := (h.map (·.2)).flatten
def tillF (h : List En) (t : Int) : List Fc := allF (h.filter fun e => decide (e.1 ≤ t))
theorem upTo_filter : ∀ {h : List En} (t : Int), risen h → h.take (upTo h t) = h.filter fun e => decide (e.1 ≤ t)
  | [], t, _ => by simp
  | e :: h, t, hs => by
    obtain ⟨h1, h2⟩ := risen_cons.1 hs
    rw [upTo_cons]
    have out : t ≤ e.1 → (h.filter fun e => decide (e.1 ≤ t)) = [] := fun hle => List.filter_eq_nil_iff.2 fun x hx => by have := h1 x hx; simp; omega
    by_cases hl : e.1 < t
    · rw [if_pos hl, List.take_succ_cons, upTo_filter t h2, List.filter_cons_of_pos (by simp; omega)]
    · rw [if_neg hl]
      by_cases he : e.1 = t
      · rw [if_pos he, List.filter_cons_of_pos (by simp; omega), out (by omega)]; simp
      · rw [if_neg he, List.filter_cons_of_neg (by simp; omega), out (by omega)]; simp
theorem allI_till {h : List En} (hs : risen h) (t : Int) : allI h (upTo h t) = tillF h t := by
  unfold allI tillF allF
  rw [upTo_filter t hs]
theorem allF_cons (e : En) (h : List En) : allF (e :: h) = e.2 ++ allF h := rfl
theorem atT_of : ∀ {h : List En} {e : En}, risen h → e ∈ h → atT h e.1 = e.2
  | [], _, _, he => by simp at he
  | d :: h, e, hs, he => by
    obtain ⟨h1, h2⟩ := risen_cons.1 hs
    unfold atT
    rcases List.mem_cons.1 he with rfl | he
    · rw [if_pos rfl]
    · have := h1 e he
      rw [if_neg (by omega)]; exact atT_of h2 he
theorem atT_len {m : Nat} : ∀ {h : List En} (s : Int), (∀ e ∈ h, e.2.length ≤ m) → (atT h s).length ≤ m
  | [], s, _ => by simp [atT]
  | d :: h, s, hp => by
    unfold atT
    split
    · exact hp d List.mem_cons_self
    · exact atT_len s fun x hx => hp x (List.mem_cons_of_mem _ hx)
theorem layAll_fl {n k : Nat} {es h : List En} (hs : risen h) (he : risen es) (h1 : ∀ e ∈ h, e.2.length ≤ n) (h2 : ∀ e ∈ es, e.2.length ≤ k) : ∀ e ∈ layAll h es, e.2.length ≤ n + k := fun e hx => by
  have h3 := atT_of (layAll_risen (es := es) hs) hx
  rw [layAll_at _ hs he] at h3
  have h4 := congrArg List.length h3
  rw [List.length_append] at h4
  have h5 := atT_len e.1 h1
  have h6 := atT_len e.1 h2
  omega
theorem rightF_len {l : List Dm} {a b T : Int} : ∀ {es : List En} {last : Int}, rightF l a b last es = true → last < T → (∀ e ∈ es, e.1 < T) → (es.length : Int) + last < T
  | [], last, _, h1, _ => by simp; exact h1
  | e :: es, last, h, h1, h2 => by
    obtain ⟨g1, _, _, g4⟩ := rightF_cons h
    have := rightF_len g4 (h2 e List.mem_cons_self) fun x hx => h2 x (List.mem_cons_of_mem _ hx)
    rw [List.length_cons]; omega
end Go.Proofs.YtgcmbkoejjcjlaaGreatDoor.A
open Go Go.RowKit Go.Proofs.YtgcmbkoejjcjlaaGreatDoor.K Go.Proofs.YtgcmbkoejjcjlaaGreatDoor.T
set_option linter.unusedVariables false
set_option linter.unusedSimpArgs false
namespace Go.Proofs.YtgcmbkoejjcjlaaGreatDoor.A
variable {F F' : Nat → Option (List Value)} {M M' : Nat → Option Chunk} {N N' : Nat} {K : Kont} {E : PanK}
section
variable {h : Hp}
theorem h_fa {b o off : Nat} (k : K (.pointer (some ⟨b, o + off, none⟩)) h) : pv (faV off (.pointer (some ⟨b, o, none⟩))) K h := ⟨_, rfl, k⟩
end
end Go.Proofs.YtgcmbkoejjcjlaaGreatDoor.A
open Go Go.RowKit Go.Proofs.YtgcmbkoejjcjlaaGreatDoor.K Go.Proofs.YtgcmbkoejjcjlaaGreatDoor.T
set_option linter.unusedVariables false
set_option linter.unusedSimpArgs false
namespace Go.Proofs.YtgcmbkoejjcjlaaGreatDoor.A
variable {F F' : Nat → Option (List Value)} {M M' : Nat → Option Chunk} {N N' : Nat} {K : Kont} {E : PanK}
theorem flat_takeF {α : Type} (l : List (List α)) {i : Nat} (h : i < l.length) : (l.take (i + 1)).flatten = (l.take i).flatten ++ l[i] := by
  rw [List.take_add_one, List.getElem?_eq_getElem h, Option.toList_some, List.flatten_append]; simp
theorem growF_c {n : Nat} (hm : clean M N) (hn : n ≤ 1000000000000) (k : ∀ v' M' N', own M' N 90 2 v' 0 [] → (∀ q, q < N → M' q = M q) → N ≤ N' → clean M' N' → (Hp.mk F M' N').wf → K v' ⟨F, M', N'⟩) :
    callv Tryz.prog (.func (.func 152) #[] #[]) #[.slice none 0 0, .int .i64 (n : Nat)] K E ⟨F, M, N⟩ := by
  refine callv_of_text mixed Tryz.func152 (by kernel_rfl) (t152 _ E _ _) (fun hw => ?_)
  refine lss_f (by omega) ?_
  try simp only [sS]
  rw [t152_1_1]
  try simp only [sS]
  refine sub_n (a := 0) (b := 0) (by omega) (by omega) ?_
  refine sub_n (a := n) (b := 0) (by omega) (by omega) ?_
  rw [Nat.sub_zero]
  refine gtr_r (fun h0 => ?_) (fun h0 => ?_)
  · try simp only [sS]
    refine sl_r 0 0 0 (Nat.le_refl _) (Nat.le_refl _) (Nat.le_refl _) ?_
    refine ⟨none, 0, 0, [], n, .i64, rfl, rfl, ⟨by simp, .inl ⟨_, _, rfl, rfl⟩⟩, Nat.le_refl _, by omega, by omega, by simp [maxLen]; omega, fun b c hb0 hc hcm => ?_⟩
    have hb : N ≤ b := hb0
    try simp only [sS]
    refine sl_pre 0 (Nat.zero_le _) ?_
    try simp only [sS]
    rw [t152_1_1_1]
    refine fun hc' => ⟨_, wk_refl hc', fun hw' => k _ _ _ ⟨by simp, .inr ⟨b, c, _, rfl, Nat.zero_le _, hcm, hb, upd_same _ _ _⟩⟩ (fun q hq => upd_ne _ _ (by omega)) (Nat.le_succ_of_le hb) (hm.new hb _) hw'⟩
  · try simp only [sS]
    rw [t152_1_1_1]
    exact fun hc' => ⟨_, wk_refl hc', fun hw' => k _ _ _ own.nil (fun _ _ => rfl) (Nat.le_refl _) hm hw'⟩
def fctssD (F : Nat → Option (List Value)) (v : Value) (ts : List (List Fc)) : Prop := ∃ rows, sF F 1 v ts.length rows.flatten ∧ rowsF (fun r t => ∃ u, r = [u] ∧ fctsD F u t ∧ t.length ≤ 140737488351232) 1 rows ts
theorem fctssD.mono {v : Value} {ts : List (List Fc)} (h : fctssD F v ts) (hF : subF F F') : fctssD F' v ts := let ⟨rows, h1, h2⟩ := h; ⟨rows, h1.mono hF, h2.mono fun _ _ ⟨u, e, h, l⟩ => ⟨u, e, h.mono hF, l⟩⟩
theorem fctss_r {v : Value} {ts : List (List Fc)} {K : Value → Kont} (hv : fctssD F v ts) {i : Nat} (hi : i < ts.length) (k : ∀ p u, fctsD F u ts[i] → ts[i].length ≤ 140737488351232 → K p u ⟨F, M, N⟩) : pv (iaV none 1 v (.int .i64 (i : Nat))) (fun p => ld false 1 p (K p)) ⟨F, M, N⟩ := by
  obtain ⟨rows, h1, h2⟩ := hv
  obtain ⟨b, o, c, cs, r, rfl, hF, _, ⟨u, rfl, hu, hul⟩, hl, _, hle, ht, hj⟩ := row_at h1 h2 (by decide) hi
  exact iaN_r hi (ld_r (ldV_c (row_F hF) (hj 0 (by decide))) (k _ _ hu hul))
theorem concatF_c {v : Value} {ts : List (List Fc)} (hv : fctssD F v ts) (hl : ts.flatten.length ≤ 1000000000) (htl : ts.length ≤ 1000000000) (k : ∀ v' F' N', (Hp.mk F' M N').wf → subF F F' → N ≤ N' → fctsD F' v' ts.flatten → K v' ⟨F', M, N'⟩) :
    callv Tryz.prog (.func (.func 118) #[] #[]) #[v] K E ⟨F, M, N⟩ := by
  refine callv_of_text mixed Tryz.func118 (by kernel_rfl) (t118 _ E _) (fun hw => ?_)
  have hm : clean M N := hw.m
  have hlv : lenV v = some (.int .i64 (ts.length : Nat)) := by obtain ⟨rows, h1, _⟩ := hv; obtain ⟨a, c, rfl, _⟩ := h1.form; rfl
  have hfl : ∀ i, i ≤ ts.length → (ts.take i).flatten.length ≤ ts.flatten.length := fun i hi => by
    have h := congrArg List.flatten (List.take_append_drop i ts)
    rw [List.flatten_append] at h
    have := congrArg List.length h
    rw [List.length_append] at this
    omega
  try simp only [hlv]
  try simp only [sS]
  refine l118_1_1_0_1_0_0 (σ := Nat) (fun i => .int .i64 ((ts.take i).flatten.length : Nat)) (fun i => .int .i64 (i : Nat)) (fun i h => h = ⟨F, M, N⟩ ∧ i ≤ ts.length) (fun i => ts.length - i) 0 rfl rfl
    (fun hw1 => ⟨_, wk_refl hw1, rfl, Nat.zero_le _⟩) (fun k1 i j h1 hI hw1 next => ?_)
  rw [t118_1_1_0_1_0_0]
  obtain ⟨rfl, hi⟩ := hI
  refine lss_r (fun hlt => ?_) (fun hge => ?_)
  · have h1 : i < ts.length := by omega
    try simp only [sS]
    refine fctss_r hv h1 fun p u hu hul => ?_
    obtain ⟨a, c, rfl⟩ := hu.form
    have h2 := hfl (i + 1) h1
    have e := flat_takeF ts h1
    rw [e, List.length_append] at h2
    try simp only [sS]
    refine add_n (by omega) (lss_f (by omega) ?_)
    try simp only [sS]
    rw [t118_1_1_0_1_0_0_1_1_1]
    refine inc_r (by omega) ?_
    rw [← List.length_append, ← e]
    exact next (i + 1) _ _ (by omega) (fun hw2 => ⟨_, wk_refl hw2, rfl, h1⟩)
  · try simp only [sS]
    rw [List.take_of_length_le (by omega)]
    refine growF_c hm (by omega) (fun u M1 N1 ho hM1 hN1 hm1 hw1 => ?_)
    try simp only [hlv]
    try simp only [sS]
    refine l118_1_1_1_1_0_1_0_0 (σ := Nat × Value) (fun s => s.2) (fun s => .int .i64 (s.1 : Nat))
      (fun s h => ∃ M' N' rows, h = ⟨F, M', N'⟩ ∧ N ≤ N' ∧ (∀ q, q < N → M' q = M q) ∧ clean M' N' ∧ s.1 ≤ ts.length ∧ own M' N 90 2 s.2 (ts.take s.1).flatten.length rows.flatten ∧ rowsF (fctD F) 2 rows (ts.take s.1).flatten) (fun s => ts.length - s.1) (0, u) rfl rfl
      (fun hw2 => ⟨_, wk_refl hw2, M1, N1, [], rfl, hN1, hM1, hm1, Nat.zero_le _, ho, rowsF.nil _ _⟩) (fun k1 s j h1 hI hw2 next => ?_)
    rw [t118_1_1_1_1_0_1_0_0]
    obtain ⟨M2, N2, rows, rfl, hN2, hM2, hm2, hi, ho2, hr2⟩ := hI
    refine lss_r (fun hlt => ?_) (fun hge => ?_)
    · have h1 : s.1 < ts.length := by omega
      try simp only [sS]
      refine fctss_r hv h1 fun p w hwt hwl => ?_
      obtain ⟨rows3, hw3, hr3⟩ := hwt
      have h2 := hfl (s.1 + 1) h1
      have e := flat_takeF ts h1
      rw [e, List.length_append] at h2
      refine ho2.app hm2 hN2 hw3.sR hr3.f1 (by omega) (by unfold maxLen; omega) (fun w' M3 N3 h4 h5 h6 h7 => ?_)
      refine inc_r (by omega) ?_
      refine next (s.1 + 1, w') _ _ (by simp only; omega) (fun hw4 => ⟨_, wk_refl hw4, M3, N3, rows ++ rows3, rfl, by omega, fun q hq => ?_, h7, h1, ?_, ?_⟩)
      · have q1 : s.2.ownBlock ≠ some q := fun e => by have := (ho2.ge q e).1; omega
        exact ((h5 q q1 (by omega)).1).trans (hM2 q hq)
      · simp only
        rw [e, List.length_append, List.flatten_append]; exact h4
      · simp only
        rw [e]; exact rows_app hr2 hr3
    · try simp only [sS]
      rw [List.take_of_length_le (by omega)] at ho2 hr2
      exact fun hc => ⟨_, frz_wf hm hM2 hc, fun hw' => k _ _ _ hw' (subF_frzAll hc) hN2 (fcts_frzA hc ho2 hr2)⟩
theorem ofld_r {α : Type} {R : List Value → α → Prop} {B sz off : Nat} {e : TypeId} {v : Value} {l : List α} {rows : List (List Value)} {K : Value → Value → Kont} (hv : own M B e sz v l.length rows.flatten) (hr : rowsF R sz rows l) (ho : off < sz) {i : Nat} (hi : i < l.length)
    (k : ∀ b c r x, v = .slice (some ⟨b, 0, none⟩) l.length c → (∃ cs tot, M b = some (.cells e cs tot) ∧ cs[i * sz + off]? = some x) → rows[i]? = some r → R r l[i] → r.length = sz → r[off]? = some x → K (.pointer (some ⟨b, 0 + i * sz, none⟩)) (.pointer (some ⟨b, 0 + i * sz + off, none⟩)) x ⟨F, M, N⟩) : pv (iaV none sz v (.int .i64 (i : Nat))) (fun p => pv (faV off p) fun q => ld false 1 q (K p q)) ⟨F, M, N⟩ := by
  rcases hv.2 with ⟨rfl, h0⟩ | ⟨b, c, rest, rfl, h1, h2, h3, h4⟩
  · omega
  obtain ⟨r, hri, hR, hdt, hle, hrl⟩ := hr.get (List.getElem?_eq_getElem hi)
  have hx : r[off]? = some (r[off]'(by omega)) := List.getElem?_eq_getElem _
  have hcx : (rows.flatten ++ rest)[i * sz + off]? = some (r[off]'(by omega)) := by
    rw [List.getElem?_append_left (by omega), ← hx, ← hdt, List.getElem?_take, if_pos ho, List.getElem?_drop]
  refine iaN_r hi (h_fa (ld_r (ldV_c (row_M h4) (by rw [Nat.zero_add]; exact hcx)) ?_))
  exact k b c r _ rfl ⟨_, _, h4, hcx⟩ hri hR hrl hx
theorem flatten_set {sz : Nat} : ∀ (rows : List (List Value)) (i off : Nat) (x : Value), (∀ r ∈ rows, r.length = sz) → off < sz → (hi : i < rows.length) → rows.flatten.set (i * sz + off) x = (rows.set i (rows[i].set off x)).flatten
  | [], i, off, x, _, _, hi => by simp at hi
  | r :: rows, 0, off, x, hl, ho, _ => by
    have := hl r List.mem_cons_self
    simp only [List.flatten_cons, Nat.zero_mul, Nat.zero_add, List.set_cons_zero, List.getElem_cons_zero]
    rw [List.set_append_left _ _ (by omega)]
  | r :: rows, i + 1, off, x, hl, ho, hi => by
    have h1 := hl r List.mem_cons_self
    have ih := flatten_set rows i off x (fun q hq => hl q (List.mem_cons_of_mem _ hq)) ho (by simpa using hi)
    simp only [List.flatten_cons, List.set_cons_succ, List.getElem_cons_succ]
    rw [List.set_append_right _ _ (by rw [Nat.succ_mul]; omega), ← ih, h1]
    congr 2
    rw [Nat.succ_mul]; omega
theorem rowsF_set {α : Type} {R : List Value → α → Prop} {sz : Nat} {rows : List (List Value)} {l : List α} (h : rowsF R sz rows l) {r : List Value} {x : α} (h1 : r.length = sz ∧ ∀ c ∈ r, c.oneCell' = true) (hR : R r x) (i : Nat) : rowsF R sz (rows.set i r) (l.set i x) := by
  refine ⟨fun q hq => ?_, fun q hq => ?_, by rw [List.length_set, List.length_set]; exact h.all.1, fun j a b ha hb => ?_⟩
  · rcases List.mem_or_eq_of_mem_set hq with hq | rfl
    · exact h.len q hq
    · exact h1.1
  · rcases List.mem_or_eq_of_mem_set hq with hq | rfl
    · exact h.one q hq
    · exact h1.2
  · rw [List.getElem?_set] at ha hb
    by_cases hij : i = j
    · rw [if_pos hij] at ha hb
      split at ha
      · split at hb
        · cases ha; cases hb; exact hR
        · cases hb
      · cases ha
    · rw [if_neg hij] at ha hb
      exact h.all.2 j a b ha hb
theorem oput_r {α : Type} {R : List Value → α → Prop} {B sz off : Nat} {e : TypeId} {v : Value} {l : List α} {rows : List (List Value)} {K : Value → Value → Kont} {u : Value} {y : α} (hv : own M B e sz v l.length rows.flatten) (hr : rowsF R sz rows l) (ho : off < sz) {i : Nat} (hi : i < l.length) (hu : u.cells = #[u]) (hu1 : u.oneCell' = true) (hR : ∀ r, rows[i]? = some r → R (r.set off u) y)
    (k : ∀ p q M' rows', own M' B e sz v (l.set i y).length rows'.flatten → rowsF R sz rows' (l.set i y) → (∀ q, v.ownBlock ≠ some q → M' q = M q) → (∀ n, clean M n → clean M' n) → K p q undef ⟨F, M', N⟩) : pv (iaV none sz v (.int .i64 (i : Nat))) (fun p => pv (faV off p) fun q => st 1 q u (K p q)) ⟨F, M, N⟩ := by
  rcases hv.2 with ⟨rfl, h0⟩ | ⟨b, c, rest, rfl, h1, h2, h3, h4⟩
  · omega
  obtain ⟨r, hri, hRr, hdt, hle, hrl⟩ := hr.get (List.getElem?_eq_getElem hi)
  have hri' := hri
  obtain ⟨hil, hre⟩ := List.getElem?_eq_some_iff.1 hri
  have hrl1 := hr.one r (List.mem_of_getElem? hri)
  refine iaN_r hi (h_fa ?_)
  have hlen : 0 + i * sz + off < (rows.flatten ++ rest).length := by rw [List.length_append]; omega
  have hsp : splice (rows.flatten ++ rest) (0 + i * sz + off) u.cells.toList = (rows.set i (r.set off u)).flatten ++ rest := by
    rw [hu, show (#[u] : Array Value).toList = [u] from rfl, splice_one hlen, List.set_append_left _ _ (by omega), Nat.zero_add, flatten_set rows i off u hr.len ho hil, hre]
  refine st_r h4 (by rw [hu]; rfl) (by rw [hu]; intro x hx; rw [List.mem_singleton.1 hx]; exact hu1) (by omega) hsp ?_
  refine k _ _ _ (rows.set i (r.set off u)) ⟨?_, .inr ⟨b, c, rest, by rw [List.length_set], by rw [List.length_set]; exact h1, h2, h3, upd_same _ _ _⟩⟩ (rowsF_set hr ⟨by rw [List.length_set]; exact hrl, fun x hx => ?_⟩ (hR r hri) i) (fun q hq => upd_ne _ _ (fun e => hq (by rw [e]; rfl))) (fun n hn => hn.set (hn.lt h4) _)
  · rw [List.length_set, flatten_len _ (fun q hq => ?_), List.length_set, hr.all.1]
    rcases List.mem_or_eq_of_mem_set hq with hq | rfl
    · exact hr.len q hq
    · rw [List.length_set]; exact hrl
  · rcases List.mem_or_eq_of_mem_set hx with hx | rfl
    · exact hrl1 x hx
    · exact hu1
end Go.Proofs.YtgcmbkoejjcjlaaGreatDoor.A
open Go Go.RowKit Go.Proofs.YtgcmbkoejjcjlaaGreatDoor.K Go.Proofs.YtgcmbkoejjcjlaaGreatDoor.T
set_option linter.unusedVariables false
set_option linter.unusedSimpArgs false
namespace Go.Proofs.YtgcmbkoejjcjlaaGreatDoor.A
variable {F F' : Nat → Option (List Value)} {M M' : Nat → Option Chunk} {N N' : Nat} {K : Kont} {E : PanK}
def isW (F : Nat → Option (List Value)) (w : Value) (a b : Int) : Prop := ∃ c1 c2, w = .func (.func 78) #[] #[.pointer (some ⟨c1, 0, none⟩), .pointer (some ⟨c2, 0, none⟩)] ∧ F c1 = some [.int .i64 a] ∧ F c2 = some [.int .i64 b]
theorem isW.mono {w : Value} {a b : Int} (h : isW F w a b) (hF : subF F F') : isW F' w a b := let ⟨c1, c2, h1, h2, h3⟩ := h; ⟨c1, c2, h1, hF _ _ h2, hF _ _ h3⟩
theorem within_cube_c {a b : Int} (k : ∀ w F' N', (Hp.mk F' M N').wf → subF F F' → N ≤ N' → isW F' w a b → K w ⟨F', M, N'⟩) :
    callv Tryz.prog (.func (.func 46) #[] #[]) #[.int .i64 a, .int .i64 b] K E ⟨F, M, N⟩ := by
  refine callv_of_text mixed Tryz.func46 (by kernel_rfl) (t46 _ E _ _) (fun hw => ?_)
  have hm : clean M N := hw.m
  refine nw_r (cs := [.int .i64 a]) (fun b1 hb1 => ?_)
  refine nw_r (cs := [.int .i64 b]) (fun b2 hb2 => ?_)
  refine fun hc => ⟨_, frz_wf hm (fun q hq => (upd_ne _ _ (by omega)).trans (upd_ne _ _ (by omega))) hc, fun hw' => k _ _ _ hw' (subF_frzAll hc) (by omega) ⟨b1, b2, rfl, ?_, ?_⟩⟩
  · exact frz_at (by omega) ((upd_ne _ _ (by omega)).trans (upd_same _ _ _))
  · exact frz_at (by omega) (upd_same _ _ _)
theorem ldF {sz b o : Nat} {cs : List Value} {v : Value} (k : K v ⟨F, M, N⟩) (hF : F b = some cs) (hv : cs[o]? = some v := by rfl) : ld false sz (.pointer (some ⟨b, o, none⟩)) K ⟨F, M, N⟩ := ld_r (ldV_c (row_F hF) hv) k
theorem inR_c {w : Value} {a b : Int} {cs : List Value} {f : Fc} (hW : isW F w a b) (hf : fctD F cs f) (k : ∀ N', N ≤ N' → (Hp.mk F M N').wf → K (.bool (inR a b f)) ⟨F, M, N'⟩) :
    callv Tryz.prog w #[.agg cs.toArray] K E ⟨F, M, N⟩ := by
  obtain ⟨c1, c2, rfl, hc1, hc2⟩ := hW
  obtain ⟨kv, rfl, hkv, hkl⟩ := hf
  refine callv_of_text mixed Tryz.func78 (by kernel_rfl) (t78 _ E _ _ _) (fun hw => ?_)
  have hm : clean M N := hw.m
  have fin : ∀ b1, N ≤ b1 → ∀ r : Bool, r = inR a b f → ∀ h', h' = (⟨F, upd M b1 (some (.cells 90 [kv, .int .i64 f.2] 2)), b1 + 1⟩ : Hp) → h'.wf → ∃ h'', h'.wk h'' ∧ (h''.wf → K (.bool r) h'') := fun b1 hb1 r e h' e' hc => by
    subst e'
    refine ⟨⟨F, M, b1 + 1⟩, wk_drop hc (subM_drop (subM_refl _) (hm _ hb1)), fun hw' => ?_⟩
    rw [e]; exact k _ (by omega) hw'
  refine nw_r (cs := [kv, .int .i64 f.2]) (fun b1 hb1 => ?_)
  have hb := upd_same M b1 (some (.cells 90 [kv, .int .i64 f.2] 2))
  try simp only [sS]
  refine ldM (v := kv) ?_ hb
  refine lenF_r hkv ?_
  refine gtr_r (fun h0 => ?_) (fun h0 => ?_)
  · have hl : 0 < f.1.length := by omega
    try simp only [sS]
    refine ldM (v := kv) ?_ hb
    try simp only [sS]
    refine ixn_r (i := 0) hkv hl fun p => ?_
    try simp only [sS]
    refine ldF (v := .int .i64 a) ?_ hc1
    try simp only [sS]
    have e0 : f.1.getD 0 0 = f.1[0] := getD_at hl 0
    refine geq_r (fun h1 => ?_) (fun h1 => ?_)
    · try simp only [sS]
      refine ldM (v := kv) ?_ hb
      try simp only [sS]
      refine ixn_r (i := 0) hkv hl fun p => ?_
      try simp only [sS]
      refine ldF (v := .int .i64 b) ?_ hc2
      try simp only [sS]
      refine lss_r (fun h2 => ?_) (fun h2 => ?_)
      · try simp only [sS]
        exact fin b1 hb1 true (by unfold inR; rw [decide_eq_true ⟨hl, by omega, by omega⟩]) _ rfl
      · try simp only [sS]
        exact fin b1 hb1 false (by unfold inR; rw [decide_eq_false (by omega)]) _ rfl
    · try simp only [sS]
      exact fin b1 hb1 false (by unfold inR; rw [decide_eq_false (by omega)]) _ rfl
  · try simp only [sS]
    exact fin b1 hb1 false (by unfold inR; rw [decide_eq_false (by omega)]) _ rfl
def ofK (a b : Int) (want : Bool) (f : Fc) : Bool := inR a b f == want
theorem bneV {x y : Bool} : binV .bool .neq (.bool x) (.bool y) = some (.bool !(x == y)) := rfl
theorem chosen1_c {b1 b2 : Nat} {w : Value} {a b : Int} {want : Bool} {cs : List Value} {f : Fc} (h1 : F b1 = some [w]) (h2 : F b2 = some [.bool want]) (hW : isW F w a b) (hf : fctD F cs f) (k : ∀ N', N ≤ N' → (Hp.mk F M N').wf → K (.bool (!ofK a b want f)) ⟨F, M, N'⟩) :
    callv Tryz.prog (.func (.func 77) #[] #[.pointer (some ⟨b1, 0, none⟩), .pointer (some ⟨b2, 0, none⟩)]) #[.agg cs.toArray] K E ⟨F, M, N⟩ := by
  have hf' := hf
  obtain ⟨kv, rfl, hkv, hkl⟩ := hf'
  refine callv_of_text mixed Tryz.func77 (by kernel_rfl) (t77 _ E _ _ _) (fun hw => ?_)
  have hm : clean M N := hw.m
  refine nw_r (cs := [kv, .int .i64 f.2]) (fun b3 hb3 => ?_)
  refine ldF (v := w) ?_ h1
  refine ldMa (vs := [kv, .int .i64 f.2]) ?_
  refine ldF (v := .bool want) ?_ h2
  refine inR_c hW hf (fun N2 hN2 hw2 => ?_)
  refine ⟨ldV_c (row_F h2) rfl, ?_⟩
  refine pv_r bneV ?_
  exact fun hc => ⟨⟨F, M, N2⟩, wk_drop hc (subM_drop (subM_refl _) (hm _ hb3)), fun hw' => k _ (by omega) hw'⟩
end Go.Proofs.YtgcmbkoejjcjlaaGreatDoor.A
open Go Go.RowKit Go.Proofs.YtgcmbkoejjcjlaaGreatDoor.K Go.Proofs.YtgcmbkoejjcjlaaGreatDoor.T
set_option linter.unusedVariables false
set_option linter.unusedSimpArgs false
namespace Go.Proofs.YtgcmbkoejjcjlaaGreatDoor.A
variable {F F' : Nat → Option (List Value)} {M M' : Nat → Option Chunk} {N N' : Nat} {K : Kont} {E : PanK}
theorem flatten_takeF {sz : Nat} : ∀ (rows : List (List Value)) (i : Nat), (∀ r ∈ rows, r.length = sz) → rows.flatten.take (i * sz) = (rows.take i).flatten
  | [], i, _ => by simp
  | x :: rows, 0, _ => by simp
  | x :: rows, i + 1, h => by
    have hx := h x List.mem_cons_self
    have ih := flatten_takeF rows i fun r hr => h r (List.mem_cons_of_mem _ hr)
    rw [List.flatten_cons, List.take_succ_cons, List.flatten_cons, List.take_append, List.take_of_length_le (by rw [Nat.succ_mul]; omega), ← ih]
    congr 2
    rw [Nat.succ_mul]; omega
theorem splice_row {sz : Nat} {rows : List (List Value)} {rest r : List Value} (hl : ∀ q ∈ rows, q.length = sz) {i : Nat} (hi : i < rows.length) (hr : r.length = sz) : splice (rows.flatten ++ rest) (i * sz) r = (rows.set i r).flatten ++ rest := by
  have hA : (rows.take i).flatten.length = i * sz := by rw [flatten_len _ (fun q hq => hl q (List.mem_of_mem_take hq)), List.length_take, Nat.min_eq_left (by omega)]
  have e : rows = rows.take i ++ rows[i] :: rows.drop (i + 1) := by rw [← List.drop_eq_getElem_cons hi, List.take_append_drop]
  have h := splice_at (rows.take i).flatten rows[i] r ((rows.drop (i + 1)).flatten ++ rest) (by rw [hl _ (List.getElem_mem hi), hr])
  rw [hA] at h
  have e1 : rows.flatten ++ rest = (rows.take i).flatten ++ rows[i] ++ ((rows.drop (i + 1)).flatten ++ rest) := by
    have e2 := congrArg List.flatten e
    rw [List.flatten_append, List.flatten_cons] at e2
    rw [e2]; simp [List.append_assoc]
  rw [e1, h, List.set_eq_take_append_cons_drop, if_pos hi]
  simp [List.flatten_append, List.append_assoc]
theorem orowput_r {α : Type} {R : List Value → α → Prop} {B sz : Nat} {e : TypeId} {v : Value} {l : List α} {rows : List (List Value)} {K : Value → Kont} {r : List Value} {y : α} (hv : own M B e sz v l.length rows.flatten) (hr : rowsF R sz rows l) {i : Nat} (hi : i < l.length) (hl : r.length = sz) (h1 : ∀ c ∈ r, c.oneCell' = true) (hR : R r y)
    (k : ∀ p M', own M' B e sz v (l.set i y).length (rows.set i r).flatten → rowsF R sz (rows.set i r) (l.set i y) → (∀ q, v.ownBlock ≠ some q → M' q = M q) → (∀ n, clean M n → clean M' n) → K p undef ⟨F, M', N⟩) : pv (iaV none sz v (.int .i64 (i : Nat))) (fun p => st sz p (.agg r.toArray) (K p)) ⟨F, M, N⟩ := by
  rcases hv.2 with ⟨rfl, h0⟩ | ⟨b, c, rest, rfl, g1, g2, g3, g4⟩
  · omega
  have hlen := hr.all.1
  have hfl := hr.flen
  have hle : i * sz + sz ≤ l.length * sz := by rw [← Nat.succ_mul]; exact Nat.mul_le_mul_right _ hi
  refine iaN_r hi ?_
  have hsp : splice (rows.flatten ++ rest) (0 + i * sz) (Value.agg r.toArray).cells.toList = (rows.set i r).flatten ++ rest := by
    rw [Nat.zero_add]
    exact splice_row hr.len (by omega) hl
  refine st_r g4 (by simpa [Value.cells] using hl) (by simpa [Value.cells] using h1) (by rw [List.length_append]; omega) hsp ?_
  have hrs := rowsF_set hr (r := r) (x := y) ⟨hl, h1⟩ hR i
  refine k _ _ ⟨by rw [hrs.flen], .inr ⟨b, c, rest, by rw [List.length_set], by rw [List.length_set]; exact g1, g2, g3, upd_same _ _ _⟩⟩ hrs (fun q hq => upd_ne _ _ (fun e => hq (by rw [e]; rfl))) (fun n hn => hn.set (hn.lt g4) _)
theorem oidx_c {B : Nat} {v d : Value} {l : List Fc} {rows : List (List Value)} {p : Fc → Bool} (hv : own M B 90 2 v l.length rows.flatten) (hr : rowsF (fctD F) 2 rows l) (hl : l.length ≤ 1000000000)
    (hd : ∀ {K : Kont} (M1 : Nat → Option Chunk) (N1 : Nat) (cs : List Value) (f : Fc), fctD F cs f → (∀ N', N1 ≤ N' → (Hp.mk F M1 N').wf → K (.bool (!p f)) ⟨F, M1, N'⟩) → callv Tryz.prog d #[.agg cs.toArray] K E ⟨F, M1, N1⟩)
    (k1 : ∀ i (hi : i < l.length), (∀ f ∈ l.take i, p f = true) → p l[i] = false → ∀ N', N ≤ N' → (Hp.mk F M N').wf → K (.int .i64 (i : Nat)) ⟨F, M, N'⟩)
    (k2 : (∀ f ∈ l, p f = true) → ∀ N', N ≤ N' → (Hp.mk F M N').wf → K (.int .i64 (-1)) ⟨F, M, N'⟩) :
    callv Tryz.prog (.func (.func 85) #[] #[]) #[v, d] K E ⟨F, M, N⟩ := by
  refine callv_of_text mixed Tryz.func85 (by kernel_rfl) (t85 _ E _ _) (fun hw => ?_)
  have hlv : lenV v = some (.int .i64 (l.length : Nat)) := by obtain ⟨a, c, e, _⟩ := hv.form; rw [e]; rfl
  refine pv_r hlv ?_
  refine l85_1_0_1_0_0 (σ := Nat) (fun i => .int .i64 (i : Nat)) (fun i h => ∃ N', h = ⟨F, M, N'⟩ ∧ N ≤ N' ∧ i ≤ l.length ∧ ∀ f ∈ l.take i, p f = true) (fun i => l.length - i) 0 rfl
    (fun hw1 => ⟨_, wk_refl hw1, N, rfl, Nat.le_refl _, Nat.zero_le _, by simp⟩) (fun kk i j h1 hI hw1 next => ?_)
  rw [t85_1_0_1_0_0]
  obtain ⟨N1, rfl, hN1, hi, he⟩ := hI
  refine lss_r (fun hlt => ?_) (fun hge => ?_)
  · have i1 : i < l.length := by omega
    try simp only [sS]
    refine orow_r hv hr (by decide) i1 fun q r _ hR _ _ => hd _ _ _ _ hR (fun N2 hN2 hw2 => ?_)
    cases hp : p l[i]
    · refine cnd_t ?_
      exact fun hc => ⟨_, wk_refl hc, fun hw' => k1 i i1 he hp _ (by omega) hw'⟩
    · refine cnd_f ?_
      refine inc_r (by omega) ?_
      refine next (i + 1) _ _ (by omega) (fun hw3 => ⟨_, wk_refl hw3, N2, rfl, by omega, i1, fun f hf => ?_⟩)
      rw [List.take_add_one, List.getElem?_eq_getElem i1, Option.toList_some] at hf
      rcases List.mem_append.1 hf with hf | hf
      · exact he f hf
      · rw [List.mem_singleton.1 hf]; exact hp
  · try simp only [sS]
    refine fun hc => ⟨_, wk_refl hc, fun hw' => k2 (fun f hf => he f ?_) _ hN1 hw'⟩
    rw [List.take_of_length_le (by omega)]; exact hf
theorem take_set_same {α : Type} (l : List α) (i : Nat) (x : α) (hi : i < l.length) : (l.set i x).take (i + 1) = l.take i ++ [x] := by
  rw [List.take_add_one, List.getElem?_set_self hi, Option.toList_some, List.take_set_of_le (Nat.le_refl _)]
set_option maxRecDepth 10000 in
set_option maxHeartbeats 2000000 in
theorem delf_c {B : Nat} {v d : Value} {l : List Fc} {rows : List (List Value)} {p : Fc → Bool} (hv : own M B 90 2 v l.length rows.flatten) (hr : rowsF (fctD F) 2 rows l) (hl : l.length ≤ 1000000000) (hB : B ≤ N)
    (hd : ∀ {K : Kont} (M1 : Nat → Option Chunk) (N1 : Nat) (cs : List Value) (f : Fc), fctD F cs f → (∀ N', N1 ≤ N' → (Hp.mk F M1 N').wf → K (.bool (!p f)) ⟨F, M1, N'⟩) → callv Tryz.prog d #[.agg cs.toArray] K E ⟨F, M1, N1⟩)
    (k : ∀ v' M' N' rows', own M' B 90 2 v' (l.filter p).length rows'.flatten → rowsF (fctD F) 2 rows' (l.filter p) → (∀ x, v.ownBlock ≠ some x → x < N → M' x = M x ∧ v'.ownBlock ≠ some x) → N ≤ N' → clean M' N' → (Hp.mk F M' N').wf → ∃ h', (Hp.mk F M' N').wk h' ∧ (h'.wf → K v' h')) :
    callv Tryz.prog (.func (.func 75) #[] #[]) #[v, d] K E ⟨F, M, N⟩ := by
  refine callv_of_text mixed Tryz.func75 (by kernel_rfl) (t75 _ E _ _) (fun hw => ?_)
  have hm : clean M N := hw.m
  have hlv : lenV v = some (.int .i64 (l.length : Nat)) := by obtain ⟨a, c, e, _⟩ := hv.form; rw [e]; rfl
  refine oidx_c hv hr hl hd (fun i hi he hpi N1 hN1 hw1 => ?_) (fun he N1 hN1 hw1 => ?_)
  rotate_left
  · refine eql_t rfl ?_
    try simp only [sS]
    have e : l.filter p = l := List.filter_eq_self.2 he
    rw [e] at k
    exact fun hc => k v M N1 rows hv hr (fun x hx _ => ⟨rfl, hx⟩) hN1 (hm.up hN1) hc
  refine eql_f (by omega) ?_
  try simp only [sS]
  refine inc_r (by omega) ?_
  refine l75_1_1_1_0_1_0_0 (σ := Nat × Nat) (fun s => .int .i64 (s.1 : Nat)) (fun s => .int .i64 (s.2 : Nat))
    (fun s h => ∃ M' N' rows' l', h = ⟨F, M', N'⟩ ∧ N ≤ N' ∧ own M' B 90 2 v l'.length rows'.flatten ∧ rowsF (fctD F) 2 rows' l' ∧ l'.length = l.length ∧ s.1 < s.2 ∧ s.2 ≤ l.length ∧ l'.take s.1 = (l.take s.2).filter p ∧ l'.drop s.2 = l.drop s.2 ∧ (∀ x, v.ownBlock ≠ some x → x < N → M' x = M x) ∧ clean M' N') (fun s => l.length - s.2) (i, i + 1) rfl rfl
    (fun hw2 => ⟨_, wk_refl hw2, M, N1, rows, l, rfl, hN1, hv, hr, rfl, Nat.lt_succ_self _, hi, ?_, rfl, fun _ _ _ => rfl, hm.up hN1⟩) (fun kk s j h1 hI hw2 next => ?_)
  · simp only
    rw [List.take_add_one, List.getElem?_eq_getElem hi, Option.toList_some, List.filter_append, List.filter_eq_self.2 he]
    simp [hpi]
  rw [t75_1_1_1_0_1_0_0]
  obtain ⟨M2, N2, rows2, l2, rfl, hN2, ho, hr2, hl2, hs, hs2, ht, hdr, hM2, hm2⟩ := hI
  refine pv_r hlv ?_
  refine lss_r (fun hlt => ?_) (fun hge => ?_)
  · have j1 : s.2 < l.length := by omega
    have j2 : s.2 < l2.length := by omega
    have ej : l2[s.2] = l[s.2] := by
      have h := congrArg (fun x : List Fc => x[0]?) hdr
      simp only [List.getElem?_drop, Nat.add_zero, List.getElem?_eq_getElem j1, List.getElem?_eq_getElem j2] at h
      exact Option.some.inj h
    have hdr' : l2.drop (s.2 + 1) = l.drop (s.2 + 1) := by rw [← List.drop_drop, ← List.drop_drop, hdr]
    try simp only [sS]
    refine orow_r ho hr2 (by decide) j2 fun q r _ hR hrl hr1 => ?_
    rw [ej] at hR
    have hR' := hR
    obtain ⟨kv, hre, hkv, hkl⟩ := hR
    subst hre
    refine nw_r (fun b5 hb5 => ?_)
    refine stM (cs' := [kv, .int .i64 l[s.2].2]) ?_ (upd_same _ _ _) rfl rfl hr1
    rw [upd_upd]
    refine ldMa (vs := [kv, .int .i64 l[s.2].2]) ?_
    refine hd _ _ _ _ hR' (fun N3 hN3 hw3 => ?_)
    have hvb : ∀ x, v.ownBlock = some x → x ≠ b5 := fun x hx e => by have := ho.lt hm2 x hx; omega
    have hbox := upd_same M2 b5 (some (.cells 90 [kv, .int .i64 l[s.2].2] [Value.slice none 0 0, Value.int .i64 0].length))
    have ho3 := ho.box hm2 hb5 (some (.cells 90 [kv, .int .i64 l[s.2].2] [Value.slice none 0 0, Value.int .i64 0].length))
    have hm3 : clean (upd M2 b5 (some (.cells 90 [kv, .int .i64 l[s.2].2] [Value.slice none 0 0, Value.int .i64 0].length))) N3 := hw3.m
    have hM3 : ∀ x, v.ownBlock ≠ some x → x < N → upd M2 b5 (some (.cells 90 [kv, .int .i64 l[s.2].2] [Value.slice none 0 0, Value.int .i64 0].length)) x = M x := fun x hx hxN => (upd_ne _ _ (by omega)).trans (hM2 x hx hxN)
    generalize upd M2 b5 _ = M3 at *
    cases hp : p l[s.2]
    · rw [Bool.not_false]
      try simp only [sS]
      rw [t75_1_1_1_0_1_0_0_1_1]
      refine inc_r (by omega) ?_
      refine next (s.1, s.2 + 1) _ _ (by simp only; omega) (fun hw4 => ⟨_, wk_refl hw4, M3, N3, rows2, l2, rfl, by omega, ho3, hr2, hl2, by simp only; omega, j1, ?_, hdr', hM3, hm3⟩)
      simp only
      rw [ht, List.take_add_one, List.getElem?_eq_getElem j1, Option.toList_some, List.filter_append]
      simp [hp]
    · rw [Bool.not_true]
      try simp only [sS]
      refine ldMa (vs := [kv, .int .i64 l[s.2].2]) ?_ hbox
      have i1 : s.1 < l2.length := by omega
      refine orowput_r (y := l[s.2]) ho3 hr2 i1 rfl hr1 hR' fun q M4 g1 g2 g3 g4 => ?_
      refine inc_r (by omega) ?_
      rw [t75_1_1_1_0_1_0_0_1_1]
      refine inc_r (by omega) ?_
      refine next (s.1 + 1, s.2 + 1) _ _ (by simp only; omega) (fun hw4 => ⟨_, wk_refl hw4, M4, N3, _, _, rfl, by omega, g1, g2, by rw [List.length_set]; exact hl2, by simp only; omega, j1, ?_, ?_, fun x hx hxN => (g3 x hx).trans (hM3 x hx hxN), g4 _ hm3⟩)
      · simp only
        rw [take_set_same _ _ _ i1, ht, List.take_add_one, List.getElem?_eq_getElem j1, Option.toList_some, List.filter_append]
        simp [hp]
      · simp only
        rw [List.drop_set_of_lt (by omega)]
        exact hdr'
  · try simp only [sS]
    have es : s.2 = l.length := by omega
    rw [es, List.take_length] at ht
    have i1 : s.1 < l.length := by omega
    have hlen2 := hr2.all.1
    have hfl2 := hr2.flen
    have hn : (l.filter p).length = s.1 := by rw [← ht, List.length_take]; omega
    rcases ho.2 with ⟨hv0, h0⟩ | ⟨b, c, rest, hvf, g1, g2, g3, g4⟩
    · omega
    rw [hvf, hl2]
    refine sl_suf s.1 (by omega) (by omega) ?_
    rw [if_neg (by omega)]
    refine .inr ⟨b, 0 + s.1 * 2, l.length - s.1, c - s.1, _, _, _, rfl, by omega, g4, by exact List.all_eq_true.1 rfl, by rw [List.length_append, hfl2]; omega, ?_⟩
    refine sl_pre s.1 (by omega) ?_
    obtain ⟨Z, hcs⟩ : ∃ Z, splice (rows2.flatten ++ rest) (0 + s.1 * 2) (List.replicate (l.length - s.1) [Value.slice none 0 0, Value.int .i64 0]).flatten = (rows2.take s.1).flatten ++ Z := ⟨_, by
      unfold splice
      rw [Nat.zero_add, List.take_append_of_le_length (by rw [hfl2]; omega), flatten_takeF rows2 s.1 hr2.len, List.append_assoc]⟩
    have hrt := rows_take hr2 s.1
    rw [ht] at hrt
    refine fun hc => k _ _ N2 (rows2.take s.1) ⟨by rw [hrt.flen], .inr ⟨b, c, Z, by rw [hn], by omega, g2, g3, ?_⟩⟩ hrt (fun x hx hxN => ⟨?_, fun e => hx (by rw [hvf]; exact e)⟩) hN2 (hm2.set (hm2.lt g4) _) hc
    · rw [← hcs]; exact upd_same _ _ _
    · have hxb : x ≠ b := fun e => hx (by rw [hvf, e]; rfl)
      exact (upd_ne _ _ hxb).trans (hM2 x hx hxN)
theorem chosen_c {v w : Value} {l : List Fc} {a b : Int} {want : Bool} (hv : fctsD F v l) (hW : isW F w a b) (hl : l.length ≤ 1000000000) (hk : ∀ f ∈ l, f.1.length ≤ 10000000000)
    (k : ∀ v' F' N', (Hp.mk F' M N').wf → subF F F' → N ≤ N' → fctsD F' v' (l.filter (ofK a b want)) → K v' ⟨F', M, N'⟩) :
    callv Tryz.prog (.func (.func 45) #[] #[]) #[v, w, .bool want] K E ⟨F, M, N⟩ := by
  refine callv_of_text mixed Tryz.func45 (by kernel_rfl) (t45 _ E _ _ _) (fun hw => ?_)
  have hm : clean M N := hw.m
  have hW' := hW
  obtain ⟨c1, c2, hwf, _, _⟩ := hW'
  refine nw_r (cs := [w]) (fun b1 hb1 => ?_) (by rw [hwf]; rfl)
  refine nw_r (cs := [.bool want]) (fun b2 hb2 => ?_)
  generalize hM2 : upd (upd M b1 _) b2 _ = M2
  have g1 : ∃ e, M2 b1 = some (.cells e [w] 1) := ⟨_, by rw [← hM2]; exact (upd_ne _ _ (by omega)).trans (upd_same _ _ _)⟩
  have g2 : ∃ e, M2 b2 = some (.cells e [.bool want] 1) := ⟨_, by rw [← hM2]; exact upd_same _ _ _⟩
  have hM2' : ∀ q, q < N → M2 q = M q := fun q hq => by rw [← hM2]; exact (upd_ne _ _ (by omega)).trans (upd_ne _ _ (by omega))
  clear hM2
  obtain ⟨ty1, g1⟩ := g1
  obtain ⟨ty2, g2⟩ := g2
  refine callv_go (fun hc => ⟨_, frz_wf hm hM2' hc, ?_⟩)
  have hs := subF_frzAll (N := N) hc
  have f1 := frz_at (F := F) (N := N) (b := b1) (by omega) g1
  have f2 := frz_at (F := F) (N := N) (b := b2) (by omega) g2
  generalize frzAll F M2 N = F1 at *
  clear hc g1 g2 hM2' M2
  refine cclone_o (hv.mono hs) hl hk (fun v2 F2 M2 N2 rows hF2 hN2 ho hr hM2 hm2 hw2 => ?_)
  refine delf_c (p := ofK a b want) ho hr hl (by omega) (fun M1 N1 cs f hf kk => chosen1_c (hF2 _ _ f1) (hF2 _ _ f2) (hW.mono (hs.trans hF2)) hf kk) (fun v3 M3 N3 rows3 ho3 hr3 hM3 hN3 hm3 hc3 => ⟨_, wk_refl hc3, fun hw3 => ?_⟩)
  have hX : ∀ q, q < N → M3 q = M q := fun q hq => ((hM3 q (fun e => by have := (ho.ge q e).1; omega) (by omega)).1).trans (hM2 q (by omega))
  have ho3' : own M3 N 90 2 v3 (l.filter (ofK a b want)).length rows3.flatten := ho3.keep (fun _ _ => rfl) (by omega)
  exact fun hc => ⟨_, frz_wf hm hX hc, fun hw' => k _ _ _ hw' ((hs.trans hF2).trans (subF_frzAll hc)) (by omega) (fcts_frzA hc ho3' hr3)⟩
end Go.Proofs.YtgcmbkoejjcjlaaGreatDoor.A
open Go Go.RowKit Go.Proofs.YtgcmbkoejjcjlaaGreatDoor.K Go.Proofs.YtgcmbkoejjcjlaaGreatDoor.T
set_option linter.unusedVariables false
set_option linter.unusedSimpArgs false
namespace Go.Proofs.YtgcmbkoejjcjlaaGreatDoor.A
variable {F F' : Nat → Option (List Value)} {M M' : Nat → Option Chunk} {N N' : Nat} {K : Kont} {E : PanK}
def entsD (F : Nat → Option (List Value)) (v : Value) (h : List En) : Prop := ∃ rows, sF F 2 v h.length rows.flatten ∧ rowsF (entD F) 2 rows h
theorem entsD.mono {v : Value} {t : List En} (h : entsD F v t) (hF : subF F F') : entsD F' v t := let ⟨rows, h1, h2⟩ := h; ⟨rows, h1.mono hF, h2.mono fun _ _ hr => hr.mono hF⟩
theorem entsD.form {v : Value} {t : List En} (h : entsD F v t) : ∃ a c, v = .slice a t.length c := let ⟨rows, h1, _⟩ := h; let ⟨a, c, h2, _⟩ := h1.form; ⟨a, c, h2⟩
theorem entsD.nil {c : Nat} : entsD F (.slice none 0 c) [] := ⟨[], sF.nil _ _ _, rowsF.nil _ _⟩
theorem ofK_false (a b : Int) : ofK a b false = outR a b := by funext f; unfold ofK outR; cases inR a b f <;> rfl
theorem take_fm (f : En → Option En) (h : List En) {i : Nat} (hi : i < h.length) : (h.take (i + 1)).filterMap f = (h.take i).filterMap f ++ (f h[i]).toList := by
  rw [List.take_add_one, List.getElem?_eq_getElem hi, Option.toList_some, List.filterMap_append]
  cases hf : f h[i] <;> simp [hf]
theorem fm_len (f : En → Option En) (h : List En) (i : Nat) : ((h.take i).filterMap f).length ≤ i := by
  have := List.length_filterMap_le f (h.take i)
  rw [List.length_take] at this; omega
theorem okH.keys {l : List Dm} {n m : Nat} {h : List En} (o : okH l n m h) (hl : l.length ≤ 1000) {e : En} (he : e ∈ h) : ∀ f ∈ e.2, f.1.length ≤ 10000000000 := fun f hf => by
  have := inF_len (o.fi e he f hf); omega
theorem rightF_eq (l : List Dm) (a b last : Int) (e : En) (es : List En) : rightF l a b last (e :: es) = (decide (last < e.1) && fitsF l e.2 && (e.2.all (inR a b) && rightF l a b e.1 es)) := rfl
theorem rightF_nil (l : List Dm) (a b last : Int) : rightF l a b last [] = true := rfl
theorem out_all {a b : Int} {l : List Fc} : (l.filter (outR a b)).length = 0 ↔ l.all (inR a b) = true := by
  rw [List.length_eq_zero_iff, List.filter_eq_nil_iff, List.all_eq_true]
  constructor
  · intro h f hf
    have := h f hf
    unfold outR at this
    cases hi : inR a b f
    · rw [hi] at this; simp at this
    · rfl
  · intro h f hf
    unfold outR
    rw [h f hf]; decide
set_option maxRecDepth 10000 in
theorem cright_c {B g : Nat} {hv dv ev w : Value} {rows : List (List Value)} {l : List Dm} {h es : List En} {a b : Int} (hC : isCube F M B g hv dv rows l h) (hdl : l.length ≤ 1000) (hes : entsD F ev es) (hel : es.length ≤ 140737488351232) (hW : isW F w a b)
    (k : ∀ F' N', (Hp.mk F' M N').wf → subF F F' → N ≤ N' → K (.bool (rightF l a b 0 es)) ⟨F', M, N'⟩) :
    callv Tryz.prog (.func (.func 94) #[] #[]) #[.pointer (some ⟨g, 0, none⟩), w, ev] K E ⟨F, M, N⟩ := by
  refine callv_of_text mixed Tryz.func94 (by kernel_rfl) (t94 _ E _ _ _) (fun hw => ?_)
  have hm : clean M N := hw.m
  have hgN := hm.lt hC.gg
  obtain ⟨erows, he1, he2⟩ := hes
  refine lenF_r he1 ?_
  refine l94_1_1_0_1_0_0 (σ := Nat × Int) (fun s => .int .u32 s.2) (fun s => .int .i64 (s.1 : Nat))
    (fun s h' => ∃ F' N', h' = ⟨F', M, N'⟩ ∧ subF F F' ∧ N ≤ N' ∧ s.1 ≤ es.length ∧ rightF l a b 0 es = rightF l a b s.2 (es.drop s.1)) (fun s => es.length - s.1) (0, 0) rfl rfl
    (fun hw2 => ⟨_, wk_refl hw2, F, N, rfl, subF.refl _, Nat.le_refl _, Nat.zero_le _, rfl⟩) (fun kk s j h1 hI hw2 next => ?_)
  rw [t94_1_1_0_1_0_0]
  obtain ⟨F1, N1, rfl, hF1, hN1, hi, hrt⟩ := hI
  refine lss_r (fun hlt => ?_) (fun hge => ?_)
  · have i1 : s.1 < es.length := by omega
    rw [List.drop_eq_getElem_cons i1, rightF_eq] at hrt
    have hm1 : clean M N1 := hw2.m
    try simp only [sS]
    refine row_r (he1.mono hF1) (he2.mono fun _ _ h => h.mono hF1) (by decide) i1 (fun p r _ hR hrl hr1 => ?_)
    obtain ⟨fv, hre, hfv, hfl⟩ := hR
    subst hre
    refine nw_r (fun b4 hb4 => ?_)
    refine stM (cs' := [.int .u32 es[s.1].1, fv]) ?_ (upd_same _ _ _) rfl rfl hr1
    rw [upd_upd]
    have hbox := upd_same M b4 (some (.cells 74 [.int .u32 es[s.1].1, fv] [Value.int .u32 0, Value.slice none 0 0].length))
    have hg2 := (upd_ne M (b := b4) (k := g) (some (.cells 74 [.int .u32 es[s.1].1, fv] [Value.int .u32 0, Value.slice none 0 0].length)) (by omega)).trans hC.gg
    have hsub : ∀ {F' : Nat → Option (List Value)} {n : Nat}, (Hp.mk F' (upd M b4 (some (.cells 74 [.int .u32 es[s.1].1, fv] [Value.int .u32 0, Value.slice none 0 0].length))) n).wf → (Hp.mk F' (upd M b4 (some (.cells 74 [.int .u32 es[s.1].1, fv] [Value.int .u32 0, Value.slice none 0 0].length))) n).wk ⟨F', M, n⟩ := fun hc => wk_drop hc (subM_drop (subM_refl _) (hm1 _ hb4))
    generalize upd M b4 _ = M2 at *
    try simp only [sS]
    refine ldM (v := .int .u32 es[s.1].1) ?_ hbox
    refine leq_r (fun h2 => ?_) (fun h2 => ?_)
    · try simp only [sS]
      rw [decide_eq_false (by omega), Bool.false_and, Bool.false_and] at hrt
      exact fun hc => ⟨_, hsub hc, fun hw' => by have := k _ _ hw' hF1 (by omega); rw [hrt] at this; exact this⟩
    rw [decide_eq_true (by omega), Bool.true_and] at hrt
    try simp only [sS]
    refine ldM (v := fv) ?_ hbox
    try simp only [sS]
    refine fits_c hg2 (hC.dd.mono hF1) (by omega) hfv hfl (fun N3 hN3 hw3 => ?_)
    cases hfit : fitsF l es[s.1].2
    · rw [hfit, Bool.false_and] at hrt
      try simp only [sS]
      exact fun hc => ⟨_, hsub hc, fun hw' => by have := k _ _ hw' hF1 (by omega); rw [hrt] at this; exact this⟩
    rw [hfit, Bool.true_and] at hrt
    obtain ⟨f1, f2⟩ := fitsF_of hfit
    try simp only [sS]
    refine ldM (v := fv) ?_ hbox
    try simp only [sS]
    refine chosen_c hfv (hW.mono hF1) (by omega) (fun f hf => by have := inF_len (f2 f hf); omega) (fun v4 F4 N4 hw4 hF4 hN4 hf4 => ?_)
    rw [ofK_false] at hf4
    obtain ⟨frows, hf4a, hf4b⟩ := hf4
    try simp only [sS]
    refine lenF_r hf4a ?_
    refine gtr_r (fun h0 => ?_) (fun h0 => ?_)
    · try simp only [sS]
      have hall : es[s.1].2.all (inR a b) = false := by
        cases hc : es[s.1].2.all (inR a b)
        · rfl
        · have := out_all.2 hc; omega
      rw [hall, Bool.false_and] at hrt
      exact fun hc => ⟨_, hsub hc, fun hw' => by have := k _ _ hw' (hF1.trans hF4) (by omega); rw [hrt] at this; exact this⟩
    · try simp only [sS]
      rw [out_all.1 (by omega), Bool.true_and] at hrt
      refine ldM (v := .int .u32 es[s.1].1) ?_ hbox
      refine inc_r (by omega) ?_
      exact next (s.1 + 1, es[s.1].1) _ _ (by simp only; omega) (fun hw5 => ⟨_, hsub hw5, F4, N4, rfl, hF1.trans hF4, by omega, i1, hrt⟩)
  · try simp only [sS]
    rw [List.drop_eq_nil_of_le (by omega), rightF_nil] at hrt
    exact fun hc => ⟨_, wk_refl hc, fun hw' => by have := k _ _ hw' hF1 hN1; rw [hrt] at this; exact this⟩
end Go.Proofs.YtgcmbkoejjcjlaaGreatDoor.A
open Go Go.RowKit Go.Proofs.YtgcmbkoejjcjlaaGreatDoor.K Go.Proofs.YtgcmbkoejjcjlaaGreatDoor.T
set_option linter.unusedVariables false
set_option linter.unusedSimpArgs false
namespace Go.Proofs.YtgcmbkoejjcjlaaGreatDoor.A
variable {F F' : Nat → Option (List Value)} {M M' : Nat → Option Chunk} {N N' : Nat} {K : Kont} {E : PanK}
def putB (x : Int) (k : Nat) : Int := IntKind.u8.wrap (x.fdiv (2 ^ (min (8 * k) 64)))
def putI (x : Int) (size i : Nat) : List Int := (List.range i).map fun j => putB x (size - 1 - j)
def putL (x : Int) (size : Nat) : List Int := putI x size size
def appU (F : Nat → Option (List Value)) (M : Nat → Option Chunk) (N B n : Nat) (v : Value) (cs : List Value) (out : List Int) (K : Kont) : Prop :=
  ∀ v' M' N', own M' B 5 1 v' (n + out.length) (cs ++ bts out) → fr M M' N v v' → N ≤ N' → clean M' N' → (Hp.mk F M' N').wf → K v' ⟨F, M', N'⟩
def u64i (x : Int) : Int := IntKind.u64.wrap x
def encK (l : List Int) : List Int := l.flatMap fun x => putL (u64i x) 4
def encF (f : Fc) : List Int := putL (u64i (f.1.length : Nat)) 1 ++ (encK f.1 ++ putL (u64i f.2) 8)
def encFs (l : List Fc) : List Int := putL (u64i (l.length : Nat)) 4 ++ l.flatMap encF
def encE (e : En) : List Int := putL (u64i e.1) 4 ++ encFs e.2
def encEs (l : List En) : List Int := putL (u64i (l.length : Nat)) 4 ++ l.flatMap encE
end Go.Proofs.YtgcmbkoejjcjlaaGreatDoor.A
open Go Go.RowKit Go.Proofs.YtgcmbkoejjcjlaaGreatDoor.K Go.Proofs.YtgcmbkoejjcjlaaGreatDoor.T
set_option linter.unusedVariables false
set_option linter.unusedSimpArgs false
namespace Go.Proofs.YtgcmbkoejjcjlaaGreatDoor.A
variable {F F' : Nat → Option (List Value)} {M M' : Nat → Option Chunk} {N N' : Nat} {K : Kont} {E : PanK}
structure isRef (F : Nat → Option (List Value)) (M : Nat → Option Chunk) (g : Nat) (dv lv : Value) (l : List Dm) (h : List En) : Prop where
  gg : M g = some (.cells 126 [dv, lv] 2)
  dd : dimsD F dv l
  ll : entsD F lv h
theorem isRef.keep {g : Nat} {dv lv : Value} {l : List Dm} {h : List En} (hC : isRef F M g dv lv l h) (hF : subF F F') (hM : M' g = M g) : isRef F' M' g dv lv l h := ⟨hM.trans hC.gg, hC.dd.mono hF, hC.ll.mono hF⟩
end Go.Proofs.YtgcmbkoejjcjlaaGreatDoor.A
open Go Go.RowKit Go.Proofs.YtgcmbkoejjcjlaaGreatDoor.K Go.Proofs.YtgcmbkoejjcjlaaGreatDoor.T
set_option linter.unusedVariables false
set_option linter.unusedSimpArgs false
namespace Go.Proofs.YtgcmbkoejjcjlaaGreatDoor.A
variable {F F' : Nat → Option (List Value)} {M M' : Nat → Option Chunk} {N N' : Nat} {K : Kont} {E : PanK}
end Go.Proofs.YtgcmbkoejjcjlaaGreatDoor.A
open Go Go.RowKit Go.Proofs.YtgcmbkoejjcjlaaGreatDoor.K Go.Proofs.YtgcmbkoejjcjlaaGreatDoor.T
set_option linter.unusedVariables false
set_option linter.unusedSimpArgs false
namespace Go.Proofs.YtgcmbkoejjcjlaaGreatDoor.A
variable {F F' : Nat → Option (List Value)} {M M' : Nat → Option Chunk} {N N' : Nat} {K : Kont} {E : PanK}
theorem isCube.keep {B g : Nat} {hv dv : Value} {rows : List (List Value)} {l : List Dm} {h : List En} (hC : isCube F M B g hv dv rows l h) (hF : subF F F') (hM : ∀ q, q = g ∨ hv.ownBlock = some q → M' q = M q) : isCube F' M' B g hv dv rows l h :=
  ⟨(hM g (.inl rfl)).trans hC.gg, hC.gB, hC.oo.keep (fun q h => hM q (.inr h)) (Nat.le_refl _), hC.rr.mono fun _ _ h => h.mono hF, hC.vg, hC.dd.mono hF, hC.rs⟩
theorem isCube.lt {B g : Nat} {hv dv : Value} {rows : List (List Value)} {l : List Dm} {h : List En} (hC : isCube F M B g hv dv rows l h) (hm : clean M N) : ∀ q, q = g ∨ hv.ownBlock = some q → B ≤ q ∧ q < N := fun q hq => by
  rcases hq with rfl | hq
  · exact ⟨hC.gB, hm.lt hC.gg⟩
  · exact ⟨(hC.oo.ge q hq).1, hC.oo.lt hm q hq⟩
theorem one_fact {b c : Nat} {x v : Int} (h1 : F b = some [.int .i64 x]) (h2 : F c = some [.slice (some ⟨b, 0, none⟩) 1 1, .int .i64 v]) : fctsD F (.slice (some ⟨c, 0, none⟩) 1 1) [([x], v)] :=
  ⟨[[.slice (some ⟨b, 0, none⟩) 1 1, .int .i64 v]], sF_lit h2 rfl (by decide), fcts_cons (int1 h1) (by simp) (rowsF.nil _ _)⟩
end Go.Proofs.YtgcmbkoejjcjlaaGreatDoor.A
open Go Go.RowKit Go.Proofs.YtgcmbkoejjcjlaaGreatDoor.K Go.Proofs.YtgcmbkoejjcjlaaGreatDoor.T
set_option linter.unusedVariables false
set_option linter.unusedSimpArgs false
namespace Go.Proofs.YtgcmbkoejjcjlaaGreatDoor.A
variable {F F' : Nat → Option (List Value)} {M M' : Nat → Option Chunk} {N N' : Nat} {K : Kont} {E : PanK}
end Go.Proofs.YtgcmbkoejjcjlaaGreatDoor.A
open Go Go.RowKit Go.Proofs.YtgcmbkoejjcjlaaGreatDoor.K Go.Proofs.YtgcmbkoejjcjlaaGreatDoor.T
set_option linter.unusedVariables false
set_option linter.unusedSimpArgs false
namespace Go.Proofs.YtgcmbkoejjcjlaaGreatDoor.A
variable {F F' : Nat → Option (List Value)} {M M' : Nat → Option Chunk} {N N' : Nat} {K : Kont} {E : PanK}
theorem entD.at {cs : List Value} {e : En} (h : entD F cs e) : ∃ v, cs = [.int .u32 e.1, v] ∧ fctsD F v e.2 := let ⟨v, h1, h2, _⟩ := h; ⟨v, h1, h2⟩
end Go.Proofs.YtgcmbkoejjcjlaaGreatDoor.A
open Go Go.RowKit Go.Proofs.YtgcmbkoejjcjlaaGreatDoor.K Go.Proofs.YtgcmbkoejjcjlaaGreatDoor.T
set_option linter.unusedVariables false
set_option linter.unusedSimpArgs false
namespace Go.Proofs.YtgcmbkoejjcjlaaGreatDoor.A
variable {F F' : Nat → Option (List Value)} {M M' : Nat → Option Chunk} {N N' : Nat} {K : Kont} {E : PanK}
theorem allF_app (a b : List En) : allF (a ++ b) = allF a ++ allF b := by unfold allF; rw [List.map_append, List.flatten_append]
theorem allF_filter (p : En → Bool) : ∀ h : List En, (allF (h.filter p)).length ≤ (allF h).length
  | [] => Nat.le_refl _
  | e :: h => by
    have ih := allF_filter p h
    by_cases hp : p e = true
    · rw [List.filter_cons_of_pos hp, allF_cons, allF_cons, List.length_append, List.length_append]; omega
    · rw [List.filter_cons_of_neg hp, allF_cons, List.length_append]; omega
theorem allF_takeLe (h : List En) (i : Nat) : (allF (h.take i)).length ≤ (allF h).length := by
  conv => rhs; rw [← List.take_append_drop i h]
  rw [allF_app, List.length_append]; omega
theorem tillF_le (h : List En) (t : Int) (i : Nat) : (tillF (h.take i) t).length ≤ (allF h).length := by
  have h1 := allF_filter (fun e => decide (e.1 ≤ t)) (h.take i)
  have h2 := allF_takeLe h i
  unfold tillF; omega
theorem tillF_mem {h : List En} {t : Int} {f : Fc} (hf : f ∈ tillF h t) : ∃ e ∈ h, f ∈ e.2 := by
  unfold tillF allF at hf
  obtain ⟨x, hx, hfx⟩ := List.mem_flatten.1 hf
  obtain ⟨e, he, rfl⟩ := List.mem_map.1 hx
  exact ⟨e, (List.mem_filter.1 he).1, hfx⟩
def lastT (es : List En) (i : Nat) : Int := if h : 0 < i ∧ i ≤ es.length then es[i - 1].1 else 0
end Go.Proofs.YtgcmbkoejjcjlaaGreatDoor.A
open Go Go.RowKit Go.Proofs.YtgcmbkoejjcjlaaGreatDoor.K Go.Proofs.YtgcmbkoejjcjlaaGreatDoor.T
set_option linter.unusedVariables false
set_option linter.unusedSimpArgs false
namespace Go.Proofs.YtgcmbkoejjcjlaaGreatDoor.A
variable {F F' : Nat → Option (List Value)} {M M' : Nat → Option Chunk} {N N' : Nat} {K : Kont} {E : PanK}
end Go.Proofs.YtgcmbkoejjcjlaaGreatDoor.A
open Go Go.RowKit Go.Proofs.YtgcmbkoejjcjlaaGreatDoor.K Go.Proofs.YtgcmbkoejjcjlaaGreatDoor.T
set_option linter.unusedVariables false
set_option linter.unusedSimpArgs false
namespace Go.Proofs.YtgcmbkoejjcjlaaGreatDoor.A
variable {F F' : Nat → Option (List Value)} {M M' : Nat → Option Chunk} {N N' : Nat} {K : Kont} {E : PanK}
open Go.MapKept
structure Bt where
  st : Int
  tm : Int
  ns : List Int
  fs : List Fc
def Bt.no : Bt := ⟨0, 0, [], []⟩
def btD (F : Nat → Option (List Value)) (v : Value) (b : Bt) : Prop := ∃ nv fv, v = .agg #[.int .u8 b.st, .int .u32 b.tm, nv, fv] ∧ sF F 1 nv b.ns.length (ic b.ns) ∧ fctsD F fv b.fs
theorem btD.mono {v : Value} {b : Bt} (h : btD F v b) (hF : subF F F') : btD F' v b := let ⟨nv, fv, e, h1, h2⟩ := h; ⟨nv, fv, e, h1.mono hF, h2.mono hF⟩
theorem fctsD.nil {c : Nat} : fctsD F (.slice none 0 c) [] := ⟨[], sF.nil _ _ _, rowsF.nil _ _⟩
theorem btD.no : btD F (.agg #[.int .u8 0, .int .u32 0, .slice none 0 0, .slice none 0 0]) Bt.no := ⟨_, _, rfl, sF.nil _ _ _, fctsD.nil⟩
abbrev Bts := List (Int × Bt)
def getB (bs : Bts) (id : Int) : Bt := match bs.find? fun x => decide (x.1 = id) with | some x => x.2 | none => Bt.no
def hasB (bs : Bts) (id : Int) : Bool := bs.any fun x => decide (x.1 = id)
def setB (bs : Bts) (id : Int) (b : Bt) : Bts := if hasB bs id = true then bs.map (fun x => if x.1 = id then (id, b) else x) else bs ++ [(id, b)]
theorem hasB_iff {bs : Bts} {id : Int} : hasB bs id = true ↔ ∃ x ∈ bs, x.1 = id := by
  unfold hasB
  rw [List.any_eq_true]
  exact ⟨fun ⟨x, hx, h⟩ => ⟨x, hx, of_decide_eq_true h⟩, fun ⟨x, hx, h⟩ => ⟨x, hx, decide_eq_true h⟩⟩
theorem getB_miss {bs : Bts} {id : Int} (h : ∀ x ∈ bs, x.1 ≠ id) : getB bs id = Bt.no := by
  unfold getB
  rw [List.find?_eq_none.2 (fun x hx => by simpa using h x hx)]
theorem getB_hit {bs : Bts} {j : Nat} {x : Int × Bt} (hn : (bs.map (·.1)).Nodup) (hj : bs[j]? = some x) : getB bs x.1 = x.2 := by
  unfold getB
  cases hf : bs.find? (fun y => decide (y.1 = x.1)) with
  | none => exact absurd (List.find?_eq_none.1 hf x (List.mem_of_getElem? hj)) (by simp)
  | some y =>
    have h1 : y.1 = x.1 := by simpa using List.find?_some hf
    have h2 := List.mem_of_find?_eq_some hf
    obtain ⟨i, hi, hy⟩ := List.mem_iff_getElem.1 h2
    obtain ⟨hj', hx⟩ := List.getElem?_eq_some_iff.1 hj
    have : i = j := by
      rcases Nat.lt_trichotomy i j with h | h | h
      · have := List.pairwise_iff_getElem.1 hn i j (by simpa using hi) (by simpa using hj') h
        simp only [List.getElem_map, hy, hx] at this
        exact absurd h1 this
      · exact h
      · have := List.pairwise_iff_getElem.1 hn j i (by simpa using hj') (by simpa using hi) h
        simp only [List.getElem_map, hy, hx] at this
        exact absurd h1.symm this
    subst this
    rw [← hy, hx]
theorem setB_keys {bs : Bts} {id : Int} {b : Bt} : (setB bs id b).map (·.1) = if hasB bs id = true then bs.map (·.1) else bs.map (·.1) ++ [id] := by
  unfold setB
  split
  · rw [List.map_map]
    refine List.map_congr_left fun x _ => ?_
    simp only [Function.comp]
    split
    · rename_i h; exact h.symm
    · rfl
  · simp
theorem setB_nodup {bs : Bts} {id : Int} {b : Bt} (h : (bs.map (·.1)).Nodup) : ((setB bs id b).map (·.1)).Nodup := by
  rw [setB_keys]
  split
  · exact h
  · rename_i hh
    refine List.nodup_append.2 ⟨h, by simp, fun a ha c hc => ?_⟩
    simp only [List.mem_singleton] at hc
    subst hc
    obtain ⟨x, hx, rfl⟩ := List.mem_map.1 ha
    exact fun e => hh (hasB_iff.2 ⟨x, hx, e⟩)
theorem mem_setB {bs : Bts} {id : Int} {b : Bt} {x : Int × Bt} (h : x ∈ setB bs id b) : x = (id, b) ∨ (x ∈ bs ∧ x.1 ≠ id) := by
  unfold setB at h
  split at h
  · obtain ⟨y, hy, rfl⟩ := List.mem_map.1 h
    split
    · exact .inl rfl
    · rename_i h1; exact .inr ⟨hy, h1⟩
  · rename_i hh
    rcases List.mem_append.1 h with h1 | h1
    · exact .inr ⟨h1, fun e => hh (hasB_iff.2 ⟨x, h1, e⟩)⟩
    · exact .inl (List.mem_singleton.1 h1)
theorem setB_mem {bs : Bts} {id : Int} {b : Bt} : (id, b) ∈ setB bs id b := by
  unfold setB
  split
  · rename_i h
    obtain ⟨x, hx, e⟩ := hasB_iff.1 h
    exact List.mem_map.2 ⟨x, hx, by rw [if_pos e]⟩
  · simp
theorem setB_old {bs : Bts} {id : Int} {b : Bt} {x : Int × Bt} (h : x ∈ bs) (hne : x.1 ≠ id) : x ∈ setB bs id b := by
  unfold setB
  split
  · exact List.mem_map.2 ⟨x, h, by rw [if_neg hne]⟩
  · exact List.mem_append_left _ h
theorem getB_mem {bs : Bts} {x : Int × Bt} (hn : (bs.map (·.1)).Nodup) (hx : x ∈ bs) : getB bs x.1 = x.2 := by
  obtain ⟨j, hj⟩ := List.mem_iff_getElem?.1 hx
  exact getB_hit hn hj
theorem getB_set {bs : Bts} {id : Int} {b : Bt} (hn : (bs.map (·.1)).Nodup) (i : Int) : getB (setB bs id b) i = if i = id then b else getB bs i := by
  by_cases h : i = id
  · subst h
    rw [if_pos rfl]
    exact getB_mem (x := (i, b)) (setB_nodup hn) setB_mem
  · rw [if_neg h]
    by_cases hx : ∃ x ∈ bs, x.1 = i
    · obtain ⟨x, hx, rfl⟩ := hx
      rw [getB_mem hn hx, getB_mem (setB_nodup hn) (setB_old hx h)]
    · rw [getB_miss (bs := bs) (fun x hx' e => hx ⟨x, hx', e⟩), getB_miss fun x hx' e => ?_]
      rcases mem_setB hx' with rfl | ⟨h1, h2⟩
      · exact h e.symm
      · exact hx ⟨x, h1, e⟩
structure mapD (F : Nat → Option (List Value)) (es : Array MapEntry) (bs : Bts) : Prop where
  len : es.size = bs.length
  ea : ∀ (j : Nat) (e : MapEntry) (x : Int × Bt), es.toList[j]? = some e → bs[j]? = some x → e.key = .int .u32 x.1 ∧ btD F e.val x.2 ∧ e.born = j
  nd : (bs.map (·.1)).Nodup
  rg : ∀ x ∈ bs, 0 ≤ x.1 ∧ x.1 < 4294967296
theorem mapD.mono {es : Array MapEntry} {bs : Bts} (h : mapD F es bs) (hF : subF F F') : mapD F' es bs := ⟨h.len, fun j e x h1 h2 => let ⟨a, b, c⟩ := h.ea j e x h1 h2; ⟨a, b.mono hF, c⟩, h.nd, h.rg⟩
theorem mapD.nil : mapD F #[] [] := ⟨rfl, fun j e x h => by simp at h, List.nodup_nil, fun x hx => by simp at hx⟩
theorem mapD.get {es : Array MapEntry} {bs : Bts} (h : mapD F es bs) {j : Nat} {e : MapEntry} (hj : es.toList[j]? = some e) : ∃ x, bs[j]? = some x ∧ e.key = .int .u32 x.1 ∧ btD F e.val x.2 ∧ e.born = j := by
  have hl : j < bs.length := by have := (List.getElem?_eq_some_iff.1 hj).1; rw [Array.length_toList, h.len] at this; exact this
  exact ⟨bs[j], List.getElem?_eq_getElem hl, h.ea j e _ hj (List.getElem?_eq_getElem hl)⟩
theorem mapD.keys {es : Array MapEntry} {bs : Bts} (h : mapD F es bs) : es.toList.map (·.key) = bs.map fun x => Value.int .u32 x.1 := by
  refine List.ext_getElem? fun j => ?_
  rw [List.getElem?_map, List.getElem?_map]
  cases hj : es.toList[j]? with
  | none =>
    have : bs[j]? = none := by
      rw [List.getElem?_eq_none_iff] at hj ⊢
      rw [Array.length_toList, h.len] at hj; exact hj
    rw [this]; rfl
  | some e =>
    obtain ⟨x, hx, h1, _⟩ := h.get hj
    rw [hx]
    simp only [Option.map_some, h1]
theorem mapD.borns {es : Array MapEntry} {bs : Bts} (h : mapD F es bs) : es.toList.map (·.born) = List.range bs.length := by
  refine List.ext_getElem? fun j => ?_
  rw [List.getElem?_map]
  cases hj : es.toList[j]? with
  | none =>
    rw [List.getElem?_eq_none_iff, Array.length_toList, h.len] at hj
    rw [List.getElem?_eq_none (by rw [List.length_range]; exact hj)]; rfl
  | some e =>
    obtain ⟨x, hx, _, _, h1⟩ := h.get hj
    have hl := (List.getElem?_eq_some_iff.1 hx).1
    rw [List.getElem?_range hl]
    simp only [Option.map_some, h1]
theorem mapD.k {es : Array MapEntry} {bs : Bts} (h : mapD F es bs) (hl : bs.length ≤ 1000000) : mapK es bs.length := by
  refine ⟨⟨fun x hx => ?_, ?_, ?_⟩, fun x hx => ?_, by rw [h.len]; exact hl⟩
  · obtain ⟨j, hj⟩ := List.mem_iff_getElem?.1 hx
    obtain ⟨y, hy, _, _, hb⟩ := h.get hj
    have := (List.getElem?_eq_some_iff.1 hy).1
    omega
  · rw [h.borns]; exact List.nodup_range
  · rw [h.keys]
    have := h.nd
    refine List.pairwise_map.2 ((List.pairwise_map.1 this).imp fun {a b} hne e => hne (by simpa using e))
  · obtain ⟨j, hj⟩ := List.mem_iff_getElem?.1 hx
    obtain ⟨y, hy, h1, _⟩ := h.get hj
    have := h.rg y (List.mem_of_getElem? hy)
    exact ⟨y.1, h1, this⟩
theorem mapD.isKey {es : Array MapEntry} {bs : Bts} (h : mapD F es bs) : ∀ x ∈ es.toList, IsKey (.int .u32) x.key := fun x hx => by
  obtain ⟨j, hj⟩ := List.mem_iff_getElem?.1 hx
  obtain ⟨y, hy, h1, _⟩ := h.get hj
  rw [h1]; trivial
theorem und_bmap : Tryz.prog.underlying 70 = some (.map 30 95) := Tryz.underlying70
theorem zero_batch (w : World) : (zeroValue 95).run Tryz.prog w = .ok (.agg #[.int .u8 0, .int .u32 0, .slice none 0 0, .slice none 0 0]) w := by kernel_rfl
theorem lkB_r {mb : Nat} {es : Array MapEntry} {clock : Nat} {bs : Bts} {id : Int} (hM : M mb = some (.obj (.map es clock))) (hd : mapD F es bs) (k : ∀ v, btD F v (getB bs id) → K v ⟨F, M, N⟩) :
    lkp Tryz.prog 70 (.map (some mb)) (.int .u32 id) false K ⟨F, M, N⟩ := by
  refine lkf_r und_bmap Tryz.underlying30 zero_batch (d := .int .u32) rfl hd.isKey hM (fun hmiss => ?_) (fun j x hj hx => ?_)
  · refine k _ ?_
    rw [getB_miss (fun y hy e => ?_)]
    · exact btD.no
    · obtain ⟨j, hj⟩ := List.mem_iff_getElem?.1 hy
      have hl : j < es.toList.length := by rw [Array.length_toList, hd.len]; exact (List.getElem?_eq_some_iff.1 hj).1
      have h1 := (hd.ea j _ y (List.getElem?_eq_getElem hl) hj).1
      exact hmiss _ (List.getElem_mem hl) (by rw [h1, e])
  · obtain ⟨y, hy, h1, h2, _⟩ := hd.get hj
    have e : y.1 = id := by rw [h1] at hx; simpa using hx
    refine k _ ?_
    rw [← e, getB_hit hd.nd hy]; exact h2
theorem muB_r {mb : Nat} {es : Array MapEntry} {bs : Bts} {id : Int} {v : Value} {b : Bt} (hM : M mb = some (.obj (.map es bs.length))) (hd : mapD F es bs) (hb : btD F v b) (h0 : 0 ≤ id) (h1 : id < 4294967296)
    (k : ∀ es', mapD F es' (setB bs id b) → K undef ⟨F, upd M mb (some (.obj (.map es' (setB bs id b).length))), N⟩) :
    mup Tryz.prog 70 (.map (some mb)) (.int .u32 id) v K ⟨F, M, N⟩ := by
  refine mu_r und_bmap Tryz.underlying30 (d := .int .u32) rfl hd.isKey hM (fun hmiss => ?_) (fun j x hj hx => ?_)
  · have hno : ¬ hasB bs id = true := fun h => by
      obtain ⟨y, hy, e⟩ := hasB_iff.1 h
      obtain ⟨j, hj⟩ := List.mem_iff_getElem?.1 hy
      have hl : j < es.toList.length := by rw [Array.length_toList, hd.len]; exact (List.getElem?_eq_some_iff.1 hj).1
      have h2 := (hd.ea j _ y (List.getElem?_eq_getElem hl) hj).1
      exact hmiss _ (List.getElem_mem hl) (by rw [h2, e])
    have e : setB bs id b = bs ++ [(id, b)] := by unfold setB; rw [if_neg hno]
    have hl : (setB bs id b).length = bs.length + 1 := by rw [e]; simp
    have hel : es.toList.length = bs.length := by rw [Array.length_toList, hd.len]
    have := k (es.push ⟨.int .u32 id, v, bs.length⟩) ⟨?_, fun i e' x h3 h4 => ?_, setB_nodup hd.nd, fun x hx => ?_⟩
    · rw [hl] at this; exact this
    · rw [Array.size_push, hl, hd.len]
    · rw [e] at h4
      rw [Array.toList_push] at h3
      rcases Nat.lt_or_ge i bs.length with hi | hi
      · rw [List.getElem?_append_left (by rw [Array.length_toList, hd.len]; exact hi)] at h3
        rw [List.getElem?_append_left hi] at h4
        exact hd.ea i e' x h3 h4
      · rw [List.getElem?_append_right (by rw [hel]; exact hi), hel] at h3
        rw [List.getElem?_append_right hi] at h4
        obtain ⟨hi2, h5⟩ := List.getElem?_eq_some_iff.1 h4
        have hz : i - bs.length = 0 := by simp at hi2; omega
        rw [hz] at h3 h4
        simp at h3 h4
        subst h3; subst h4
        exact ⟨rfl, hb, by simp only; omega⟩
    · rcases mem_setB hx with rfl | ⟨h3, _⟩
      · exact ⟨h0, h1⟩
      · exact hd.rg x h3
  · obtain ⟨y, hy, h2, h3, h4⟩ := hd.get hj
    have e : y.1 = id := by rw [h2] at hx; simpa using hx
    have hyes : hasB bs id = true := hasB_iff.2 ⟨y, List.mem_of_getElem? hy, e⟩
    have es1 : setB bs id b = bs.map (fun x => if x.1 = id then (id, b) else x) := by unfold setB; rw [if_pos hyes]
    have hl : (setB bs id b).length = bs.length := by rw [es1]; simp
    have hjl := (List.getElem?_eq_some_iff.1 hy).1
    have := k (es.modify j (fun e' => { e' with key := .int .u32 id, val := v })) ⟨by rw [Array.size_modify, hl, hd.len], fun i e' x h5 h6 => ?_, setB_nodup hd.nd, fun x hx => ?_⟩
    · rw [hl] at this; exact this
    · rw [es1, List.getElem?_map] at h6
      rw [Array.getElem?_toList, Array.getElem?_modify] at h5
      cases hbi : bs[i]? with
      | none => rw [hbi] at h6; simp at h6
      | some z =>
        rw [hbi] at h6
        simp only [Option.map_some, Option.some.injEq] at h6
        have hil := (List.getElem?_eq_some_iff.1 hbi).1
        have hei : es.toList[i]? = some (es.toList[i]'(by rw [Array.length_toList, hd.len]; exact hil)) := List.getElem?_eq_getElem _
        obtain ⟨z1, z2, z3⟩ := hd.ea i _ z hei hbi
        by_cases hij : j = i
        · subst hij
          rw [if_pos rfl] at h5
          rw [← Array.getElem?_toList, hei] at h5
          simp only [Option.map_some, Option.some.injEq] at h5
          have hz : z = y := by rw [hbi] at hy; simpa using hy
          rw [hz, if_pos e] at h6
          subst h5; subst h6
          exact ⟨rfl, hb, z3⟩
        · rw [if_neg hij, ← Array.getElem?_toList, hei] at h5
          simp only [Option.some.injEq] at h5
          have hz : z.1 ≠ id := fun e2 => by
            have hne : i ≠ j := fun e3 => hij e3.symm
            have hp := hd.nd
            rcases Nat.lt_or_gt_of_ne hne with h | h
            · have := List.pairwise_iff_getElem.1 hp i j (by simpa using hil) (by simpa using hjl) h
              rw [List.getElem_map, List.getElem_map, (List.getElem?_eq_some_iff.1 hbi).2, (List.getElem?_eq_some_iff.1 hy).2] at this
              exact this (by rw [e2, e])
            · have := List.pairwise_iff_getElem.1 hp j i (by simpa using hjl) (by simpa using hil) h
              rw [List.getElem_map, List.getElem_map, (List.getElem?_eq_some_iff.1 hbi).2, (List.getElem?_eq_some_iff.1 hy).2] at this
              exact this (by rw [e2, e])
          rw [if_neg hz] at h6
          subst h5; subst h6
          exact ⟨z1, z2, z3⟩
    · rcases mem_setB hx with rfl | ⟨h7, _⟩
      · exact ⟨h0, h1⟩
      · exact hd.rg x h7
end Go.Proofs.YtgcmbkoejjcjlaaGreatDoor.A
open Go Go.RowKit Go.Proofs.YtgcmbkoejjcjlaaGreatDoor.K Go.Proofs.YtgcmbkoejjcjlaaGreatDoor.T
set_option linter.unusedVariables false
set_option linter.unusedSimpArgs false
namespace Go.Proofs.YtgcmbkoejjcjlaaGreatDoor.A
variable {F F' : Nat → Option (List Value)} {M M' : Nat → Option Chunk} {N N' : Nat} {K : Kont} {E : PanK}
theorem keyOf_in {l : List Dm} (hs : ∀ d ∈ l, 0 < d.1 ∧ d.1 ≤ 1000000) (c : List Int) : inF l (keyOf l c) = true := by
  have hkl := keyOf_len l c
  unfold inF
  rw [decide_eq_true hkl, Bool.true_and, List.all_eq_true]
  intro i hi
  have hi' : i < l.length := List.mem_range.1 hi
  have := keyOf_at (c := c) hs (by omega : i < (keyOf l c).length) hi'
  unfold inP
  rw [getD_at (by omega : i < (keyOf l c).length), getD_at hi']
  exact decide_eq_true this
theorem goodDims_sz {l : List Dm} (h : goodDims l) : ∀ d ∈ l, 0 < d.1 ∧ d.1 ≤ 1000000 := fun d hd => by have := h.2.2 d hd; omega
theorem facts_fit {l : List Dm} (hl : goodDims l) (ks : List (List Int)) (v : List Int) : fitsF l (factsOf l ks v) = true := by
  refine of_fitsF (by rw [factsOf_len]; omega) fun f hf => ?_
  obtain ⟨c, hc⟩ := (factsOf_mem hf).1
  rw [hc]; exact keyOf_in (goodDims_sz hl) c
theorem u32w {x : Int} (h0 : 0 ≤ x) (h1 : x < 4294967296) : IntKind.u32.wrap x = x := by
  unfold IntKind.wrap
  simp [IntKind.bits, IntKind.signed]
  omega
theorem u32_add {e : EqK} {a b : Int} {h : Hp} (h0 : 0 ≤ a + b) (h1 : a + b < 4294967296) (kk : K (.int .u32 (a + b)) h) : pv (binV e .add (.int .u32 a) (.int .u32 b)) K h := ⟨_, by rw [inV]; rfl, by rw [u32w h0 h1]; exact kk⟩
theorem ptr_ne {b : Nat} {h : Hp} (k : K (.bool false) h) : pv (binV .ptr .eql (.pointer (some ⟨b, 0, none⟩)) (.pointer none)) K h := ⟨_, rfl, k⟩
end Go.Proofs.YtgcmbkoejjcjlaaGreatDoor.A
open Go Go.RowKit Go.Proofs.YtgcmbkoejjcjlaaGreatDoor.K Go.Proofs.YtgcmbkoejjcjlaaGreatDoor.T
set_option linter.unusedVariables false
set_option linter.unusedSimpArgs false
namespace Go.Proofs.YtgcmbkoejjcjlaaGreatDoor.A
variable {F F' : Nat → Option (List Value)} {M M' : Nat → Option Chunk} {N N' : Nat} {K : Kont} {E : PanK}
theorem fctss_two {b : Nat} {u v : Value} {s t : List Fc} (hF : F b = some [u, v]) (hu : fctsD F u s) (hv : fctsD F v t) (hs : s.length ≤ 1000000) (ht : t.length ≤ 1000000) : fctssD F (.slice (some ⟨b, 0, none⟩) 2 2) [s, t] := by
  obtain ⟨a1, c1, e1⟩ := hu.form
  obtain ⟨a2, c2, e2⟩ := hv.form
  have o1 : [u].length = 1 ∧ ∀ c ∈ [u], c.oneCell' = true := ⟨rfl, fun c hc => by rw [List.mem_singleton.1 hc, e1]; rfl⟩
  have o2 : [v].length = 1 ∧ ∀ c ∈ [v], c.oneCell' = true := ⟨rfl, fun c hc => by rw [List.mem_singleton.1 hc, e2]; rfl⟩
  exact ⟨[[u], [v]], sF_lit hF rfl (by decide), rowsF_snoc1 (rowsF_snoc1 (rowsF.nil _ 1) o1 ⟨u, rfl, hu, by omega⟩) o2 ⟨v, rfl, hv, by omega⟩⟩
set_option maxRecDepth 10000 in
theorem hwithF_c {B : Nat} {v fv : Value} {rows : List (List Value)} {h : List En} {t : Int} {fs : List Fc} (hv : own M B 74 2 v h.length rows.flatten) (hB : B ≤ N) (hr : rowsF (entD F) 2 rows h) (hs : risen h) (hl : h.length ≤ 10000000000) (hm' : ∀ e ∈ h, e.2.length ≤ 1000000) (hf : fctsD F fv fs) (hfl : fs.length ≤ 1000000) (hk : ∀ f ∈ fs, f.1.length ≤ 10000000000)
    (k : ∀ v' F' M' N' rows', subF F F' → own M' B 74 2 v' (withR h t fs).length rows'.flatten → rowsF (entD F') 2 rows' (withR h t fs) → (∀ q, v.ownBlock ≠ some q → q < N → M' q = M q ∧ v'.ownBlock ≠ some q) → N ≤ N' → clean M' N' → (Hp.mk F' M' N').wf → K v' ⟨F', M', N'⟩) :
    callv Tryz.prog (.func (.func 93) #[] #[]) #[v, .int .u32 t, fv] K E ⟨F, M, N⟩ := by
  cases ht : there h t
  · refine hwith_c hv hB hr hs hl ht hf hfl hk ?_
    rw [← withH_new ht, withH_eq]
    exact k
  have hi := there_lt ht
  rw [← withH_eq, withH_old ht hi] at k
  refine callv_of_text mixed Tryz.func93 (by kernel_rfl) (t93 _ E _ _ _) (fun hw => ?_)
  have hm : clean M N := hw.m
  refine find_c hv hr hs (by omega) (fun N1 hN1 hw1 => ?_)
  rw [ht]
  try simp only [sS]
  refine ofld_r (off := 1) hv hr (by decide) hi fun b c r x hvf hcell hri hR hrl hx => ?_
  obtain ⟨ov, rfl, hov, hovl⟩ := hR
  have hx' : x = ov := by simpa using hx.symm
  subst hx'
  have het : h[place h t].1 = t := by rw [there_in hi] at ht; exact of_decide_eq_true ht
  have hom := hm' _ (List.getElem_mem hi)
  refine cclone_c hf (by omega) hk (fun v2 F2 N2 hw2 hF2 hN2 hf2 => ?_)
  obtain ⟨cs, tot, hMb, hcs⟩ := hcell
  refine ⟨⟨cs, .inr ⟨_, _, hMb⟩, by rw [Nat.zero_add]; exact hcs⟩, ?_⟩
  have hov2 := hov.mono hF2
  obtain ⟨a1, c1, e1⟩ := hov2.form
  obtain ⟨a2, c2, e2⟩ := hf2.form
  have hm2 : clean M N2 := hw2.m
  refine nws_r (cs := [x, v2]) (by rw [e1, e2]; kernel_rfl) (fun b9 hb9 => ?_)
  refine callv_go (fun hc => ⟨_, wk_P (p := fun q => q = b9) hc, ?_⟩)
  have hs3 := subF_frzP (p := fun q => q = b9) hc
  have f9 := frzP_at (F := F2) (p := fun q => q = b9) rfl (upd_same M b9 (some (.cells 38 [x, v2] [x, v2].length)))
  have hMK : ∀ q, q < N2 → keepM (upd M b9 (some (.cells 38 [x, v2] [x, v2].length))) (fun q => ¬ q = b9) q = M q := fun q hq => (keepM_in (by omega)).trans (upd_ne _ _ (by omega))
  have hmK : clean (keepM (upd M b9 (some (.cells 38 [x, v2] [x, v2].length))) (fun q => ¬ q = b9)) (b9 + 1) := keepM_clean (hm2.new hb9 _)
  generalize frzP F2 _ _ = F3 at *
  generalize keepM _ _ = M3 at *
  clear hc
  refine concatF_c (ts := [h[place h t].2, fs]) (fctss_two f9 (hov2.mono hs3) (hf2.mono hs3) hom hfl) (by simp; omega) (by simp) (fun v10 F4 N4 hw4 hF4 hN4 h10 => ?_)
  have ef : [h[place h t].2, fs].flatten = h[place h t].2 ++ fs := by simp
  rw [ef] at h10
  obtain ⟨a10, c10, e10⟩ := h10.form
  have hv4 : own M3 B 74 2 v h.length rows.flatten := hv.keep (fun q hq => hMK q (by have := hv.lt hm q hq; omega)) (Nat.le_refl _)
  have F04 := (hF2.trans hs3).trans hF4
  refine oput_r (y := (t, h[place h t].2 ++ fs)) hv4 (hr.mono fun _ _ h => h.mono F04) (by decide) hi (by rw [e10]; rfl) (by rw [e10]; rfl) (fun r' hr' => ?_) (fun p q M5 rows' g1 g2 g3 g4 => ?_)
  · rw [hri] at hr'
    cases hr'
    refine ⟨v10, by simp [het], h10, by simp only [List.length_append]; omega⟩
  exact fun hc => ⟨_, wk_refl hc, fun hw' => k v F4 M5 N4 rows' F04 g1 g2 (fun q hq hqN => ⟨(g3 q hq).trans (hMK q (by omega)), hq⟩) (by omega) (g4 _ hw4.m) hw'⟩
theorem longH_t {h : List En} {i : Nat} (hi : i < h.length) (h0 : 200 < h[i].2.length) : longH h = true := List.any_eq_true.2 ⟨_, List.getElem_mem hi, decide_eq_true h0⟩
theorem long1_c {cs : List Value} {e : En} (he : entD F cs e) (k : ∀ N', N ≤ N' → (Hp.mk F M N').wf → K (.bool (decide (200 < e.2.length))) ⟨F, M, N'⟩) :
    callv Tryz.prog (.func (.func 95) #[] #[]) #[.agg cs.toArray] K E ⟨F, M, N⟩ := by
  refine callv_of_text mixed Tryz.func95 (by kernel_rfl) (t95 _ E _) (fun hw => ?_)
  have hm : clean M N := hw.m
  obtain ⟨v, rfl, hv, hvl⟩ := he
  refine nw_r (cs := [.int .u32 e.1, v]) (fun b hb => ?_)
  try simp only [sS]
  refine ldM (v := v) ?_
  obtain ⟨frows, h1, h2⟩ := hv
  refine lenF_r h1 ?_
  refine gtr_r (fun h0 => ?_) (fun h0 => ?_)
  · rw [decide_eq_true (by omega)] at k
    exact fun hc => ⟨⟨F, M, b + 1⟩, wk_drop hc (subM_drop (subM_refl _) (hm _ hb)), fun hw' => k _ (by omega) hw'⟩
  · rw [decide_eq_false (by omega)] at k
    exact fun hc => ⟨⟨F, M, b + 1⟩, wk_drop hc (subM_drop (subM_refl _) (hm _ hb)), fun hw' => k _ (by omega) hw'⟩
theorem long_c {B : Nat} {v : Value} {rows : List (List Value)} {h : List En} (hv : own M B 74 2 v h.length rows.flatten) (hr : rowsF (entD F) 2 rows h) (hl : h.length ≤ 10000000000) (k : ∀ N', N ≤ N' → (Hp.mk F M N').wf → K (.bool (longH h)) ⟨F, M, N'⟩) :
    callv Tryz.prog (.func (.func 96) #[] #[]) #[v, .func (.func 95) #[] #[]] K E ⟨F, M, N⟩ := by
  refine callv_of_text mixed Tryz.func96 (by kernel_rfl) (t96 _ E _ _) (fun hw => ?_)
  refine callv_of_text mixed Tryz.func120 (by kernel_rfl) (t120 _ E _ _) (fun hw => ?_)
  have hlv : lenV v = some (.int .i64 (h.length : Nat)) := by obtain ⟨a, c, e, _⟩ := hv.form; rw [e]; rfl
  refine pv_r hlv ?_
  refine l120_1_0_1_0_0 (σ := Nat) (fun i => .int .i64 (i : Nat)) (fun i h' => ∃ N', h' = ⟨F, M, N'⟩ ∧ N ≤ N' ∧ i ≤ h.length ∧ longH h = longH (h.drop i)) (fun i => h.length - i) 0 rfl
    (fun hw1 => ⟨_, wk_refl hw1, N, rfl, Nat.le_refl _, Nat.zero_le _, rfl⟩) (fun kk i j h1 hI hw1 next => ?_)
  rw [t120_1_0_1_0_0]
  obtain ⟨N1, rfl, hN1, hi, he⟩ := hI
  refine lss_r (fun hlt => ?_) (fun hge => ?_)
  · have i1 : i < h.length := by omega
    try simp only [sS]
    refine orow_r hv hr (by decide) i1 fun q r _ hR _ _ => long1_c hR (fun N2 hN2 hw2 => ?_)
    by_cases h0 : 200 < h[i].2.length
    · rw [decide_eq_true h0]
      refine cnd_t ?_
      refine fun hc => ⟨_, wk_refl hc, fun hw' => geq_t (by omega) fun hc => ⟨_, wk_refl hc, fun hw' => ?_⟩⟩
      have := k N2 (by omega) hw'
      rw [longH_t i1 h0] at this
      exact this
    · rw [decide_eq_false h0]
      refine cnd_f ?_
      refine inc_r (by omega) ?_
      refine next (i + 1) _ _ (by omega) (fun hw3 => ⟨_, wk_refl hw3, N2, rfl, by omega, i1, ?_⟩)
      rw [he, List.drop_eq_getElem_cons i1]
      unfold longH
      rw [List.any_cons, decide_eq_false h0, Bool.false_or]
  · try simp only [sS]
    refine fun hc => ⟨_, wk_refl hc, fun hw' => geq_f (by omega) fun hc => ⟨_, wk_refl hc, fun hw' => ?_⟩⟩
    have := k N1 hN1 hw'
    rw [he, List.drop_eq_nil_of_le (by omega)] at this
    exact this
end Go.Proofs.YtgcmbkoejjcjlaaGreatDoor.A
open Go Go.RowKit Go.Proofs.YtgcmbkoejjcjlaaGreatDoor.K Go.Proofs.YtgcmbkoejjcjlaaGreatDoor.T
set_option linter.unusedVariables false
set_option linter.unusedSimpArgs false
namespace Go.Proofs.YtgcmbkoejjcjlaaGreatDoor.A
variable {F F' : Nat → Option (List Value)} {M M' : Nat → Option Chunk} {N N' : Nat} {K : Kont} {E : PanK}
theorem layAll_take (h es : List En) {i : Nat} (hi : i < es.length) : layAll h (es.take (i + 1)) = lay1 (layAll h (es.take i)) es[i] := by
  unfold layAll
  rw [List.take_add_one, List.getElem?_eq_getElem hi, Option.toList_some, List.foldl_append]; rfl
set_option maxRecDepth 10000 in
set_option maxHeartbeats 4000000 in
theorem creplace_c {B g : Nat} {hv dv ev : Value} {rows : List (List Value)} {l : List Dm} {h es : List En} {a b : Int} (hC : isCube F M B g hv dv rows l h) (hB : B ≤ N) (o : okH l 5000 200 h) (hdl : l.length ≤ 1000) (hes : entsD F ev es) (hel : es.length ≤ 140737488351232) (heT : ∀ e ∈ es, e.1 < 4294967296)
    (k : ∀ hv' F' M' N' rows', subF F F' → isCube F' M' B g hv' dv rows' l (replF l a b h es) → (∀ q, hv.ownBlock ≠ some q → q ≠ g → q < N → M' q = M q ∧ hv'.ownBlock ≠ some q) → N ≤ N' → clean M' N' → (Hp.mk F' M' N').wf → K (.int .u16 ((replE l a b h es : Nat) : Int)) ⟨F', M', N'⟩) :
    callv Tryz.prog (.func (.func 67) #[] #[]) #[.pointer (some ⟨g, 0, none⟩), .int .i64 a, .int .i64 b, ev] K E ⟨F, M, N⟩ := by
  refine callv_of_text mixed Tryz.func67 (by kernel_rfl) (t67 _ E _ _ _ _) (fun hw => ?_)
  have hm : clean M N := hw.m
  have hgN := hm.lt hC.gg
  have hol := o.le
  have hgB := hC.gB
  have hlv : lenV hv = some (.int .i64 (h.length : Nat)) := by obtain ⟨x, c, e, _⟩ := hC.oo.form; rw [e]; rfl
  have same : replE l a b h es ≠ 0 → ∀ F' M' N', (Hp.mk F' M' N').wf → subF F F' → N ≤ N' → (∀ q, q < N → M' q = M q) → K (.int .u16 ((replE l a b h es : Nat) : Int)) ⟨F', M', N'⟩ := fun hne F' M' N' hw' hF hN hM => by
    refine k hv F' M' N' rows hF ?_ (fun q hq _ hqN => ⟨hM q hqN, hq⟩) hN hw'.m hw'
    unfold replF; rw [if_neg hne]
    exact hC.keep hF (fun q hq => hM q (hC.lt hm q hq).2)
  refine within_cube_c (fun w F1 N1 hw1 hF1 hN1 hW => ?_)
  refine cright_c (hC.keep (M' := M) hF1 (fun _ _ => rfl)) hdl (hes.mono hF1) (by omega) hW (fun F2 N2 hw2 hF2 hN2 => ?_)
  have F02 := hF1.trans hF2
  cases hrt : rightF l a b 0 es
  · have e1 : replE l a b h es = 1 := by unfold replE; rw [if_pos hrt]
    try simp only [sS]
    refine fun hc => ⟨_, wk_refl hc, fun hw' => ?_⟩
    have := same (by omega) _ _ _ hw' F02 (by omega) (fun _ _ => rfl)
    rw [e1] at this; exact this
  have hrE : replE l a b h es = if 5000 < (replH a b h es).length ∨ longH (replH a b h es) = true then 3 else 0 := by unfold replE; rw [if_neg (by rw [hrt]; decide)]
  obtain ⟨er1, er2⟩ := rightF_all hrt
  have hen := rightF_len hrt (by decide : (0 : Int) < 4294967296) heT
  try simp only [sS]
  refine ldM (v := hv) ?_ hC.gg
  refine pv_r hlv ?_
  refine l67_1_1_1_1_0_1_0_0 (σ := Nat × Value) (fun s => s.2) (fun s => .int .i64 (s.1 : Nat))
    (fun s h' => ∃ F' M' N' rows', h' = ⟨F', M', N'⟩ ∧ subF F2 F' ∧ N ≤ N' ∧ (∀ q, q < N → M' q = M q) ∧ clean M' N' ∧ s.1 ≤ h.length ∧ own M' N 74 2 s.2 (restH a b (h.take s.1)).length rows'.flatten ∧ rowsF (entD F') 2 rows' (restH a b (h.take s.1))) (fun s => h.length - s.1) (0, .slice none 0 0) rfl rfl
    (fun hw3 => ⟨_, wk_refl hw3, F2, M, N2, [], rfl, subF.refl _, by omega, fun _ _ => rfl, hw2.m, Nat.zero_le _, own.nil, rowsF.nil _ _⟩) (fun kk s j h1 hI hw3 next => ?_)
  · rw [t67_1_1_1_1_0_1_0_0]
    obtain ⟨F3, M3, N3, rows3, rfl, hF3, hN3, hM3, hm3, hi, ho, hr⟩ := hI
    refine lss_r (fun hlt => ?_) (fun hge => ?_)
    · have i1 : s.1 < h.length := by omega
      have e1 := take_fm (restE a b) h i1
      have hle : (restH a b (h.take s.1)).length ≤ s.1 := fm_len (restE a b) h s.1
      try simp only [sS]
      have hoo1 : own M3 B 74 2 hv h.length rows.flatten := hC.oo.keep (fun q hq => hM3 q (hC.oo.lt hm q hq)) (Nat.le_refl _)
      refine orow_r hoo1 hC.rr (by decide) i1 fun p r _ hR _ hr1 => ?_
      obtain ⟨fv, rfl, hfv, hfl⟩ := hR
      have hfm := o.fl _ (List.getElem_mem i1)
      refine nw_r (fun b4 hb4 => ?_)
      refine stM (cs' := [.int .u32 h[s.1].1, fv]) ?_ (upd_same _ _ _) rfl rfl hr1
      rw [upd_upd]
      have hbox := upd_same M3 b4 (some (.cells 74 [.int .u32 h[s.1].1, fv] [Value.int .u32 0, Value.slice none 0 0].length))
      have ho2 := ho.box hm3 hb4 (some (.cells 74 [.int .u32 h[s.1].1, fv] [Value.int .u32 0, Value.slice none 0 0].length))
      have hm4 := hm3.new hb4 (some (.cells 74 [.int .u32 h[s.1].1, fv] [Value.int .u32 0, Value.slice none 0 0].length))
      have hM4 : ∀ q, q < N → upd M3 b4 (some (.cells 74 [.int .u32 h[s.1].1, fv] [Value.int .u32 0, Value.slice none 0 0].length)) q = M q := fun q hq => (upd_ne _ _ (by omega)).trans (hM3 q hq)
      generalize upd M3 b4 _ = M4 at *
      try simp only [sS]
      refine ldM (v := fv) ?_ hbox
      have hfv3 := hfv.mono (F02.trans hF3)
      have hfv3' := hfv3
      obtain ⟨frows0, hfv3a, _⟩ := hfv3'
      refine chosen_c hfv3 (hW.mono (hF2.trans hF3)) (by omega) (o.keys hdl (List.getElem_mem i1)) (fun v4 F4 N4 hw4 hF4 hN4 hf4 => ?_)
      rw [ofK_false] at hf4
      obtain ⟨frows, hf4a, hf4b⟩ := hf4
      have hF4' := hF3.trans hF4
      have hflen : (h[s.1].2.filter (outR a b)).length ≤ 200 := by have := List.length_filter_le (outR a b) h[s.1].2; omega
      obtain ⟨a5, c5, e5, _⟩ := hf4a.form
      have he4 : entD F4 [.int .u32 h[s.1].1, v4] (h[s.1].1, h[s.1].2.filter (outR a b)) := ⟨v4, rfl, ⟨frows, hf4a, hf4b⟩, by simp only; omega⟩
      refine lenF_r hf4a ?_
      have skip : ¬ (0 < (h[s.1].2.filter (outR a b)).length ∨ h[s.1].2.length = 0) → restH a b (h.take (s.1 + 1)) = restH a b (h.take s.1) := fun hn => by
        unfold restH
        rw [e1]
        unfold restE
        rw [if_neg hn]; simp
      have take1 : (0 < (h[s.1].2.filter (outR a b)).length ∨ h[s.1].2.length = 0) → restH a b (h.take (s.1 + 1)) = restH a b (h.take s.1) ++ [(h[s.1].1, h[s.1].2.filter (outR a b))] := fun hn => by
        unfold restH
        rw [e1]
        unfold restE
        rw [if_pos hn]; rfl
      refine gtr_r (fun h0 => ?_) (fun h0 => ?_)
      rotate_left
      try simp only [sS]
      refine ldM (v := fv) ?_ hbox
      try simp only [sS]
      refine lenF_r hfv3a ?_
      try simp only [sS]
      refine eql_r (fun h9 => ?_) (fun h9 => ?_)
      rotate_left
      · try simp only [sS]
        rw [t67_1_1_1_1_0_1_0_0_1_1_1]
        refine inc_r (by omega) ?_
        refine next (s.1 + 1, s.2) _ _ (by simp only; omega) (fun hw5 => ⟨_, wk_refl hw5, F4, M4, N4, rows3, rfl, hF4', by omega, hM4, hw4.m, i1, ?_, ?_⟩)
        · simp only
          rw [skip (by omega)]; exact ho2
        · simp only
          rw [skip (by omega)]; exact hr.mono fun _ _ h => h.mono hF4
      all_goals
        try simp only [sS]
        refine ldM (v := .int .u32 h[s.1].1) ?_ hbox
        refine pv_r (v := .agg #[.int .u32 h[s.1].1, v4]) (by rw [e5]; kernel_rfl) ?_
        refine push_r (new := [.int .u32 h[s.1].1, v4]) ho2 hw4.m (by omega) (by rw [e5]; kernel_rfl) rfl he4.one.2 (by omega) (by unfold maxLen; omega) (fun p v' M5 N5 g1 g2 g3 g4 => ?_)
        rw [t67_1_1_1_1_0_1_0_0_1_1_1]
        refine inc_r (by omega) ?_
        refine next (s.1 + 1, v') _ _ (by simp only; omega) (fun hw5 => ⟨_, wk_refl hw5, F4, M5, N5, rows3 ++ [[.int .u32 h[s.1].1, v4]], rfl, hF4', by omega, fun q hq => ?_, g4, i1, ?_, ?_⟩)
        · exact ((g2 q (fun e => by have := (ho2.ge q e).1; omega) (by omega)).1).trans (hM4 q hq)
        · simp only
          rw [take1 (by omega), List.length_append, List.length_singleton]
          exact (by simpa using g1 : own M5 N 74 2 v' _ (rows3 ++ [[.int .u32 h[s.1].1, v4]]).flatten)
        · simp only
          rw [take1 (by omega)]
          exact rowsF_snoc1 (hr.mono fun _ _ h => h.mono hF4) he4.one he4
    · try simp only [sS]
      rw [List.take_of_length_le (by omega)] at ho hr
      have oR := o.rest a b
      have F03 := F02.trans hF3
      obtain ⟨erows, hes1, hes2⟩ := hes.mono F03
      have hlay : ∀ i, risen (layAll (restH a b h) (es.take i)) ∧ (layAll (restH a b h) (es.take i)).length ≤ 9000000000 ∧ ∀ e ∈ layAll (restH a b h) (es.take i), e.2.length ≤ 1000000 := fun i => by
        have x1 := layAll_len (es.take i) (restH a b h)
        have x2 := oR.le
        rw [List.length_take] at x1
        have x3 : risen (es.take i) := er1.sublist (List.take_sublist _ _)
        refine ⟨layAll_risen oR.rs, by omega, fun e he => ?_⟩
        have := layAll_fl oR.rs x3 oR.fl (fun e he => (fitsF_of (er2 e (List.mem_of_mem_take he)).2.1).1) e he
        omega
      refine lenF_r hes1 ?_
      refine l67_1_1_1_1_1_0_1_0_0 (σ := Nat × Value) (fun s => s.2) (fun s => .int .i64 (s.1 : Nat))
        (fun s h' => ∃ F' M' N' rows', h' = ⟨F', M', N'⟩ ∧ subF F3 F' ∧ N ≤ N' ∧ (∀ q, q < N → M' q = M q) ∧ clean M' N' ∧ s.1 ≤ es.length ∧ own M' N 74 2 s.2 (layAll (restH a b h) (es.take s.1)).length rows'.flatten ∧ rowsF (entD F') 2 rows' (layAll (restH a b h) (es.take s.1))) (fun s => es.length - s.1) (0, s.2) rfl rfl
        (fun hw4 => ⟨_, wk_refl hw4, F3, M3, N3, rows3, rfl, subF.refl _, hN3, hM3, hm3, Nat.zero_le _, ho, hr⟩) (fun kk s j h1 hI hw4 next => ?_)
      rw [t67_1_1_1_1_1_0_1_0_0]
      obtain ⟨F4, M4, N4, rows4, rfl, hF4, hN4, hM4, hm4, hi, ho, hr⟩ := hI
      obtain ⟨y1, y2, y3⟩ := hlay s.1
      refine lss_r (fun hlt => ?_) (fun hge => ?_)
      · have i1 : s.1 < es.length := by omega
        have et := layAll_take (restH a b h) es i1
        obtain ⟨z1, z2, z3⟩ := er2 _ (List.getElem_mem i1)
        obtain ⟨f1, f2⟩ := fitsF_of z2
        try simp only [sS]
        refine row_r (hes1.mono hF4) (hes2.mono fun _ _ h => h.mono hF4) (by decide) i1 (fun p r _ hR hrl hr1 => ?_)
        obtain ⟨fv, hre, hfv, hfl⟩ := hR
        subst hre
        refine nw_r (fun b4 hb4 => ?_)
        refine stM (cs' := [.int .u32 es[s.1].1, fv]) ?_ (upd_same _ _ _) rfl rfl hr1
        rw [upd_upd]
        have hbox := upd_same M4 b4 (some (.cells 74 [.int .u32 es[s.1].1, fv] [Value.int .u32 0, Value.slice none 0 0].length))
        have ho2 := ho.box hm4 hb4 (some (.cells 74 [.int .u32 es[s.1].1, fv] [Value.int .u32 0, Value.slice none 0 0].length))
        have hm5 := hm4.new hb4 (some (.cells 74 [.int .u32 es[s.1].1, fv] [Value.int .u32 0, Value.slice none 0 0].length))
        have hM5 : ∀ q, q < N → upd M4 b4 (some (.cells 74 [.int .u32 es[s.1].1, fv] [Value.int .u32 0, Value.slice none 0 0].length)) q = M q := fun q hq => (upd_ne _ _ (by omega)).trans (hM4 q hq)
        generalize upd M4 b4 _ = M5 at *
        try simp only [sS]
        refine ldM (v := fv) ?_ hbox
        have hfv' := hfv
        obtain ⟨frows, hfa, _⟩ := hfv'
        refine lenF_r hfa ?_
        refine gtr_r (fun h0 => ?_) (fun h0 => ?_)
        · try simp only [sS]
          refine ldM (v := .int .u32 es[s.1].1) ?_ hbox
          try simp only [sS]
          refine ldM (v := fv) ?_ hbox
          refine hwithF_c ho2 (by omega) hr y1 (by omega) y3 hfv (by omega) (fun f hf => by have := inF_len (f2 f hf); omega) (fun v' F6 M6 N6 rows6 hF6 g1 g2 g3 g4 g5 g6 => ?_)
          rw [t67_1_1_1_1_1_0_1_0_0_1_1_1]
          refine inc_r (by omega) ?_
          have e3 : layAll (restH a b h) (es.take (s.1 + 1)) = withR (layAll (restH a b h) (es.take s.1)) es[s.1].1 es[s.1].2 := by
            rw [et]; unfold lay1; rw [if_pos (by omega)]
          refine next (s.1 + 1, v') _ _ (by simp only; omega) (fun hw5 => ⟨_, wk_refl hw5, F6, M6, N6, rows6, rfl, hF4.trans hF6, by omega, fun q hq => ?_, g5, i1, ?_, ?_⟩)
          · exact ((g3 q (fun e => by have := (ho2.ge q e).1; omega) (by omega)).1).trans (hM5 q hq)
          · simp only
            rw [e3]; exact g1
          · simp only
            rw [e3]; exact g2
        · try simp only [sS]
          rw [t67_1_1_1_1_1_0_1_0_0_1_1_1]
          refine inc_r (by omega) ?_
          have e3 : layAll (restH a b h) (es.take (s.1 + 1)) = layAll (restH a b h) (es.take s.1) := by
            rw [et]; unfold lay1; rw [if_neg (by omega)]
          refine next (s.1 + 1, s.2) _ _ (by simp only; omega) (fun hw5 => ⟨_, wk_refl hw5, F4, M5, _, rows4, rfl, hF4, by omega, hM5, hm5, i1, ?_, ?_⟩)
          · simp only
            rw [e3]; exact ho2
          · simp only
            rw [e3]; exact hr
      · try simp only [sS]
        rw [List.take_of_length_le (by omega)] at ho hr y1 y2 y3
        have F04 := F03.trans hF4
        have hlo : lenV s.2 = some (.int .i64 ((layAll (restH a b h) es).length : Nat)) := by obtain ⟨x, c, e, _⟩ := ho.form; rw [e]; rfl
        have bad : replE l a b h es = 3 → ∀ N', N4 ≤ N' → ∀ h', h' = (⟨F4, M4, N'⟩ : Hp) → h'.wf → ∃ h'', h'.wk h'' ∧ (h''.wf → K (.int .u16 3) h'') := fun e3 N' hN' h' e' hc => by
          subst e'
          refine ⟨_, wk_refl hc, fun hw' => ?_⟩
          have := same (by omega) _ _ _ hw' F04 (by omega) hM4
          rw [e3] at this; exact this
        refine pv_r hlo ?_
        refine gtr_r (fun h0 => ?_) (fun h0 => ?_)
        · try simp only [sS]
          exact bad (by rw [hrE]; unfold replH; rw [if_pos (.inl (by omega))]) N4 (Nat.le_refl _) _ rfl
        · try simp only [sS]
          refine long_c ho hr (by omega) (fun N5 hN5 hw5 => ?_)
          cases hlg : longH (layAll (restH a b h) es)
          · have e0 : replE l a b h es = 0 := by
              rw [hrE]; unfold replH; rw [if_neg (by rintro (q | q); omega; rw [hlg] at q; cases q)]
            obtain ⟨xa, xc, xe, _⟩ := ho.form
            try simp only [sS]
            refine stM (cs' := [s.2, dv]) ?_ ((hM4 g hgN).trans hC.gg) (by rw [xe]; rfl) (by rw [xe]; rfl) (by rw [xe]; exact List.all_eq_true.1 rfl)
            have hsg : s.2.ownBlock ≠ some g := fun e => by have := (ho.ge g e).1; omega
            refine fun hc => ⟨_, wk_refl hc, fun hw' => ?_⟩
            rw [e0] at k
            refine k s.2 F4 _ N5 rows4 F04 ?_ (fun q hq hqg hqN => ⟨(upd_ne _ _ hqg).trans (hM4 q hqN), fun e => by have := (ho.ge q e).1; omega⟩) (by omega) (clean.set hw5.m (by omega) _) hw'
            unfold replF; rw [if_pos e0]
            exact ⟨upd_same _ _ _, hgB, ho.keep (fun q hq => upd_ne _ _ (fun e => hsg (e ▸ hq))) hB, hr, hsg, hC.dd.mono F04, y1⟩
          · try simp only [sS]
            exact bad (by rw [hrE]; unfold replH; rw [if_pos (.inr hlg)]) N5 hN5 _ rfl
end Go.Proofs.YtgcmbkoejjcjlaaGreatDoor.A
