import Derived.Test.YtgjdjdjhoipfmaaGreatDoorZ3
import Derived.Test.YtgjdjdjhoipfmaaGreatDoorZ1
import Derived.Test.YtgjdjdjhoipfmaaGreatDoorZ2
import Derived.Test.YtgjdjdjhoipfmaaGreatDoorProg
import Derived.Lib.Overlaps
import Derived.Laws.Externs
set_option maxHeartbeats 4000000
open Go Go.RowKit Go.Proofs.YtgjdjdjhoipfmaaGreatDoor.K Go.Proofs.YtgjdjdjhoipfmaaGreatDoor.T
set_option linter.unusedVariables false
set_option linter.unusedSimpArgs false
namespace Go.Proofs.YtgjdjdjhoipfmaaGreatDoor.A
variable {F F' : Nat → Option (List Value)} {M M' : Nat → Option Chunk} {N N' : Nat} {K : Kont} {E : PanK}
theorem all_range_no {p : Nat → Bool} {n i : Nat} (hi : i < n) (h : p i = false) : (List.range n).all p = false := by
  rw [List.all_eq_false]
  exact ⟨i, List.mem_range.2 hi, by simp [h]⟩
theorem all_range_succ {p : Nat → Bool} {i : Nat} (h : (List.range i).all p = true) (hp : p i = true) : (List.range (i + 1)).all p = true := by
  rw [List.range_succ, List.all_append, h]; simp [hp]
theorem every_c {v fv : Value} {ls : List (List Int)} {p : Nat → Bool} {n : Nat} (hv : kksD .i64 F v ls) (hl : ls.length ≤ 1000000) (h0 : 0 < ls.length) (hn : ls[0].length = n) (hnl : n ≤ 140737488351232)
    (hf : (∀ x ∈ ls, x.length = n) → ∀ {K : Kont} (N1 i : Nat), N ≤ N1 → i < n → (∀ N', N1 ≤ N' → (Hp.mk F M N').wf → K (.bool (p i)) ⟨F, M, N'⟩) → callv Tryz.prog fv #[.int .i64 (i : Nat)] K E ⟨F, M, N1⟩)
    (k : ∀ N', N ≤ N' → (Hp.mk F M N').wf → K (.bool ((ls.all fun x => decide (x.length = n)) && (List.range n).all p)) ⟨F, M, N'⟩) :
    callv Tryz.prog (.func (.func 122) #[] #[]) #[fv, v] K E ⟨F, M, N⟩ := by
  refine callv_of_text mixed Tryz.func122 (by kernel_rfl) (t122 _ E _ _) (fun hw => ?_)
  have hlv : lenV v = some (.int .i64 (ls.length : Nat)) := by obtain ⟨rows, h1, _⟩ := hv; obtain ⟨a, c, rfl, _⟩ := h1.form; rfl
  have fin : ∀ v', v' = ((ls.all fun x => decide (x.length = n)) && (List.range n).all p) → ∀ N', N ≤ N' → ∀ h', h' = (⟨F, M, N'⟩ : Hp) → h'.wf → ∃ h'', h'.wk h'' ∧ (h''.wf → K (.bool v') h'') := fun v' e N' hN h' e' hc => by
    subst e; subst e'
    exact ⟨_, wk_refl hc, fun hw' => k _ hN hw'⟩
  try simp only [hlv]
  try simp only [sS]
  refine l122_1_0_1_0_0 (σ := Nat) (fun i => .int .i64 (i : Nat)) (fun i h => h = ⟨F, M, N⟩ ∧ i ≤ ls.length ∧ ∀ x ∈ ls.take i, x.length = n) (fun i => ls.length - i) 0 rfl
    (fun hw1 => ⟨_, wk_refl hw1, rfl, Nat.zero_le _, by simp⟩) (fun k1 i j h1 hI hw1 next => ?_)
  rw [t122_1_0_1_0_0]
  obtain ⟨rfl, hi, he⟩ := hI
  refine lss_r (fun hlt => ?_) (fun hge => ?_)
  · have h1 : i < ls.length := by omega
    try simp only [sS]
    refine kk_r hv h1 fun q u hu hul => lenF_r hu ?_
    refine kk_r (i := 0) hv h0 fun q' u' hu' hul' => lenF_r hu' ?_
    refine neq_r (fun h2 => ?_) (fun h2 => ?_)
    · try simp only [sS]
      refine fin _ ?_ _ (Nat.le_refl _) _ rfl
      have : (ls.all fun x => decide (x.length = n)) = false := by
        rw [List.all_eq_false]
        exact ⟨ls[i], List.getElem_mem _, by rw [decide_eq_false (by omega)]; simp⟩
      rw [this]; rfl
    · try simp only [sS]
      refine inc_r (by omega) ?_
      refine next (i + 1) _ _ (by omega) (fun hw2 => ⟨_, wk_refl hw2, rfl, h1, fun x hx => ?_⟩)
      rw [List.take_add_one, List.getElem?_eq_getElem h1] at hx
      rcases List.mem_append.1 hx with hx | hx
      · exact he x hx
      · simp at hx; rw [hx]; omega
  · try simp only [sS]
    rw [List.take_of_length_le (by omega)] at he
    have hall : (ls.all fun x => decide (x.length = n)) = true := List.all_eq_true.2 fun x hx => decide_eq_true (he x hx)
    rw [hall, Bool.true_and] at fin
    refine kk_r (i := 0) hv h0 fun q' u' hu' hul' => lenF_r hu' ?_
    rw [hn]
    refine l122_1_1_0_1_0_0 (σ := Nat) (fun i => .int .i64 (i : Nat)) (fun i h => ∃ N', h = ⟨F, M, N'⟩ ∧ N ≤ N' ∧ i ≤ n ∧ (List.range i).all p = true) (fun i => n - i) 0 rfl
      (fun hw1 => ⟨_, wk_refl hw1, N, rfl, Nat.le_refl _, Nat.zero_le _, rfl⟩) (fun k1 i j h1 hI hw1 next => ?_)
    rw [t122_1_1_0_1_0_0]
    obtain ⟨N1, rfl, hN1, hi2, hp⟩ := hI
    refine lss_r (fun hlt => ?_) (fun hge => ?_)
    · have h1 : i < n := by omega
      try simp only [sS]
      refine hf he N1 i hN1 h1 (fun N2 hN2 hw2 => ?_)
      cases hpi : p i
      · try simp only [sS]
        exact fin _ (all_range_no h1 hpi).symm _ (by omega) _ rfl
      · try simp only [sS]
        refine inc_r (by omega) ?_
        exact next (i + 1) _ _ (by omega) (fun hw3 => ⟨_, wk_refl hw3, N2, rfl, by omega, h1, all_range_succ hp hpi⟩)
    · try simp only [sS]
      rw [show i = n by omega] at hp
      exact fin _ hp.symm _ hN1 _ rfl
def withinF (lo hi key : List Int) : Bool := decide (hi.length = lo.length ∧ key.length = lo.length) && (List.range lo.length).all fun i => decide (lo.getD i 0 ≤ key.getD i 0 ∧ key.getD i 0 < hi.getD i 0)
def boxOK (l : List Dm) (lo hi : List Int) : Bool := decide (lo.length = l.length ∧ hi.length = l.length) && (List.range lo.length).all fun i => decide (0 ≤ lo.getD i 0 ∧ lo.getD i 0 ≤ hi.getD i 0 ∧ hi.getD i 0 ≤ (l.getD i (0, [])).1)
theorem getD_at {α : Type} {l : List α} {i : Nat} (h : i < l.length) (d : α) : l.getD i d = l[i] := by rw [List.getD_eq_getElem?_getD, List.getElem?_eq_getElem h]; rfl
theorem lits_D {ks : List (List Int)} {b : Nat} {cells : List Value} (hF : F b = some cells) (hl : cells.length = ks.length) (hr : rowsF (fun r c => ∃ u, r = [u] ∧ sF F 1 u c.length (ick .i64 c) ∧ c.length ≤ 140737488351232) 1 (cells.map fun x => [x]) ks) : kksD .i64 F (.slice (some ⟨b, 0, none⟩) ks.length ks.length) ks := by
  refine ⟨_, sF_lit (cells := (cells.map fun x => [x]).flatten) ?_ ?_ (Nat.le_refl _), hr⟩
  · rw [hF]
    congr 1
    clear hF hl hr
    induction cells with
    | nil => rfl
    | cons x xs ih => simp only [List.map_cons, List.flatten_cons]; rw [← ih]; rfl
  · have := flatten_len (sz := 1) (cells.map fun x => [x]) (by simp)
    rw [this, List.length_map, hl]
theorem frzP_at {p : Nat → Prop} {b : Nat} {e : TypeId} {cs : List Value} {tot : Nat} (hp : p b) (hM : M b = some (.cells e cs tot)) : frzP F M p b = some cs := by simp [frzP, hp, hM]
theorem within1_c {b1 b2 b3 : Nat} {ul uh uk : Value} {lo hi key : List Int} {e1 e2 e3 : TypeId} {i : Nat} (h1 : M b1 = some (.cells e1 [ul] 1)) (h2 : M b2 = some (.cells e2 [uh] 1)) (h3 : M b3 = some (.cells e3 [uk] 1)) (hl : sF F 1 ul lo.length (ic lo)) (hh : sF F 1 uh hi.length (ic hi)) (hk : sF F 1 uk key.length (ic key)) (i1 : i < lo.length) (i2 : i < hi.length) (i3 : i < key.length)
    (k : ∀ N', N ≤ N' → (Hp.mk F M N').wf → K (.bool (decide (lo.getD i 0 ≤ key.getD i 0 ∧ key.getD i 0 < hi.getD i 0))) ⟨F, M, N'⟩) :
    callv Tryz.prog (.func (.func 129) #[] #[.pointer (some ⟨b3, 0, none⟩), .pointer (some ⟨b1, 0, none⟩), .pointer (some ⟨b2, 0, none⟩)]) #[.int .i64 (i : Nat)] K E ⟨F, M, N⟩ := by
  refine callv_of_text mixed Tryz.func129 (by kernel_rfl) (t129 _ E _ _ _ _) (fun hw => ?_)
  rw [getD_at i1, getD_at i2, getD_at i3] at k
  refine ldM (v := uk) (ixn_r hk i3 fun p => ?_)
  refine ldM (v := ul) (ixn_r hl i1 fun p => ?_)
  refine geq_r (fun h4 => ?_) (fun h4 => ?_)
  · try simp only [sS]
    refine ldM (v := uk) (ixn_r hk i3 fun p => ?_)
    refine ldM (v := uh) (ixn_r hh i2 fun p => ?_)
    refine lss_r (fun h5 => ?_) (fun h5 => ?_)
    · try simp only [sS]
      rw [decide_eq_true ⟨h4, h5⟩] at k
      exact fun hc => ⟨_, wk_refl hc, fun hw' => k _ (Nat.le_refl _) hw'⟩
    · try simp only [sS]
      rw [decide_eq_false fun q => h5 q.2] at k
      exact fun hc => ⟨_, wk_refl hc, fun hw' => k _ (Nat.le_refl _) hw'⟩
  · try simp only [sS]
    rw [decide_eq_false fun q => h4 q.1] at k
    exact fun hc => ⟨_, wk_refl hc, fun hw' => k _ (Nat.le_refl _) hw'⟩
theorem kk_row {u : Value} {c : List Int} (h : sF F 1 u c.length (ic c)) (hl : c.length ≤ 140737488351232) : ∃ w, [u] = [w] ∧ sF F 1 w c.length (ick .i64 c) ∧ c.length ≤ 140737488351232 := ⟨u, rfl, h, hl⟩
theorem sF_one {sz m : Nat} {v : Value} {cells : List Value} (h : sF F sz v m cells) : [v].length = 1 ∧ ∀ c ∈ [v], c.oneCell' = true := by
  obtain ⟨a, c, rfl, _⟩ := h.form
  exact ⟨rfl, List.all_eq_true.1 rfl⟩
theorem within_c {ul uh uk : Value} {lo hi key : List Int} (hl : sF F 1 ul lo.length (ic lo)) (hh : sF F 1 uh hi.length (ic hi)) (hk : sF F 1 uk key.length (ic key)) (hll : lo.length ≤ 140737488351232) (hhl : hi.length ≤ 140737488351232) (hkl : key.length ≤ 140737488351232)
    (k : ∀ F' N', (Hp.mk F' M N').wf → subF F F' → N ≤ N' → K (.bool (withinF lo hi key)) ⟨F', M, N'⟩) :
    callv Tryz.prog (.func (.func 109) #[] #[]) #[ul, uh, uk] K E ⟨F, M, N⟩ := by
  refine callv_of_text mixed Tryz.func109 (by kernel_rfl) (t109 _ E _ _ _) (fun hw => ?_)
  have hm : clean M N := hw.m
  obtain ⟨la, lc, hlf, _⟩ := hl.form
  obtain ⟨ha, hc0, hhf, _⟩ := hh.form
  obtain ⟨ka, kc, hkf, _⟩ := hk.form
  refine nw_r (cs := [ul]) (fun b1 hb1 => ?_) (by rw [hlf]; rfl)
  refine nw_r (cs := [uh]) (fun b2 hb2 => ?_) (by rw [hhf]; rfl)
  refine nw_r (cs := [uk]) (fun b3 hb3 => ?_) (by rw [hkf]; rfl)
  refine ldM (v := ul) (ldM (v := uh) (ldM (v := uk) ?_))
  refine nws_r (cs := [ul, uh, uk]) (by rw [hlf, hhf, hkf]; kernel_rfl) (fun b4 hb4 => ?_)
  refine callv_go (fun hc => ⟨_, wk_P (p := fun q => q = b4) hc, ?_⟩)
  have hs := subF_frzP (p := fun q => q = b4) hc
  have g4 := frzP_at (F := F) (p := fun q => q = b4) rfl (upd_same (upd (upd (upd M b1 (some (.cells 34 [ul] [ul].length))) b2 (some (.cells 34 [uh] [uh].length))) b3 (some (.cells 34 [uk] [uk].length))) b4 (some (.cells 34 [ul, uh, uk] [ul, uh, uk].length)))
  generalize hM4 : upd (upd (upd (upd M b1 _) b2 _) b3 _) b4 _ = M4 at *
  have hk4 : ∀ q, q ≠ b4 → keepM M4 (fun q => ¬ q = b4) q = M4 q := fun q hq => keepM_in hq
  have g1 : keepM M4 (fun q => ¬ q = b4) b1 = some (.cells 34 [ul] 1) := (hk4 _ (by omega)).trans (by rw [← hM4]; exact (upd_ne _ _ (by omega)).trans ((upd_ne _ _ (by omega)).trans ((upd_ne _ _ (by omega)).trans (upd_same _ _ _))))
  have g2 : keepM M4 (fun q => ¬ q = b4) b2 = some (.cells 34 [uh] 1) := (hk4 _ (by omega)).trans (by rw [← hM4]; exact (upd_ne _ _ (by omega)).trans ((upd_ne _ _ (by omega)).trans (upd_same _ _ _)))
  have g3 : keepM M4 (fun q => ¬ q = b4) b3 = some (.cells 34 [uk] 1) := (hk4 _ (by omega)).trans (by rw [← hM4]; exact (upd_ne _ _ (by omega)).trans (upd_same _ _ _))
  have hMM : ∀ q, q < N → keepM M4 (fun q => ¬ q = b4) q = M q := fun q hq => (hk4 _ (by omega)).trans (by rw [← hM4]; exact (upd_ne _ _ (by omega)).trans ((upd_ne _ _ (by omega)).trans ((upd_ne _ _ (by omega)).trans (upd_ne _ _ (by omega)))))
  generalize keepM M4 (fun q => ¬ q = b4) = M5 at *
  generalize frzP F M4 (fun q => q = b4) = F5 at *
  have hl5 := hl.mono hs
  have hh5 := hh.mono hs
  have hk5 := hk.mono hs
  have hks : kksD .i64 F5 (.slice (some ⟨b4, 0, none⟩) 3 3) [lo, hi, key] := by
    have h0 := rowsF.nil (fun (r : List Value) (c : List Int) => ∃ u, r = [u] ∧ sF F5 1 u c.length (ick .i64 c) ∧ c.length ≤ 140737488351232) 1
    exact lits_D (ks := [lo, hi, key]) g4 rfl (rowsF_snoc1 (rowsF_snoc1 (rowsF_snoc1 h0 (sF_one hl5) (kk_row hl5 hll)) (sF_one hh5) (kk_row hh5 hhl)) (sF_one hk5) (kk_row hk5 hkl))
  refine every_c (n := lo.length) (p := fun i => decide (lo.getD i 0 ≤ key.getD i 0 ∧ key.getD i 0 < hi.getD i 0)) hks (by simp) (by simp) rfl hll (fun hlen K1 N1 i hN1 hi1 hK => ?_) (fun N' hN' hw' hc => ?_)
  · exact within1_c g1 g2 g3 hl5 hh5 hk5 hi1 (by rw [hlen hi (by simp)]; exact hi1) (by rw [hlen key (by simp)]; exact hi1) hK
  · refine ⟨_, frz_wf hm hMM hc, fun hw'' => ?_⟩
    have e : withinF lo hi key = (([lo, hi, key].all fun x => decide (x.length = lo.length)) && (List.range lo.length).all fun i => decide (lo.getD i 0 ≤ key.getD i 0 ∧ key.getD i 0 < hi.getD i 0)) := by
      unfold withinF
      congr 1
      simp
    have := k _ _ hw'' (hs.trans (subF_frzAll hc)) (by omega)
    rw [e] at this; exact this
end Go.Proofs.YtgjdjdjhoipfmaaGreatDoor.A
open Go Go.RowKit Go.Proofs.YtgjdjdjhoipfmaaGreatDoor.K Go.Proofs.YtgjdjdjhoipfmaaGreatDoor.T
set_option linter.unusedVariables false
set_option linter.unusedSimpArgs false
namespace Go.Proofs.YtgjdjdjhoipfmaaGreatDoor.A
variable {F F' : Nat → Option (List Value)} {M M' : Nat → Option Chunk} {N N' : Nat} {K : Kont} {E : PanK}
theorem dims_at {v : Value} {l : List Dm} {K : Value → Value → Kont} (hv : dimsD F v l) {i : Nat} (hi : i < l.length) (k : ∀ p q, K p q (.int .i64 l[i].1) ⟨F, M, N⟩) :
    pv (iaV none 2 v (.int .i64 (i : Nat))) (fun p => pv (faV 0 p) fun q => ld false 1 q (K p q)) ⟨F, M, N⟩ := by
  obtain ⟨rows, h1, h2⟩ := hv
  refine fld_r h1 h2 (by decide) hi (off := 0) (by decide) fun p q r x hR _ hx => ?_
  obtain ⟨kv, rfl, hkv, hkl⟩ := hR
  simp at hx
  subst hx
  exact k p q
def boxP (l : List Dm) (lo hi : List Int) (i : Nat) : Bool := decide (0 ≤ lo.getD i 0 ∧ lo.getD i 0 ≤ hi.getD i 0 ∧ hi.getD i 0 ≤ (l.getD i (0, [])).1)
theorem dsound1_c {b1 b2 b3 : Nat} {ul uh ud : Value} {lo hi : List Int} {l : List Dm} {e1 e2 e3 : TypeId} {i : Nat} (h1 : M b1 = some (.cells e1 [ul] 1)) (h2 : M b2 = some (.cells e2 [uh] 1)) (h3 : M b3 = some (.cells e3 [ud] 1)) (hl : sF F 1 ul lo.length (ic lo)) (hh : sF F 1 uh hi.length (ic hi)) (hd : dimsD F ud l) (i1 : i < lo.length) (i2 : i < hi.length) (i3 : i < l.length)
    (k : ∀ N', N ≤ N' → (Hp.mk F M N').wf → K (.bool (boxP l lo hi i)) ⟨F, M, N'⟩) :
    callv Tryz.prog (.func (.func 123) #[] #[.pointer (some ⟨b1, 0, none⟩), .pointer (some ⟨b2, 0, none⟩), .pointer (some ⟨b3, 0, none⟩)]) #[.int .i64 (i : Nat)] K E ⟨F, M, N⟩ := by
  refine callv_of_text mixed Tryz.func123 (by kernel_rfl) (t123 _ E _ _ _ _) (fun hw => ?_)
  unfold boxP at k
  rw [getD_at i1, getD_at i2, getD_at i3] at k
  refine ldM (v := ul) (ixn_r hl i1 fun p => ?_)
  refine geq_r (fun h4 => ?_) (fun h4 => ?_)
  · try simp only [sS]
    refine ldM (v := ul) (ixn_r hl i1 fun p => ?_)
    refine ldM (v := uh) (ixn_r hh i2 fun p => ?_)
    refine leq_r (fun h5 => ?_) (fun h5 => ?_)
    · try simp only [sS]
      refine ldM (v := uh) (ixn_r hh i2 fun p => ?_)
      refine ldM (v := ud) (dims_at hd i3 fun p q => ?_)
      refine leq_r (fun h6 => ?_) (fun h6 => ?_)
      · try simp only [sS]
        rw [decide_eq_true ⟨h4, h5, h6⟩] at k
        exact fun hc => ⟨_, wk_refl hc, fun hw' => k _ (Nat.le_refl _) hw'⟩
      · try simp only [sS]
        rw [decide_eq_false fun q => h6 q.2.2] at k
        exact fun hc => ⟨_, wk_refl hc, fun hw' => k _ (Nat.le_refl _) hw'⟩
    · try simp only [sS]
      rw [decide_eq_false fun q => h5 q.2.1] at k
      exact fun hc => ⟨_, wk_refl hc, fun hw' => k _ (Nat.le_refl _) hw'⟩
  · try simp only [sS]
    rw [decide_eq_false fun q => h4 q.1] at k
    exact fun hc => ⟨_, wk_refl hc, fun hw' => k _ (Nat.le_refl _) hw'⟩
theorem dcsound_c {ud ul uh : Value} {l : List Dm} {lo hi : List Int} (hd : dimsD F ud l) (hl : sF F 1 ul lo.length (ic lo)) (hh : sF F 1 uh hi.length (ic hi)) (hll : lo.length ≤ 140737488351232) (hhl : hi.length ≤ 140737488351232)
    (k : ∀ F' N', (Hp.mk F' M N').wf → subF F F' → N ≤ N' → K (.bool (boxOK l lo hi)) ⟨F', M, N'⟩) :
    callv Tryz.prog (.func (.func 102) #[] #[]) #[ud, ul, uh] K E ⟨F, M, N⟩ := by
  refine callv_of_text mixed Tryz.func102 (by kernel_rfl) (t102 _ E _ _ _) (fun hw => ?_)
  have hm : clean M N := hw.m
  obtain ⟨la, lc, hlf, _⟩ := hl.form
  obtain ⟨ha, hc0, hhf, _⟩ := hh.form
  obtain ⟨da, dc, hdf⟩ := hd.form
  have hlv : lenV ul = some (.int .i64 (lo.length : Nat)) := by rw [hlf]; rfl
  have hdv : lenV ud = some (.int .i64 (l.length : Nat)) := by rw [hdf]; rfl
  refine nw_r (cs := [ud]) (fun b1 hb1 => ?_) (by rw [hdf]; rfl)
  refine nw_r (cs := [ul]) (fun b2 hb2 => ?_) (by rw [hlf]; rfl)
  refine nw_r (cs := [uh]) (fun b3 hb3 => ?_) (by rw [hhf]; rfl)
  refine ldM (v := ul) ?_
  refine pv_r hlv ?_
  refine ldM (v := ud) (pv_r hdv ?_)
  refine eql_r (fun hq => ?_) (fun hq => ?_)
  · try simp only [sS]
    refine ldM (v := ul) (ldM (v := uh) ?_)
    refine nws_r (cs := [ul, uh]) (by rw [hlf, hhf]; kernel_rfl) (fun b4 hb4 => ?_)
    refine callv_go (fun hc => ⟨_, wk_P (p := fun q => q = b4) hc, ?_⟩)
    have hs := subF_frzP (p := fun q => q = b4) hc
    have g4 := frzP_at (F := F) (p := fun q => q = b4) rfl (upd_same (upd (upd (upd M b1 (some (.cells 29 [ud] [ud].length))) b2 (some (.cells 34 [ul] [ul].length))) b3 (some (.cells 34 [uh] [uh].length))) b4 (some (.cells 34 [ul, uh] [ul, uh].length)))
    generalize hM4 : upd (upd (upd (upd M b1 _) b2 _) b3 _) b4 _ = M4 at *
    have hk4 : ∀ q, q ≠ b4 → keepM M4 (fun q => ¬ q = b4) q = M4 q := fun q hq => keepM_in hq
    have g1 : keepM M4 (fun q => ¬ q = b4) b1 = some (.cells 29 [ud] 1) := (hk4 _ (by omega)).trans (by rw [← hM4]; exact (upd_ne _ _ (by omega)).trans ((upd_ne _ _ (by omega)).trans ((upd_ne _ _ (by omega)).trans (upd_same _ _ _))))
    have g2 : keepM M4 (fun q => ¬ q = b4) b2 = some (.cells 34 [ul] 1) := (hk4 _ (by omega)).trans (by rw [← hM4]; exact (upd_ne _ _ (by omega)).trans ((upd_ne _ _ (by omega)).trans (upd_same _ _ _)))
    have g3 : keepM M4 (fun q => ¬ q = b4) b3 = some (.cells 34 [uh] 1) := (hk4 _ (by omega)).trans (by rw [← hM4]; exact (upd_ne _ _ (by omega)).trans (upd_same _ _ _))
    have hMM : ∀ q, q < N → keepM M4 (fun q => ¬ q = b4) q = M q := fun q hq => (hk4 _ (by omega)).trans (by rw [← hM4]; exact (upd_ne _ _ (by omega)).trans ((upd_ne _ _ (by omega)).trans ((upd_ne _ _ (by omega)).trans (upd_ne _ _ (by omega)))))
    generalize keepM M4 (fun q => ¬ q = b4) = M5 at *
    generalize frzP F M4 (fun q => q = b4) = F5 at *
    have hl5 := hl.mono hs
    have hh5 := hh.mono hs
    have hd5 := hd.mono hs
    have hks : kksD .i64 F5 (.slice (some ⟨b4, 0, none⟩) 2 2) [lo, hi] := by
      have h0 := rowsF.nil (fun (r : List Value) (c : List Int) => ∃ u, r = [u] ∧ sF F5 1 u c.length (ick .i64 c) ∧ c.length ≤ 140737488351232) 1
      exact lits_D (ks := [lo, hi]) g4 rfl (rowsF_snoc1 (rowsF_snoc1 h0 (sF_one hl5) (kk_row hl5 hll)) (sF_one hh5) (kk_row hh5 hhl))
    refine every_c (n := lo.length) (p := boxP l lo hi) hks (by simp) (by simp) rfl hll (fun hlen K1 N1 i hN1 hi1 hK => ?_) (fun N' hN' hw' => ?_)
    · exact dsound1_c g2 g3 g1 hl5 hh5 hd5 hi1 (by rw [hlen hi (by simp)]; exact hi1) (by omega) hK
    · try simp only [sS]
      refine fun hc => ⟨_, frz_wf hm hMM hc, fun hw'' => ?_⟩
      have e : boxOK l lo hi = (([lo, hi].all fun x => decide (x.length = lo.length)) && (List.range lo.length).all (boxP l lo hi)) := by
        have e0 : decide (lo.length = l.length ∧ hi.length = l.length) = decide (hi.length = lo.length) := decide_eq_decide.2 ⟨fun q => by omega, fun q => by omega⟩
        unfold boxOK boxP
        rw [e0]
        congr 1
        simp
      have := k _ _ hw'' (hs.trans (subF_frzAll hc)) (by omega)
      rw [e] at this; exact this
  · try simp only [sS]
    refine fun hc => ⟨⟨F, M, b3 + 1⟩, wk_drop hc (subM_drop (subM_drop (subM_drop (subM_refl _) (hm _ (by omega))) (hm _ (by omega))) (hm _ (by omega))), fun hw' => ?_⟩
    have e : boxOK l lo hi = false := by unfold boxOK; rw [decide_eq_false (by omega)]; rfl
    have := k _ _ hw' (subF.refl _) (by omega)
    rw [e] at this; exact this
theorem rcsound_c {ud ul uh : Value} {l : List Dm} {lo hi : List Int} (hd : dimsD F ud l) (hl : sF F 1 ul lo.length (ic lo)) (hh : sF F 1 uh hi.length (ic hi)) (hdl : l.length ≤ 140737488351232)
    (k : ∀ N', N ≤ N' → (Hp.mk F M N').wf → K (.bool (boxOK l lo hi)) ⟨F, M, N'⟩) :
    callv Tryz.prog (.func (.func 114) #[] #[]) #[ud, ul, uh] K E ⟨F, M, N⟩ := by
  refine callv_of_text mixed Tryz.func114 (by kernel_rfl) (t114 _ E _ _ _) (fun hw => ?_)
  have hlv : lenV ul = some (.int .i64 (lo.length : Nat)) := by obtain ⟨a, c, rfl, _⟩ := hl.form; rfl
  have hhv : lenV uh = some (.int .i64 (hi.length : Nat)) := by obtain ⟨a, c, rfl, _⟩ := hh.form; rfl
  have hdv : lenV ud = some (.int .i64 (l.length : Nat)) := by obtain ⟨a, c, rfl⟩ := hd.form; rfl
  have fin : ∀ v', v' = boxOK l lo hi → ∀ N', N ≤ N' → ∀ h', h' = (⟨F, M, N'⟩ : Hp) → h'.wf → ∃ h'', h'.wk h'' ∧ (h''.wf → K (.bool v') h'') := fun v' e N' hN h' e' hc => by
    subst e; subst e'
    exact ⟨_, wk_refl hc, fun hw' => k _ hN hw'⟩
  refine pv_r hlv (pv_r hdv ?_)
  refine neq_r (fun h1 => ?_) (fun h1 => ?_)
  · try simp only [sS]
    exact fin _ (by unfold boxOK; rw [decide_eq_false (by omega)]; rfl) _ (Nat.le_refl _) _ rfl
  try simp only [sS]
  refine pv_r hhv (pv_r hdv ?_)
  refine neq_r (fun h2 => ?_) (fun h2 => ?_)
  · try simp only [sS]
    exact fin _ (by unfold boxOK; rw [decide_eq_false (by omega)]; rfl) _ (Nat.le_refl _) _ rfl
  try simp only [sS]
  have hb : boxOK l lo hi = (List.range l.length).all (boxP l lo hi) := by
    unfold boxOK boxP
    rw [decide_eq_true ⟨by omega, by omega⟩, Bool.true_and, show lo.length = l.length by omega]
  rw [hb] at fin
  refine l114_1_1_0_1_0_0 (σ := Nat) (fun i => .int .i64 (i : Nat)) (fun i h => h = ⟨F, M, N⟩ ∧ i ≤ l.length ∧ (List.range i).all (boxP l lo hi) = true) (fun i => l.length - i) 0 rfl
    (fun hw1 => ⟨_, wk_refl hw1, rfl, Nat.zero_le _, rfl⟩) (fun k1 i j h1 hI hw1 next => ?_)
  rw [t114_1_1_0_1_0_0]
  obtain ⟨rfl, hi', he⟩ := hI
  refine pv_r hdv ?_
  refine lss_r (fun hlt => ?_) (fun hge => ?_)
  · have i3 : i < l.length := by omega
    have i1 : i < lo.length := by omega
    have i2 : i < hi.length := by omega
    have hp : boxP l lo hi i = decide (0 ≤ lo[i] ∧ lo[i] ≤ hi[i] ∧ hi[i] ≤ l[i].1) := by
      unfold boxP
      rw [getD_at i1, getD_at i2, getD_at i3]
    try simp only [sS]
    refine ixn_r hl i1 fun p => ?_
    refine lss_r (fun h4 => ?_) (fun h4 => ?_)
    · try simp only [sS]
      exact fin _ (all_range_no i3 (by rw [hp]; exact decide_eq_false (by omega))).symm _ (Nat.le_refl _) _ rfl
    try simp only [sS]
    refine ixn_r hl i1 fun p => ixn_r hh i2 fun p => ?_
    refine gtr_r (fun h5 => ?_) (fun h5 => ?_)
    · try simp only [sS]
      exact fin _ (all_range_no i3 (by rw [hp]; exact decide_eq_false (by omega))).symm _ (Nat.le_refl _) _ rfl
    try simp only [sS]
    refine ixn_r hh i2 fun p => dims_at hd i3 fun p q => ?_
    refine gtr_r (fun h6 => ?_) (fun h6 => ?_)
    · try simp only [sS]
      exact fin _ (all_range_no i3 (by rw [hp]; exact decide_eq_false (by omega))).symm _ (Nat.le_refl _) _ rfl
    try simp only [sS]
    refine inc_r (by omega) ?_
    exact next (i + 1) _ _ (by omega) (fun hw3 => ⟨_, wk_refl hw3, rfl, i3, all_range_succ he (by rw [hp]; exact decide_eq_true ⟨by omega, by omega, by omega⟩)⟩)
  · try simp only [sS]
    rw [show i = l.length by omega] at he
    exact fin _ he.symm _ (Nat.le_refl _) _ rfl
theorem rwithin_c {ul uh uk : Value} {lo hi key : List Int} (hl : sF F 1 ul lo.length (ic lo)) (hh : sF F 1 uh hi.length (ic hi)) (hk : sF F 1 uk key.length (ic key)) (hll : lo.length ≤ 140737488351232)
    (k : ∀ N', N ≤ N' → (Hp.mk F M N').wf → K (.bool (withinF lo hi key)) ⟨F, M, N'⟩) :
    callv Tryz.prog (.func (.func 118) #[] #[]) #[ul, uh, uk] K E ⟨F, M, N⟩ := by
  refine callv_of_text mixed Tryz.func118 (by kernel_rfl) (t118 _ E _ _ _) (fun hw => ?_)
  have hlv : lenV ul = some (.int .i64 (lo.length : Nat)) := by obtain ⟨a, c, rfl, _⟩ := hl.form; rfl
  have hhv : lenV uh = some (.int .i64 (hi.length : Nat)) := by obtain ⟨a, c, rfl, _⟩ := hh.form; rfl
  have hkv : lenV uk = some (.int .i64 (key.length : Nat)) := by obtain ⟨a, c, rfl, _⟩ := hk.form; rfl
  have fin : ∀ v', v' = withinF lo hi key → ∀ N', N ≤ N' → ∀ h', h' = (⟨F, M, N'⟩ : Hp) → h'.wf → ∃ h'', h'.wk h'' ∧ (h''.wf → K (.bool v') h'') := fun v' e N' hN h' e' hc => by
    subst e; subst e'
    exact ⟨_, wk_refl hc, fun hw' => k _ hN hw'⟩
  refine pv_r hlv (pv_r hhv ?_)
  refine neq_r (fun h1 => ?_) (fun h1 => ?_)
  · try simp only [sS]
    exact fin _ (by unfold withinF; rw [decide_eq_false (by omega)]; rfl) _ (Nat.le_refl _) _ rfl
  try simp only [sS]
  refine pv_r hlv (pv_r hkv ?_)
  refine neq_r (fun h2 => ?_) (fun h2 => ?_)
  · try simp only [sS]
    exact fin _ (by unfold withinF; rw [decide_eq_false (by omega)]; rfl) _ (Nat.le_refl _) _ rfl
  try simp only [sS]
  have hb : withinF lo hi key = (List.range lo.length).all fun i => decide (lo.getD i 0 ≤ key.getD i 0 ∧ key.getD i 0 < hi.getD i 0) := by
    unfold withinF
    rw [decide_eq_true ⟨by omega, by omega⟩, Bool.true_and]
  rw [hb] at fin
  refine l118_1_1_0_1_0_0 (σ := Nat) (fun i => .int .i64 (i : Nat)) (fun i h => h = ⟨F, M, N⟩ ∧ i ≤ lo.length ∧ ((List.range i).all fun i => decide (lo.getD i 0 ≤ key.getD i 0 ∧ key.getD i 0 < hi.getD i 0)) = true) (fun i => lo.length - i) 0 rfl
    (fun hw1 => ⟨_, wk_refl hw1, rfl, Nat.zero_le _, rfl⟩) (fun k1 i j h1 hI hw1 next => ?_)
  rw [t118_1_1_0_1_0_0]
  obtain ⟨rfl, hi', he⟩ := hI
  refine pv_r hlv ?_
  refine lss_r (fun hlt => ?_) (fun hge => ?_)
  · have i1 : i < lo.length := by omega
    have i2 : i < hi.length := by omega
    have i3 : i < key.length := by omega
    have hp : decide (lo.getD i 0 ≤ key.getD i 0 ∧ key.getD i 0 < hi.getD i 0) = decide (lo[i] ≤ key[i] ∧ key[i] < hi[i]) := by
      rw [getD_at i1, getD_at i2, getD_at i3]
    try simp only [sS]
    refine ixn_r hk i3 fun p => ixn_r hl i1 fun p => ?_
    refine lss_r (fun h4 => ?_) (fun h4 => ?_)
    · try simp only [sS]
      exact fin _ (all_range_no i1 (by rw [hp]; exact decide_eq_false (by omega))).symm _ (Nat.le_refl _) _ rfl
    try simp only [sS]
    refine ixn_r hk i3 fun p => ixn_r hh i2 fun p => ?_
    refine geq_r (fun h5 => ?_) (fun h5 => ?_)
    · try simp only [sS]
      exact fin _ (all_range_no i1 (by rw [hp]; exact decide_eq_false (by omega))).symm _ (Nat.le_refl _) _ rfl
    try simp only [sS]
    refine inc_r (by omega) ?_
    exact next (i + 1) _ _ (by omega) (fun hw3 => ⟨_, wk_refl hw3, rfl, i1, all_range_succ he (by rw [hp]; exact decide_eq_true ⟨by omega, by omega⟩)⟩)
  · try simp only [sS]
    rw [show i = lo.length by omega] at he
    exact fin _ he.symm _ (Nat.le_refl _) _ rfl
end Go.Proofs.YtgjdjdjhoipfmaaGreatDoor.A
open Go Go.RowKit Go.Proofs.YtgjdjdjhoipfmaaGreatDoor.K Go.Proofs.YtgjdjdjhoipfmaaGreatDoor.T
set_option linter.unusedVariables false
set_option linter.unusedSimpArgs false
namespace Go.Proofs.YtgjdjdjhoipfmaaGreatDoor.A
variable {F F' : Nat → Option (List Value)} {M M' : Nat → Option Chunk} {N N' : Nat} {K : Kont} {E : PanK}
def cutF (lo hi : List Int) (t : List Rw) : List Rw := t.filter fun r => withinF lo hi r.1
theorem cutF_len (lo hi : List Int) (t : List Rw) : (cutF lo hi t).length ≤ t.length := List.length_filter_le _ _
theorem cutF_t {lo hi : List Int} {t : List Rw} {i : Nat} (h : i < t.length) (hp : withinF lo hi t[i].1 = true) : cutF lo hi (t.take (i + 1)) = cutF lo hi (t.take i) ++ [t[i]] := by
  unfold cutF
  rw [List.take_add_one, List.getElem?_eq_getElem h, Option.toList_some, List.filter_append]
  simp [hp]
theorem cutF_f {lo hi : List Int} {t : List Rw} {i : Nat} (h : i < t.length) (hp : withinF lo hi t[i].1 = false) : cutF lo hi (t.take (i + 1)) = cutF lo hi (t.take i) := by
  unfold cutF
  rw [List.take_add_one, List.getElem?_eq_getElem h, Option.toList_some, List.filter_append]
  simp [hp]
set_option maxRecDepth 10000 in
theorem dcut_c {v ul uh : Value} {t : List Rw} {lo hi : List Int} (hv : tblD F v t) (hl : sF F 1 ul lo.length (ic lo)) (hh : sF F 1 uh hi.length (ic hi)) (hll : lo.length ≤ 140737488351232) (hhl : hi.length ≤ 140737488351232) (htl : t.length ≤ 1000000000) (hk : ∀ r ∈ t, r.1.length ≤ 10000000000)
    (k : ∀ v' F' N', (Hp.mk F' M N').wf → subF F F' → N ≤ N' → tblD F' v' (cutF lo hi t) → K v' ⟨F', M, N'⟩) :
    callv Tryz.prog (.func (.func 71) #[] #[]) #[v, ul, uh] K E ⟨F, M, N⟩ := by
  refine callv_of_text mixed Tryz.func71 (by kernel_rfl) (t71 _ E _ _ _) (fun hw => ?_)
  have hm : clean M N := hw.m
  obtain ⟨trs, hvs, hrs⟩ := hv
  refine lenF_r hvs ?_
  refine l71_1_1_0_1_0_0 (σ := Nat × Value) (fun s => s.2) (fun s => .int .i64 (s.1 : Nat))
    (fun s h => ∃ F' M' N' rows, h = ⟨F', M', N'⟩ ∧ subF F F' ∧ N ≤ N' ∧ (∀ q, q < N → M' q = M q) ∧ clean M' N' ∧ s.1 ≤ t.length ∧ own M' N 78 5 s.2 (cutF lo hi (t.take s.1)).length rows.flatten ∧ rowsF (rowD F') 5 rows (cutF lo hi (t.take s.1))) (fun s => t.length - s.1) (0, .slice none 0 0) rfl rfl
    (fun hw1 => ⟨_, wk_refl hw1, F, M, N, [], rfl, subF.refl _, Nat.le_refl _, fun _ _ => rfl, hm, Nat.zero_le _, own.nil, rowsF.nil _ _⟩) (fun k1 s j h1 hI hw1 next => ?_)
  rw [t71_1_1_0_1_0_0]
  obtain ⟨F1, M1, N1, rows, rfl, hF1, hN1, hM1, hm1, hi', ho, hr⟩ := hI
  have hcl := cutF_len lo hi (t.take s.1)
  rw [List.length_take] at hcl
  refine lss_r (fun hlt => ?_) (fun hge => ?_)
  · have h1 : s.1 < t.length := by omega
    try simp only [sS]
    refine row_r (hvs.mono hF1) (hrs.mono fun _ _ h => h.mono hF1) (by decide) h1 (fun p r _ hR hrl hr1 => ?_)
    obtain ⟨kv, hre, hkv, hkl⟩ := hR
    subst hre
    refine nw_r (fun b1 hb1 => ?_)
    refine stM (cs' := kv :: t[s.1].2.cs) ?_ (upd_same _ _ _) rfl rfl hr1
    refine pv_r rfl (ldM (v := kv) ?_)
    rw [upd_upd]
    have hM2 : ∀ q, q < N → upd M1 b1 (some (.cells 78 (kv :: t[s.1].2.cs) 5)) q = M q := fun q hq => (upd_ne _ _ (by omega)).trans (hM1 q hq)
    have hb2 := upd_same M1 b1 (some (.cells 78 (kv :: t[s.1].2.cs) 5))
    have ho2 := ho.box hm1 hb1 (some (.cells 78 (kv :: t[s.1].2.cs) 5))
    refine within_c (hl.mono hF1) (hh.mono hF1) hkv hll hhl hkl (fun F2 N2 hw2 hF2 hN2 => ?_)
    have hm2 : clean (upd M1 b1 (some (.cells 78 (kv :: t[s.1].2.cs) 5))) N2 := hw2.m
    generalize upd M1 b1 _ = M2 at *
    cases hp : withinF lo hi t[s.1].1
    · try simp only [sS]
      rw [t71_1_1_0_1_0_0_1_1_1]
      refine inc_r (by omega) ?_
      refine next (s.1 + 1, s.2) _ _ (by simp only; omega) (fun hw3 => ⟨_, wk_refl hw3, F2, M2, N2, rows, rfl, hF1.trans hF2, by omega, hM2, hm2, h1, ?_, ?_⟩)
      · simp only; rw [cutF_f h1 hp]; exact ho2
      · simp only; rw [cutF_f h1 hp]; exact hr.mono fun _ _ h => h.mono hF2
    · try simp only [sS]
      refine ldM (v := kv) ?_ hb2
      try simp only [sS]
      refine ldMa (vs := t[s.1].2.cs) ?_ hb2
      refine clone_f hm2 (hkv.mono hF2).sR (by have := hk _ (List.getElem_mem h1); omega) (fun kv' F3 N3 hw3 hF3 hN3 hkv' => ?_)
      refine ⟨ldV_a (row_M hb2) (by exact Nat.le_of_ble_eq_true rfl) rfl, ?_⟩
      have hrc := row_cells (c := t[s.1].2) hkv'
      obtain ⟨ak, ck, hkf, hck⟩ := hkv'.form
      refine pv_r (v := .agg (kv' :: t[s.1].2.cs).toArray) (by rw [hkf]; kernel_rfl) ?_
      refine push_r (new := kv' :: t[s.1].2.cs) ho2 hw3.m (by omega) (by rw [hkf]; kernel_rfl) hrc.1 hrc.2 (by omega) (by unfold maxLen; omega) (fun p v' M4 N4 h4 h5 h6 h7 => ?_)
      rw [t71_1_1_0_1_0_0_1_1_1]
      refine inc_r (by omega) ?_
      refine next (s.1 + 1, v') _ _ (by simp only; omega) (fun hw5 => ⟨_, wk_refl hw5, F3, M4, N4, rows ++ [kv' :: t[s.1].2.cs], rfl, (hF1.trans hF2).trans hF3, by omega, fun q hq => ?_, h7, h1, ?_, ?_⟩)
      · exact ((h5 q (fun e => by have := (ho2.ge q e).1; omega) (by omega)).1).trans (hM2 q hq)
      · simp only; rw [cutF_t h1 hp, List.length_append]; simpa using h4
      · simp only
        rw [cutF_t h1 hp]
        exact rowsF_snoc1 (hr.mono fun _ _ h => h.mono (hF2.trans hF3)) hrc ⟨kv', rfl, hkv', hkl⟩
  · try simp only [sS]
    rw [List.take_of_length_le (by omega)] at ho hr
    exact fun hc => ⟨_, frz_wf hm hM1 hc, fun hw' => k _ _ _ hw' (hF1.trans (subF_frzAll hc)) hN1 (tbl_frz hc ho hr)⟩
set_option maxRecDepth 10000 in
theorem rcut_c {v ul uh : Value} {t : List Rw} {lo hi : List Int} (hv : tblD F v t) (hl : sF F 1 ul lo.length (ic lo)) (hh : sF F 1 uh hi.length (ic hi)) (hll : lo.length ≤ 140737488351232) (htl : t.length ≤ 1000000000) (hk : ∀ r ∈ t, r.1.length ≤ 10000000000)
    (k : ∀ v' F' N', (Hp.mk F' M N').wf → subF F F' → N ≤ N' → tblD F' v' (cutF lo hi t) → K v' ⟨F', M, N'⟩) :
    callv Tryz.prog (.func (.func 88) #[] #[]) #[v, ul, uh] K E ⟨F, M, N⟩ := by
  refine callv_of_text mixed Tryz.func88 (by kernel_rfl) (t88 _ E _ _ _) (fun hw => ?_)
  have hm : clean M N := hw.m
  obtain ⟨trs, hvs, hrs⟩ := hv
  have hlv : lenV v = some (.int .i64 (t.length : Nat)) := by obtain ⟨a, c, rfl, _⟩ := hvs.form; rfl
  refine l88_1_1_0_1_0_0 (σ := Nat × Value) (fun s => s.2) (fun s => .int .i64 (s.1 : Nat))
    (fun s h => ∃ F' M' N' rows, h = ⟨F', M', N'⟩ ∧ subF F F' ∧ N ≤ N' ∧ (∀ q, q < N → M' q = M q) ∧ clean M' N' ∧ s.1 ≤ t.length ∧ own M' N 78 5 s.2 (cutF lo hi (t.take s.1)).length rows.flatten ∧ rowsF (rowD F') 5 rows (cutF lo hi (t.take s.1))) (fun s => t.length - s.1) (0, .slice none 0 0) rfl rfl
    (fun hw1 => ⟨_, wk_refl hw1, F, M, N, [], rfl, subF.refl _, Nat.le_refl _, fun _ _ => rfl, hm, Nat.zero_le _, own.nil, rowsF.nil _ _⟩) (fun k1 s j h1 hI hw1 next => ?_)
  rw [t88_1_1_0_1_0_0]
  obtain ⟨F1, M1, N1, rows, rfl, hF1, hN1, hM1, hm1, hi', ho, hr⟩ := hI
  have hcl := cutF_len lo hi (t.take s.1)
  rw [List.length_take] at hcl
  refine pv_r hlv ?_
  refine lss_r (fun hlt => ?_) (fun hge => ?_)
  · have h1 : s.1 < t.length := by omega
    have hvs1 := hvs.mono hF1
    have hrs1 : rowsF (rowD F1) 5 trs t := hrs.mono fun _ _ h => h.mono hF1
    try simp only [sS]
    refine key_r hvs1 hrs1 h1 fun p q kv hkv hkl => ?_
    refine rwithin_c (hl.mono hF1) (hh.mono hF1) hkv hll (fun N2 hN2 hw2 => ?_)
    have hm2 : clean M1 N2 := hw2.m
    cases hp : withinF lo hi t[s.1].1
    · try simp only [sS]
      rw [t88_1_1_0_1_0_0_1_1]
      refine inc_r (by omega) ?_
      refine next (s.1 + 1, s.2) _ _ (by simp only; omega) (fun hw3 => ⟨_, wk_refl hw3, F1, M1, N2, rows, rfl, hF1, by omega, hM1, hm2, h1, ?_, ?_⟩)
      · simp only; rw [cutF_f h1 hp]; exact ho
      · simp only; rw [cutF_f h1 hp]; exact hr
    · try simp only [sS]
      refine key_r hvs1 hrs1 h1 fun p q kv hkv hkl => ?_
      have hkl2 := hk _ (List.getElem_mem h1)
      refine (own.nil (B := N2)).app hm2 (Nat.le_refl _) hkv.sR (ints_one _) (by omega) (by unfold maxLen; omega) (fun kv' M3 N3 h4 h5 h6 h7 => ?_)
      rw [Nat.zero_add, List.nil_append] at h4
      refine cell_r hvs1 hrs1 h1 fun p q => ?_
      obtain ⟨ak, ck, hkf, hck⟩ := h4.form
      have hrc : (kv' :: t[s.1].2.cs).length = 5 ∧ ∀ x ∈ kv' :: t[s.1].2.cs, x.oneCell' = true := by rw [hkf]; exact ⟨rfl, List.all_eq_true.1 rfl⟩
      have hon : ∀ q, kv'.ownBlock = some q → N2 ≤ q ∧ q < N3 := fun q e => ⟨(h4.ge q e).1, h4.lt h7 q e⟩
      have hos : ∀ q, s.2.ownBlock = some q → q < N2 := fun q e => ho.lt hm2 q e
      refine pv_r (v := .agg (kv' :: t[s.1].2.cs).toArray) (by rw [hkf]; kernel_rfl) ?_
      refine push_r (new := kv' :: t[s.1].2.cs) (ho.keep (fun q hq => (h5 q (by simp [Value.ownBlock]) (hos q hq)).1) (Nat.le_refl _)) h7 (by omega) (by rw [hkf]; kernel_rfl) hrc.1 hrc.2 (by omega) (by unfold maxLen; omega) (fun p v' M4 N4 g4 g5 g6 g7 => ?_)
      rw [t88_1_1_0_1_0_0_1_1]
      refine inc_r (by omega) ?_
      have h8 : own M4 N2 3 1 kv' t[s.1].1.length (ic t[s.1].1) := h4.keep (fun q hq => (g5 q (fun e => by have := hos q e; have := hon q hq; omega) (hon q hq).2).1) (Nat.le_refl _)
      have hne : ∀ q, v'.ownBlock = some q → ¬ kv'.ownBlock = some q := fun q e e' => (g5 q (fun e2 => by have := hos q e2; have := hon q e'; omega) (hon q e').2).2 e
      refine next (s.1 + 1, v') _ _ (by simp only; omega) (fun hw5 => ⟨_, wk_P (p := fun q => kv'.ownBlock = some q) hw5, frzP F1 M4 (fun q => kv'.ownBlock = some q), keepM M4 (fun q => ¬ kv'.ownBlock = some q), N4, rows ++ [kv' :: t[s.1].2.cs], rfl, hF1.trans (subF_frzP hw5), by omega, fun q hq => ?_, keepM_clean g7, h1, ?_, ?_⟩)
      · rw [keepM_in (fun e => by have := hon q e; omega)]
        have e1 : kv'.ownBlock ≠ some q := fun e => by have := hon q e; omega
        exact ((g5 q (fun e => by have := (ho.ge q e).1; omega) (by omega)).1).trans (((h5 q (by simp [Value.ownBlock]) (by omega)).1).trans (hM1 q hq))
      · simp only; rw [cutF_t h1 hp, List.length_append]
        refine own.keep ?_ (fun q hq => keepM_in (hne q hq)) (Nat.le_refl _)
        simpa using g4
      · simp only
        rw [cutF_t h1 hp]
        exact rowsF_snoc1 (hr.mono fun _ _ h => h.mono (subF_frzP hw5)) hrc ⟨kv', rfl, h8.frzP (fun q h => h), hkl⟩
  · try simp only [sS]
    rw [List.take_of_length_le (by omega)] at ho hr
    exact fun hc => ⟨_, frz_wf hm hM1 hc, fun hw' => k _ _ _ hw' (hF1.trans (subF_frzAll hc)) hN1 (tbl_frz hc ho hr)⟩
end Go.Proofs.YtgjdjdjhoipfmaaGreatDoor.A
open Go Go.RowKit Go.Proofs.YtgjdjdjhoipfmaaGreatDoor.K Go.Proofs.YtgjdjdjhoipfmaaGreatDoor.T
set_option linter.unusedVariables false
set_option linter.unusedSimpArgs false
namespace Go.Proofs.YtgjdjdjhoipfmaaGreatDoor.A
variable {F F' : Nat → Option (List Value)} {M M' : Nat → Option Chunk} {N N' : Nat} {K : Kont} {E : PanK}
def lvP (l : List Dm) (m : List Int) (i : Nat) : Bool := decide (0 ≤ m.getD i 0 ∧ m.getD i 0 < ((l.getD i (0, [])).2.length + 2 : Nat))
def lvOK (l : List Dm) (m : List Int) : Bool := decide (m.length = l.length) && (List.range l.length).all (lvP l m)
theorem lvl1_c {cs : List Value} {d : Dm} {n : Int} (hd : dimD F cs d) (k : ∀ N', N ≤ N' → (Hp.mk F M N').wf → K (.bool (decide (0 ≤ n ∧ n < (d.2.length + 2 : Nat)))) ⟨F, M, N'⟩) :
    callv Tryz.prog (.func (.func 100) #[] #[]) #[.agg cs.toArray, .int .i64 n] K E ⟨F, M, N⟩ := by
  refine callv_of_text mixed Tryz.func100 (by kernel_rfl) (t100 _ E _ _) (fun hw => ?_)
  have hm := hw.m
  have hd' := hd
  obtain ⟨v, rfl, hv, hvl⟩ := hd
  refine nw_r (cs := [.int .i64 d.1, v]) (fun b hb => ?_)
  refine geq_r (fun h1 => ?_) (fun h1 => ?_)
  · try simp only [sS]
    refine ldMa (vs := [.int .i64 d.1, v]) ?_
    refine levels_c hd' (fun N1 hN1 hw1 => ?_)
    refine lss_r (fun h2 => ?_) (fun h2 => ?_)
    · try simp only [sS]
      rw [decide_eq_true ⟨h1, h2⟩] at k
      exact fun hc => ⟨⟨F, M, N1⟩, wk_end hc, fun hw' => k _ (by omega) hw'⟩
    · try simp only [sS]
      rw [decide_eq_false fun q => h2 q.2] at k
      exact fun hc => ⟨⟨F, M, N1⟩, wk_end hc, fun hw' => k _ (by omega) hw'⟩
  · try simp only [sS]
    rw [decide_eq_false fun q => h1 q.1] at k
    exact fun hc => ⟨⟨F, M, b + 1⟩, wk_end hc, fun hw' => k _ (by omega) hw'⟩
theorem eqf_c {v u : Value} {l : List Dm} {m : List Int} (hv : dimsD F v l) (hu : sF F 1 u m.length (ic m)) (hl : l.length ≤ 140737488351232) (k : ∀ N', N ≤ N' → (Hp.mk F M N').wf → K (.bool (lvOK l m)) ⟨F, M, N'⟩) :
    callv Tryz.prog (.func (.func 95) #[] #[]) #[v, u, .func (.func 100) #[] #[]] K E ⟨F, M, N⟩ := by
  refine callv_of_text mixed Tryz.func95 (by kernel_rfl) (t95 _ E _ _ _) (fun hw => ?_)
  have hm : clean M N := hw.m
  have hlv : lenV v = some (.int .i64 (l.length : Nat)) := by obtain ⟨a, c, rfl⟩ := hv.form; rfl
  have hlu : lenV u = some (.int .i64 (m.length : Nat)) := by obtain ⟨a, c, rfl, _⟩ := hu.form; rfl
  have fin : ∀ v', v' = lvOK l m → ∀ N', N ≤ N' → ∀ h', h' = (⟨F, M, N'⟩ : Hp) → h'.wf → ∃ h'', h'.wk h'' ∧ (h''.wf → K (.bool v') h'') := fun v' e N' hN h' e' hc => by
    subst e; subst e'
    exact ⟨_, wk_refl hc, fun hw' => k _ hN hw'⟩
  unfold lvOK at fin
  refine pv_r hlv (pv_r hlu ?_)
  refine neq_r (fun h1 => ?_) (fun h1 => ?_)
  · try simp only [sS]
    exact fin _ (by rw [decide_eq_false (by omega)]; rfl) _ (Nat.le_refl _) _ rfl
  rw [decide_eq_true (by omega), Bool.true_and] at fin
  try simp only [sS]
  refine pv_r hlv ?_
  obtain ⟨rows, hv1, hv2⟩ := hv
  refine l95_1_1_0_1_0_0 (σ := Nat) (fun i => .int .i64 (i : Nat)) (fun i h => ∃ N', h = ⟨F, M, N'⟩ ∧ N ≤ N' ∧ i ≤ l.length ∧ (List.range i).all (lvP l m) = true) (fun i => l.length - i) 0 rfl
    (fun hw1 => ⟨_, wk_refl hw1, N, rfl, Nat.le_refl _, Nat.zero_le _, rfl⟩) (fun k1 i j h1' hI hw1 next => ?_)
  rw [t95_1_1_0_1_0_0]
  obtain ⟨N1, rfl, hN1, hi, he⟩ := hI
  have hm1 : clean M N1 := hw1.m
  refine lss_r (fun hlt => ?_) (fun hge => ?_)
  · have i1 : i < l.length := by omega
    have i2 : i < m.length := by omega
    try simp only [sS]
    refine row_r hv1 hv2 (by decide) i1 fun p r _ hR hr2 hr1 => ?_
    have hR' := hR
    obtain ⟨kv, hre, hkv, hkl⟩ := hR
    subst hre
    refine nw_r (fun b1 hb1 => ?_)
    refine stM (cs' := [.int .i64 l[i].1, kv]) ?_ (upd_same _ _ _) rfl rfl hr1
    rw [upd_upd]
    refine ixn_r hu i2 fun p => ?_
    refine ldMa (vs := [.int .i64 l[i].1, kv]) ?_
    refine lvl1_c hR' (fun N2 hN2 hw2 => ?_)
    have hp : lvP l m i = decide (0 ≤ m[i] ∧ m[i] < (l[i].2.length + 2 : Nat)) := by
      unfold lvP
      rw [getD_at i1, getD_at i2]
    rw [← hp]
    have hdrop : ∀ {h : Hp}, h = (⟨F, upd M b1 (some (.cells 74 [.int .i64 l[i].1, kv] 2)), N2⟩ : Hp) → h.wf → h.wk ⟨F, M, N2⟩ := fun e hc => by subst e; exact wk_drop hc (subM_drop (subM_refl _) (hm1 _ hb1))
    cases hpi : lvP l m i
    · try simp only [sS]
      refine fun hc => ⟨⟨F, M, N2⟩, hdrop rfl hc, fun hw' => ?_⟩
      have := k N2 (by omega) hw'
      rw [show lvOK l m = false by unfold lvOK; rw [all_range_no i1 hpi]; simp] at this
      exact this
    · try simp only [sS]
      refine inc_r (by omega) ?_
      exact next (i + 1) _ _ (by omega) (fun hw3 => ⟨⟨F, M, N2⟩, hdrop rfl hw3, N2, rfl, by omega, i1, all_range_succ he hpi⟩)
  · try simp only [sS]
    rw [show i = l.length by omega] at he
    exact fin _ he.symm _ hN1 _ rfl
def queryD (F : Nat → Option (List Value)) (cs : List Value) (m lo hi : List Int) : Prop := ∃ a b c, cs = [a, b, c] ∧ sF F 1 a m.length (ic m) ∧ sF F 1 b lo.length (ic lo) ∧ sF F 1 c hi.length (ic hi) ∧ m.length ≤ 140737488351232 ∧ lo.length ≤ 140737488351232 ∧ hi.length ≤ 140737488351232
theorem queryD.mono {cs : List Value} {m lo hi : List Int} (h : queryD F cs m lo hi) (hF : subF F F') : queryD F' cs m lo hi := let ⟨a, b, c, e, h1, h2, h3, h4⟩ := h; ⟨a, b, c, e, h1.mono hF, h2.mono hF, h3.mono hF, h4⟩
def checkE (l : List Dm) (m lo hi : List Int) : Nat := if okDims l = false then 30 else if lvOK l m = false then 40 else if boxOK l lo hi = false then 60 else 0
theorem check_c {u : Value} {cs : List Value} {l : List Dm} {m lo hi : List Int} (hu : dimsD F u l) (hl : l.length ≤ 140737488351232) (hq : queryD F cs m lo hi)
    (k : ∀ F' N', (Hp.mk F' M N').wf → subF F F' → N ≤ N' → K (.int .u16 ((checkE l m lo hi : Nat) : Int)) ⟨F', M, N'⟩) :
    callv Tryz.prog (.func (.func 68) #[] #[]) #[u, .agg cs.toArray] K E ⟨F, M, N⟩ := by
  refine callv_of_text mixed Tryz.func68 (by kernel_rfl) (t68 _ E _ _) (fun hw => ?_)
  have hm : clean M N := hw.m
  obtain ⟨a, b, c, rfl, ha, hb, hc, hml, hlol, hhil⟩ := hq
  refine nw_r (cs := [a, b, c]) (fun b1 hb1 => ?_)
  have fin : ∀ n, n = checkE l m lo hi → ∀ F' N', subF F F' → N ≤ N' → ∀ h', h' = (⟨F', upd M b1 (some (.cells 36 [a, b, c] 3)), N'⟩ : Hp) → h'.wf → ∃ h'', h'.wk h'' ∧ (h''.wf → K (.int .u16 ((n : Nat) : Int)) h'') := fun n e F' N' hF hN h' e' hc => by
    subst e; subst e'
    exact ⟨⟨F', M, N'⟩, wk_drop hc (subM_drop (subM_refl _) (hm _ hb1)), fun hw' => k _ _ hw' hF hN⟩
  unfold checkE at fin
  refine dsound_c hu hl (fun N1 hN1 hw1 => ?_)
  cases h1 : okDims l
  · try simp only [sS]
    exact fin 30 (by rw [h1]; rfl) F N1 (subF.refl _) (by omega) _ rfl
  rw [h1, if_neg (by decide)] at fin
  try simp only [sS]
  refine ldM (v := a) ?_
  refine eqf_c hu ha hl (fun N2 hN2 hw2 => ?_)
  cases h2 : lvOK l m
  · try simp only [sS]
    exact fin 40 (by rw [h2]; rfl) F N2 (subF.refl _) (by omega) _ rfl
  rw [h2, if_neg (by decide)] at fin
  try simp only [sS]
  refine ldM (v := b) ?_
  try simp only [sS]
  refine ldM (v := c) ?_
  refine dcsound_c hu hb hc hlol hhil (fun F3 N3 hw3 hF3 hN3 => ?_)
  cases h3 : boxOK l lo hi
  · try simp only [sS]
    exact fin 60 (by rw [h3]; rfl) F3 N3 hF3 (by omega) _ rfl
  rw [h3, if_neg (by decide)] at fin
  try simp only [sS]
  exact fin 0 rfl F3 N3 hF3 (by omega) _ rfl
theorem rcheck_c {u : Value} {cs : List Value} {l : List Dm} {m lo hi : List Int} (hu : dimsD F u l) (hl : l.length ≤ 140737488351232) (hq : queryD F cs m lo hi)
    (k : ∀ N', (Hp.mk F M N').wf → N ≤ N' → K (.int .i64 ((checkE l m lo hi : Nat) : Int)) ⟨F, M, N'⟩) :
    callv Tryz.prog (.func (.func 85) #[] #[]) #[u, .agg cs.toArray] K E ⟨F, M, N⟩ := by
  refine callv_of_text mixed Tryz.func85 (by kernel_rfl) (t85 _ E _ _) (fun hw => ?_)
  have hm : clean M N := hw.m
  obtain ⟨a, b, c, rfl, ha, hb, hc, hml, hlol, hhil⟩ := hq
  refine nw_r (cs := [a, b, c]) (fun b1 hb1 => ?_)
  have fin : ∀ n, n = checkE l m lo hi → ∀ N', N ≤ N' → ∀ h', h' = (⟨F, upd M b1 (some (.cells 36 [a, b, c] 3)), N'⟩ : Hp) → h'.wf → ∃ h'', h'.wk h'' ∧ (h''.wf → K (.int .i64 ((n : Nat) : Int)) h'') := fun n e N' hN h' e' hc => by
    subst e; subst e'
    exact ⟨⟨F, M, N'⟩, wk_drop hc (subM_drop (subM_refl _) (hm _ hb1)), fun hw' => k _ hw' hN⟩
  have hlu : lenV u = some (.int .i64 (l.length : Nat)) := by obtain ⟨a, c, rfl⟩ := hu.form; rfl
  have hla : lenV a = some (.int .i64 (m.length : Nat)) := by obtain ⟨a, c, rfl, _⟩ := ha.form; rfl
  unfold checkE at fin
  refine rdsound_c hu hl (fun N1 hN1 hw1 => ?_)
  cases h1 : okDims l
  · try simp only [sS]
    exact fin 30 (by rw [h1]; rfl) N1 (by omega) _ rfl
  rw [h1, if_neg (by decide)] at fin
  try simp only [sS]
  refine ldM (v := a) (pv_r hla (pv_r hlu ?_))
  refine neq_r (fun h2 => ?_) (fun h2 => ?_)
  · try simp only [sS]
    exact fin 40 (by rw [if_pos (by unfold lvOK; rw [decide_eq_false (by omega)]; rfl)]) N1 (by omega) _ rfl
  have hlv : lvOK l m = (List.range l.length).all (lvP l m) := by unfold lvOK; rw [decide_eq_true (by omega), Bool.true_and]
  rw [hlv] at fin
  try simp only [sS]
  have hu' := hu
  obtain ⟨rows, hu1, hu2⟩ := hu'
  refine l85_1_1_1_0_1_0_0 (σ := Nat) (fun i => .int .i64 (i : Nat)) (fun i h => ∃ N', h = ⟨F, upd M b1 (some (.cells 36 [a, b, c] 3)), N'⟩ ∧ N ≤ N' ∧ i ≤ l.length ∧ (List.range i).all (lvP l m) = true) (fun i => l.length - i) 0 rfl
    (fun hw1 => ⟨_, wk_refl hw1, N1, rfl, by omega, Nat.zero_le _, rfl⟩) (fun k1 i j h1' hI hw1 next => ?_)
  rw [t85_1_1_1_0_1_0_0]
  obtain ⟨N2, rfl, hN2, hii, he⟩ := hI
  refine pv_r hlu ?_
  refine lss_r (fun hlt => ?_) (fun hge => ?_)
  · have i1 : i < l.length := by omega
    have i2 : i < m.length := by omega
    have hp : lvP l m i = decide (0 ≤ m[i] ∧ m[i] < (l[i].2.length + 2 : Nat)) := by
      unfold lvP
      rw [getD_at i1, getD_at i2]
    try simp only [sS]
    refine ldM (v := a) (ixn_r ha i2 fun p => ?_)
    refine lss_r (fun h6 => ?_) (fun h6 => ?_)
    · try simp only [sS]
      refine ⟨fun h => by simp [isB] at h, fun h => by simp [isB] at h, ?_⟩
      exact fin 40 (by rw [if_pos (all_range_no i1 (by rw [hp]; exact decide_eq_false (by omega)))]) _ hN2 _ rfl
    try simp only [sS]
    refine ldM (v := a) ?_
    obtain ⟨bb, bo, bc, bcs, hvb, hbF, hbx⟩ := ints_at ha i2
    subst hvb
    refine iaN_r i2 (ld_r (ldV_c (row_F hbF) hbx) ?_)
    refine row_r hu1 hu2 (by decide) i1 fun p r _ hR hr2 hr1 => ?_
    refine rlevels_c hR (fun N3 hN3 hw3 => ?_)
    refine ⟨fun _ => ldV_c (row_F hbF) hbx, fun _ => ldV_c (row_M (upd_same _ _ _)) rfl, ?_⟩
    refine geq_r (fun h8 => ?_) (fun h8 => ?_)
    · try simp only [sS]
      exact fin 40 (by rw [if_pos (all_range_no i1 (by rw [hp]; exact decide_eq_false (by omega)))]) _ (by omega) _ rfl
    try simp only [sS]
    refine inc_r (by omega) ?_
    exact next (i + 1) _ _ (by omega) (fun hw3 => ⟨_, wk_refl hw3, N3, rfl, by omega, i1, all_range_succ he (by rw [hp]; exact decide_eq_true ⟨by omega, by omega⟩)⟩)
  · try simp only [sS]
    rw [show i = l.length by omega] at he
    rw [he, if_neg (by decide)] at fin
    try simp only [sS]
    refine ldM (v := b) ?_
    try simp only [sS]
    refine ldM (v := c) ?_
    refine rcsound_c hu hb hc hl (fun N3 hN3 hw3 => ?_)
    cases h3 : boxOK l lo hi
    · try simp only [sS]
      exact fin 60 (by rw [h3]; rfl) N3 (by omega) _ rfl
    rw [h3, if_neg (by decide)] at fin
    try simp only [sS]
    exact fin 0 rfl N3 (by omega) _ rfl
end Go.Proofs.YtgjdjdjhoipfmaaGreatDoor.A
open Go Go.RowKit Go.Proofs.YtgjdjdjhoipfmaaGreatDoor.K Go.Proofs.YtgjdjdjhoipfmaaGreatDoor.T
set_option linter.unusedVariables false
set_option linter.unusedSimpArgs false
namespace Go.Proofs.YtgjdjdjhoipfmaaGreatDoor.A
variable {F F' : Nat → Option (List Value)} {M M' : Nat → Option Chunk} {N N' : Nat} {K : Kont} {E : PanK}
theorem soundL_all {p : Int} : ∀ {t : List Rw} {o : Option (List Int)}, soundL p o t = true → (∀ r ∈ t, okRow p r = true) ∧ srt t ∧ (∀ k, o = some k → ∀ r ∈ t, kcmp k r.1 < 0)
  | [], o, _ => ⟨by simp, .nil, by simp⟩
  | r :: t, o, h => by
    unfold soundL at h
    rw [Bool.and_eq_true, Bool.and_eq_true] at h
    obtain ⟨⟨h1, h2⟩, h3⟩ := h
    obtain ⟨a, b, c⟩ := soundL_all h3
    refine ⟨fun x hx => ?_, List.pairwise_cons.2 ⟨fun x hx => c _ rfl x hx, b⟩, fun k hk x hx => ?_⟩
    · rcases List.mem_cons.1 hx with rfl | hx
      · exact h1
      · exact a x hx
    · subst hk
      have h4 := of_decide_eq_true h2
      rcases List.mem_cons.1 hx with rfl | hx
      · exact h4
      · exact kcmp_trans h4 (c _ rfl x hx)
theorem soundT_cut {p : Int} {t : List Rw} {lo hi : List Int} (h : soundT p t = true) : soundT p (cutF lo hi t) = true := by
  obtain ⟨a, b, _⟩ := soundL_all (show soundL p none t = true from h)
  exact soundT_of (fun r hr => a r ((List.mem_filter.1 hr).1)) (List.Pairwise.filter _ b)
theorem lvOK_lev {l : List Dm} {m : List Int} (h : lvOK l m = true) : m.length = l.length ∧ okLev l m := by
  unfold lvOK at h
  rw [Bool.and_eq_true] at h
  obtain ⟨h1, h2⟩ := h
  refine ⟨of_decide_eq_true h1, fun i hi => ?_⟩
  have h3 := List.all_eq_true.1 h2 i (List.mem_range.2 hi)
  unfold lvP at h3
  rw [getD_at hi] at h3
  have := of_decide_eq_true h3
  omega
def runRows (l : List Dm) (t : List Rw) (m lo hi : List Int) : List Rw := rollT l (cutF lo hi t) (zeros l.length) m
def runE (l : List Dm) (t : List Rw) (m lo hi : List Int) : Nat := if checkE l m lo hi = 0 then (if soundT l.length t = false then 1 else if (runRows l t m lo hi).length > 500 then 61 else 0) else checkE l m lo hi
def runT (l : List Dm) (t : List Rw) (m lo hi : List Int) : List Rw := if runE l t m lo hi = 0 then runRows l t m lo hi else []
theorem checkE_ok {l : List Dm} {m lo hi : List Int} (h : checkE l m lo hi = 0) : okDims l = true ∧ lvOK l m = true ∧ boxOK l lo hi = true := by
  unfold checkE at h
  cases h1 : okDims l
  · rw [h1] at h; simp at h
  cases h2 : lvOK l m
  · rw [h1, h2] at h; simp at h
  cases h3 : boxOK l lo hi
  · rw [h1, h2, h3] at h; simp at h
  exact ⟨rfl, rfl, rfl⟩
theorem rollE_ok {l : List Dm} {t : List Rw} {m lo hi : List Int} (h : checkE l m lo hi = 0) (ht : soundT l.length t = true) : rollE l (cutF lo hi t) (zeros l.length) m = 0 := by
  obtain ⟨h1, h2, h3⟩ := checkE_ok h
  obtain ⟨h4, h5⟩ := lvOK_lev h2
  unfold rollE
  rw [h1, levF_of (zeros_up h4 h5), soundT_cut ht]; rfl
theorem short_c {v : Value} {t : List Rw} (hv : tblD F v t) (k : K (if t.length > 500 then .tuple #[.slice none 0 0, .int .u16 61] else .tuple #[v, .int .u16 0]) ⟨F, M, N⟩) :
    callv Tryz.prog (.func (.func 72) #[] #[]) #[v] K E ⟨F, M, N⟩ := by
  refine callv_of_text mixed Tryz.func72 (by kernel_rfl) (t72 _ E _) (fun hw => ?_)
  have hlv : lenV v = some (.int .i64 (t.length : Nat)) := by obtain ⟨a, c, rfl⟩ := hv.form; rfl
  refine pv_r hlv ?_
  refine gtr_r (fun h1 => ?_) (fun h1 => ?_)
  · try simp only [sS]
    rw [if_pos (by omega)] at k
    exact fun hc => ⟨_, wk_refl hc, fun _ => k⟩
  · try simp only [sS]
    rw [if_neg (by omega)] at k
    exact fun hc => ⟨_, wk_refl hc, fun _ => k⟩
set_option maxRecDepth 10000 in
theorem run_c {u vt : Value} {cs : List Value} {l : List Dm} {t : List Rw} {m lo hi : List Int} (hu : dimsD F u l) (hl : l.length ≤ 140737488351232) (ht : tblD F vt t) (htl : t.length ≤ 1000000000) (hq : queryD F cs m lo hi) (hmi : ∀ x ∈ m, i64 x) (hti : ∀ r ∈ t, ∀ x ∈ r.1, i64 x) (hk' : checkE l m lo hi = 0 → ∀ r ∈ t, r.1.length ≤ 10000000000)
    (k : ∀ v' F' N', (Hp.mk F' M N').wf → subF F F' → N ≤ N' → tblD F' v' (runT l t m lo hi) → K (.tuple #[v', .int .u16 ((runE l t m lo hi : Nat) : Int)]) ⟨F', M, N'⟩) :
    callv Tryz.prog (.func (.func 37) #[] #[]) #[u, vt, .agg cs.toArray] K E ⟨F, M, N⟩ := by
  refine callv_of_text mixed Tryz.func37 (by kernel_rfl) (t37 _ E _ _ _) (fun hw => ?_)
  have hm : clean M N := hw.m
  have hq' := hq
  obtain ⟨a, b, c, rfl, ha, hb, hc, hml, hlol, hhil⟩ := hq'
  have hlu : lenV u = some (.int .i64 (l.length : Nat)) := by obtain ⟨a, c, rfl⟩ := hu.form; rfl
  refine nw_r (cs := [a, b, c]) (fun b1 hb1 => ?_)
  refine ldMa (vs := [a, b, c]) ?_
  have fin : ∀ v' (n : Nat) F' M' N', n = runE l t m lo hi → subF F F' → N ≤ N' → (∀ q, q < N → M' q = M q) → tblD F' v' (runT l t m lo hi) → ∀ h', h' = (⟨F', M', N'⟩ : Hp) → h'.wf → ∃ h'', h'.wk h'' ∧ (h''.wf → K (.tuple #[v', .int .u16 ((n : Nat) : Int)]) h'') := fun v' n F' M' N' e hF hN hM hv h' e' hc => by
    subst e; subst e'
    exact ⟨_, frz_wf hm hM hc, fun hw' => k _ _ _ hw' (hF.trans (subF_frzAll hc)) hN (hv.mono (subF_frzAll hc))⟩
  have hM1 : ∀ q, q < N → upd M b1 (some (.cells 36 [a, b, c] 3)) q = M q := fun q hq => upd_ne _ _ (by omega)
  refine check_c hu hl hq (fun F2 N2 hw2 hF2 hN2 => ?_)
  refine neq_r (fun h1 => ?_) (fun h1 => ?_)
  · try simp only [sS]
    have e1 : checkE l m lo hi = runE l t m lo hi := by unfold runE; rw [if_neg (by omega)]
    refine fin _ _ _ _ _ e1 hF2 (by omega) hM1 ?_ _ rfl
    unfold runT; rw [if_neg (by omega)]; exact tblD.nil
  have hch : checkE l m lo hi = 0 := by omega
  have hk := hk' hch
  obtain ⟨hokd, hoklv, hokb⟩ := checkE_ok hch
  have hl4 := okDims_len hokd
  try simp only [sS]
  refine pv_r hlu ?_
  refine tsound_c (ht.mono hF2) (by omega) (fun N3 hN3 hw3 => ?_)
  cases hs : soundT l.length t
  · try simp only [sS]
    have e1 : 1 = runE l t m lo hi := by unfold runE; rw [if_pos hch, if_pos hs]
    refine fin _ 1 _ _ _ e1 hF2 (by omega) hM1 ?_ _ rfl
    unfold runT; rw [if_neg (by omega)]; exact tblD.nil
  have hre := rollE_ok hch hs
  have hcl := cutF_len lo hi t
  have hrl : (runRows l t m lo hi).length ≤ t.length := by unfold runRows; have := rollT_len l (cutF lo hi t) (zeros l.length) m; omega
  have hrun : runE l t m lo hi = if (runRows l t m lo hi).length > 500 then 61 else 0 := by unfold runE; rw [if_pos hch, if_neg (by rw [hs]; decide)]
  have htci : ∀ r ∈ cutF lo hi t, ∀ x ∈ r.1, i64 x := fun r hr => hti r ((List.mem_filter.1 hr).1)
  try simp only [sS]
  refine ldM (v := b) ?_
  try simp only [sS]
  refine ldM (v := c) ?_
  refine pv_r hlu ?_
  try simp only [sS]
  refine ldM (v := a) ?_
  have last : ∀ v' F' M' N', subF F F' → N ≤ N' → (∀ q, q < N → M' q = M q) → tblD F' v' (runRows l t m lo hi) → callv Tryz.prog (.func (.func 72) #[] #[]) #[v'] (fun t23 => pv (exV 0 t23) fun t24 => pv (exV 1 t23) fun t25 => fun h => h.wf → ∃ h', h.wk h' ∧ (h'.wf → K (.tuple #[t24, t25]) h')) E ⟨F', M', N'⟩ := fun v' F' M' N' hF hN hM hv => by
    refine short_c hv ?_
    split
    · rename_i h500
      try simp only [sS]
      refine fin _ 61 _ _ _ (by rw [hrun, if_pos h500]) hF hN hM ?_ _ rfl
      unfold runT; rw [if_neg (by rw [hrun, if_pos h500]; decide)]; exact tblD.nil
    · rename_i h500
      try simp only [sS]
      refine fin _ 0 _ _ _ (by rw [hrun, if_neg h500]) hF hN hM ?_ _ rfl
      unfold runT; rw [if_pos (by rw [hrun, if_neg h500])]; exact hv
  have FF := hF2
  have hbox := upd_same M b1 (some (.cells 36 [a, b, c] 3))
  have hm1 : clean (upd M b1 (some (.cells 36 [a, b, c] 3))) N3 := hw3.m
  have hb13 : b1 < N3 := hm1.lt hbox
  generalize upd M b1 _ = M1 at *
  refine ⟨?_, ?_⟩
  · refine dcut_c (ht.mono hF2) (hb.mono hF2) (hc.mono hF2) hlol hhil htl hk (fun v4 F4 N4 hw4 hF4 hN4 hcut => ?_)
    refine ⟨ldV_c (row_M hbox) rfl, ?_⟩
    refine mkz_r (by omega) (fun b5 hb5 => ?_)
    refine ⟨ldV_c (row_M ((upd_ne _ _ (by omega)).trans hbox)) rfl, ?_⟩
    refine callv_go (fun hc' => ⟨_, wk_P (p := fun q => q = b5) hc', ?_⟩)
    have hs5 := subF_frzP (p := fun q => q = b5) hc'
    have hz : sF (frzP F4 (upd M1 b5 (some (.cells 3 (ic (zeros l.length)) l.length))) (fun q => q = b5)) 1 (.slice (some ⟨b5, 0, none⟩) l.length l.length) (zeros l.length).length (ic (zeros l.length)) := by
      rw [zeros_len]; exact sF_lit (frzP_at (p := fun q => q = b5) rfl (upd_same _ _ _)) (by simp [ic, zeros]) (Nat.le_refl _)
    have hM5 : ∀ q, q < N → keepM (upd M1 b5 (some (.cells 3 (ic (zeros l.length)) l.length))) (fun q => ¬ q = b5) q = M q := fun q hq => (keepM_in (by omega)).trans ((upd_ne _ _ (by omega)).trans (hM1 q hq))
    generalize frzP F4 _ _ = F5 at *
    generalize keepM _ _ = M5 at *
    have F25 := hF4.trans hs5
    refine troll_c ((hu.mono hF2).mono F25) hl (hcut.mono hs5) (by omega) hz ((ha.mono hF2).mono F25) hmi htci (fun v6 F6 N6 hw6 hF6 hN6 hr => ?_)
    rw [hre]
    try simp only [sS]
    refine neq_f (by simp) ?_
    try simp only [sS]
    exact last _ _ _ _ ((hF2.trans F25).trans hF6) (by omega) hM5 hr
  · refine mkz_r (by omega) (fun b5 hb5 => ?_)
    refine ⟨ldV_c (row_M ((upd_ne _ _ (by omega)).trans hbox)) rfl, ldV_c (row_M ((upd_ne _ _ (by omega)).trans hbox)) rfl, ldV_c (row_M ((upd_ne _ _ (by omega)).trans hbox)) rfl, ?_⟩
    refine callv_go (fun hc' => ⟨_, wk_P (p := fun q => q = b5) hc', ?_⟩)
    have hs5 := subF_frzP (p := fun q => q = b5) hc'
    have hz : sF (frzP F2 (upd M1 b5 (some (.cells 3 (ic (zeros l.length)) l.length))) (fun q => q = b5)) 1 (.slice (some ⟨b5, 0, none⟩) l.length l.length) (zeros l.length).length (ic (zeros l.length)) := by
      rw [zeros_len]; exact sF_lit (frzP_at (p := fun q => q = b5) rfl (upd_same _ _ _)) (by simp [ic, zeros]) (Nat.le_refl _)
    have hM5 : ∀ q, q < N → keepM (upd M1 b5 (some (.cells 3 (ic (zeros l.length)) l.length))) (fun q => ¬ q = b5) q = M q := fun q hq => (keepM_in (by omega)).trans ((upd_ne _ _ (by omega)).trans (hM1 q hq))
    have hbox5 : keepM (upd M1 b5 (some (.cells 3 (ic (zeros l.length)) l.length))) (fun q => ¬ q = b5) b1 = some (.cells 36 [a, b, c] 3) := (keepM_in (by omega)).trans ((upd_ne _ _ (by omega)).trans hbox)
    generalize frzP F2 _ _ = F5 at *
    generalize keepM _ _ = M5 at *
    refine dcut_c ((ht.mono hF2).mono hs5) ((hb.mono hF2).mono hs5) ((hc.mono hF2).mono hs5) hlol hhil htl hk (fun v4 F4 N4 hw4 hF4 hN4 hcut => ?_)
    refine ⟨ldV_c (row_M hbox5) rfl, ?_⟩
    have F25 := hs5.trans hF4
    refine troll_c ((hu.mono hF2).mono F25) hl hcut (by omega) (hz.mono hF4) ((ha.mono hF2).mono F25) hmi htci (fun v6 F6 N6 hw6 hF6 hN6 hr => ?_)
    rw [hre]
    try simp only [sS]
    refine neq_f (by simp) ?_
    try simp only [sS]
    exact last _ _ _ _ ((hF2.trans F25).trans hF6) (by omega) hM5 hr
end Go.Proofs.YtgjdjdjhoipfmaaGreatDoor.A
open Go Go.RowKit Go.Proofs.YtgjdjdjhoipfmaaGreatDoor.K Go.Proofs.YtgjdjdjhoipfmaaGreatDoor.T
set_option linter.unusedVariables false
set_option linter.unusedSimpArgs false
namespace Go.Proofs.YtgjdjdjhoipfmaaGreatDoor.A
variable {F F' : Nat → Option (List Value)} {M M' : Nat → Option Chunk} {N N' : Nat} {K : Kont} {E : PanK}
theorem zeros_snoc (n : Nat) : ic (zeros (n + 1)) = ic (zeros n) ++ [.int .i64 0] := by
  unfold zeros ic
  rw [List.replicate_succ', List.map_append]; rfl
set_option maxRecDepth 10000 in
theorem rrun_c {u vt : Value} {cs : List Value} {l : List Dm} {t : List Rw} {m lo hi : List Int} (hu : dimsD F u l) (hl : l.length ≤ 140737488351232) (ht : tblD F vt t) (htl : t.length ≤ 1000000000) (hq : queryD F cs m lo hi) (hmi : ∀ x ∈ m, i64 x) (hti : ∀ r ∈ t, ∀ x ∈ r.1, i64 x) (hk' : checkE l m lo hi = 0 → ∀ r ∈ t, r.1.length ≤ 10000000000)
    (k : ∀ v' F' N', (Hp.mk F' M N').wf → subF F F' → N ≤ N' → tblD F' v' (runT l t m lo hi) → K (.tuple #[v', .int .i64 ((runE l t m lo hi : Nat) : Int)]) ⟨F', M, N'⟩) :
    callv Tryz.prog (.func (.func 48) #[] #[]) #[u, vt, .agg cs.toArray] K E ⟨F, M, N⟩ := by
  refine callv_of_text mixed Tryz.func48 (by kernel_rfl) (t48 _ E _ _ _) (fun hw => ?_)
  have hm : clean M N := hw.m
  have hq' := hq
  obtain ⟨a, b, c, rfl, ha, hb, hc, hml, hlol, hhil⟩ := hq'
  have hlu : lenV u = some (.int .i64 (l.length : Nat)) := by obtain ⟨a, c, rfl⟩ := hu.form; rfl
  refine nw_r (cs := [a, b, c]) (fun b1 hb1 => ?_)
  refine ldMa (vs := [a, b, c]) ?_
  have fin : ∀ v' (n : Nat) F' M' N', n = runE l t m lo hi → subF F F' → N ≤ N' → (∀ q, q < N → M' q = M q) → tblD F' v' (runT l t m lo hi) → ∀ h', h' = (⟨F', M', N'⟩ : Hp) → h'.wf → ∃ h'', h'.wk h'' ∧ (h''.wf → K (.tuple #[v', .int .i64 ((n : Nat) : Int)]) h'') := fun v' n F' M' N' e hF hN hM hv h' e' hc => by
    subst e; subst e'
    exact ⟨_, frz_wf hm hM hc, fun hw' => k _ _ _ hw' (hF.trans (subF_frzAll hc)) hN (hv.mono (subF_frzAll hc))⟩
  have hM1 : ∀ q, q < N → upd M b1 (some (.cells 36 [a, b, c] 3)) q = M q := fun q hq => upd_ne _ _ (by omega)
  refine rcheck_c hu hl hq (fun N2 hw2 hN2 => ?_)
  refine neq_r (fun h1 => ?_) (fun h1 => ?_)
  · try simp only [sS]
    have e1 : checkE l m lo hi = runE l t m lo hi := by unfold runE; rw [if_neg (by omega)]
    refine fin _ _ _ _ _ e1 (subF.refl _) (by omega) hM1 ?_ _ rfl
    unfold runT; rw [if_neg (by omega)]; exact tblD.nil
  have hch : checkE l m lo hi = 0 := by omega
  have hk := hk' hch
  obtain ⟨hokd, hoklv, hokb⟩ := checkE_ok hch
  have hl4 := okDims_len hokd
  try simp only [sS]
  refine pv_r hlu ?_
  refine rtsound_c ht (by omega) (fun N3 hN3 hw3 => ?_)
  cases hs : soundT l.length t
  · try simp only [sS]
    have e1 : 1 = runE l t m lo hi := by unfold runE; rw [if_pos hch, if_pos hs]
    refine fin _ 1 _ _ _ e1 (subF.refl _) (by omega) hM1 ?_ _ rfl
    unfold runT; rw [if_neg (by omega)]; exact tblD.nil
  have hre := rollE_ok hch hs
  have hcl := cutF_len lo hi t
  have hrl : (runRows l t m lo hi).length ≤ t.length := by unfold runRows; have := rollT_len l (cutF lo hi t) (zeros l.length) m; omega
  have hrun : runE l t m lo hi = if (runRows l t m lo hi).length > 500 then 61 else 0 := by unfold runE; rw [if_pos hch, if_neg (by rw [hs]; decide)]
  have htci : ∀ r ∈ cutF lo hi t, ∀ x ∈ r.1, i64 x := fun r hr => hti r ((List.mem_filter.1 hr).1)
  try simp only [sS]
  have hbox := upd_same M b1 (some (.cells 36 [a, b, c] 3))
  have hm1 : clean (upd M b1 (some (.cells 36 [a, b, c] 3))) N3 := hw3.m
  have hb13 : b1 < N3 := hm1.lt hbox
  generalize upd M b1 _ = M1 at *
  refine l48_1_1_1_1_1_0_1_0_0 (σ := Nat × Value) (fun s => s.2) (fun s => .int .i64 (s.1 : Nat))
    (fun s h => ∃ M' N', h = ⟨F, M', N'⟩ ∧ N3 ≤ N' ∧ (∀ q, q < N3 → M' q = M1 q) ∧ clean M' N' ∧ s.1 ≤ l.length ∧ own M' N3 3 1 s.2 s.1 (ic (zeros s.1))) (fun s => l.length - s.1) (0, .slice none 0 0) rfl rfl
    (fun hw4 => ⟨_, wk_refl hw4, M1, N3, rfl, Nat.le_refl _, fun _ _ => rfl, hm1, Nat.zero_le _, own.nil⟩) (fun k1 s j h1' hI hw4 next => ?_)
  rw [t48_1_1_1_1_1_0_1_0_0]
  obtain ⟨M4, N4, rfl, hN4, hM4, hm4, hii, ho⟩ := hI
  refine pv_r hlu ?_
  refine lss_r (fun hlt => ?_) (fun hge => ?_)
  · have i1 : s.1 < l.length := by omega
    try simp only [sS]
    refine push_r (new := [.int .i64 0]) ho hm4 (by omega) (by kernel_rfl) rfl (List.all_eq_true.1 rfl) (by omega) (by unfold maxLen; omega) (fun p v' M5 N5 h4 h5 h6 h7 => ?_)
    refine inc_r (by omega) ?_
    refine next (s.1 + 1, v') _ _ (by simp only; omega) (fun hw5 => ⟨_, wk_refl hw5, M5, N5, rfl, by omega, fun q hq => ?_, h7, i1, ?_⟩)
    · exact ((h5 q (fun e => by have := (ho.ge q e).1; omega) (by omega)).1).trans (hM4 q hq)
    · simp only; rw [zeros_snoc]; exact h4
  · try simp only [sS]
    rw [show s.1 = l.length by omega] at ho
    have hbox4 : M4 b1 = some (.cells 36 [a, b, c] 3) := (hM4 _ hb13).trans hbox
    try simp only [sS]
    refine ldM (v := b) ?_ hbox4
    try simp only [sS]
    refine ldM (v := c) ?_ hbox4
    try simp only [sS]
    refine ldM (v := a) ?_ hbox4
    refine callv_go (fun hc' => ⟨_, wk_P (p := fun q => s.2.ownBlock = some q) hc', ?_⟩)
    have hs5 := subF_frzP (p := fun q => s.2.ownBlock = some q) hc'
    have hz : sF (frzP F M4 (fun q => s.2.ownBlock = some q)) 1 s.2 (zeros l.length).length (ic (zeros l.length)) := by rw [zeros_len]; exact ho.frzP (fun q h => h)
    have hnb : ∀ q, q < N3 → ¬ s.2.ownBlock = some q := fun q hq e => by have := (ho.ge q e).1; omega
    have hM5 : ∀ q, q < N → keepM M4 (fun q => ¬ s.2.ownBlock = some q) q = M q := fun q hq => (keepM_in (hnb q (by omega))).trans ((hM4 q (by omega)).trans (hM1 q hq))
    have hbox5 : keepM M4 (fun q => ¬ s.2.ownBlock = some q) b1 = some (.cells 36 [a, b, c] 3) := (keepM_in (hnb b1 hb13)).trans hbox4
    generalize frzP F M4 _ = F5 at *
    generalize keepM M4 _ = M5 at *
    refine rcut_c (ht.mono hs5) (hb.mono hs5) (hc.mono hs5) hlol htl hk (fun v6 F6 N6 hw6 hF6 hN6 hcut => ?_)
    refine ⟨ldV_c (row_M hbox5) rfl, ?_⟩
    have F56 := hs5.trans hF6
    refine rroll_c (hu.mono F56) hl hcut (by omega) (hz.mono hF6) (ha.mono F56) hmi htci (fun v7 F7 N7 hw7 hF7 hN7 hr => ?_)
    rw [hre]
    try simp only [sS]
    refine pv_r (v := .int .i64 ((runRows l t m lo hi).length : Nat)) (by obtain ⟨a, c, h⟩ := hr.form; rw [h]; rfl) ?_
    refine gtr_r (fun h500 => ?_) (fun h500 => ?_)
    · try simp only [sS]
      refine fin _ 61 _ _ _ (by rw [hrun, if_pos (by omega)]) (F56.trans hF7) (by omega) hM5 ?_ _ rfl
      unfold runT; rw [if_neg (by rw [hrun, if_pos (by omega)]; decide)]; exact tblD.nil
    · try simp only [sS]
      refine fin _ 0 _ _ _ (by rw [hrun, if_neg (by omega)]) (F56.trans hF7) (by omega) hM5 ?_ _ rfl
      unfold runT; rw [if_pos (by rw [hrun, if_neg (by omega)])]; exact hr
end Go.Proofs.YtgjdjdjhoipfmaaGreatDoor.A
open Go Go.RowKit Go.Proofs.YtgjdjdjhoipfmaaGreatDoor.K Go.Proofs.YtgjdjdjhoipfmaaGreatDoor.T
set_option linter.unusedVariables false
set_option linter.unusedSimpArgs false
namespace Go.Proofs.YtgjdjdjhoipfmaaGreatDoor.A
variable {F F' : Nat → Option (List Value)} {M M' : Nat → Option Chunk} {N N' : Nat} {K : Kont} {E : PanK}
def smallQ (l : List Dm) (m lo hi : List Int) : Prop := l.length ≤ 4 ∧ (∀ d ∈ l, d.2.length ≤ 4) ∧ m.length ≤ 4 ∧ lo.length ≤ 4 ∧ hi.length ≤ 4
theorem int1 {b : Nat} {x : Int} (h : F b = some [.int .i64 x]) : sF F 1 (.slice (some ⟨b, 0, none⟩) 1 1) [x].length (ic [x]) := sF_lit h rfl (by decide)
end Go.Proofs.YtgjdjdjhoipfmaaGreatDoor.A
open Go Go.RowKit Go.Proofs.YtgjdjdjhoipfmaaGreatDoor.K Go.Proofs.YtgjdjdjhoipfmaaGreatDoor.T
set_option linter.unusedVariables false
set_option linter.unusedSimpArgs false
namespace Go.Proofs.YtgjdjdjhoipfmaaGreatDoor.A
variable {F F' : Nat → Option (List Value)} {M M' : Nat → Option Chunk} {N N' : Nat} {K : Kont} {E : PanK}
end Go.Proofs.YtgjdjdjhoipfmaaGreatDoor.A
open Go Go.RowKit Go.Proofs.YtgjdjdjhoipfmaaGreatDoor.K Go.Proofs.YtgjdjdjhoipfmaaGreatDoor.T
set_option linter.unusedVariables false
set_option linter.unusedSimpArgs false
namespace Go.Proofs.YtgjdjdjhoipfmaaGreatDoor.A
variable {F F' : Nat → Option (List Value)} {M M' : Nat → Option Chunk} {N N' : Nat} {K : Kont} {E : PanK}
def joinE (ts : List (List Rw)) : Nat := if (tab ts.flatten).length > 500 then 61 else 0
def joinT (ts : List (List Rw)) : List Rw := if (tab ts.flatten).length > 500 then [] else tab ts.flatten
end Go.Proofs.YtgjdjdjhoipfmaaGreatDoor.A
open Go Go.RowKit Go.Proofs.YtgjdjdjhoipfmaaGreatDoor.K Go.Proofs.YtgjdjdjhoipfmaaGreatDoor.T
set_option linter.unusedVariables false
set_option linter.unusedSimpArgs false
namespace Go.Proofs.YtgjdjdjhoipfmaaGreatDoor.A
variable {F F' : Nat → Option (List Value)} {M M' : Nat → Option Chunk} {N N' : Nat} {K : Kont} {E : PanK}
theorem mm_max {x y : Int} {k : IntKind} : mm true (.int k x) (.int k y) = some (.int k (max x y)) := by
  simp only [mm, if_true]
  congr 2
  split <;> omega
end Go.Proofs.YtgjdjdjhoipfmaaGreatDoor.A
open Go Go.RowKit Go.Proofs.YtgjdjdjhoipfmaaGreatDoor.K Go.Proofs.YtgjdjdjhoipfmaaGreatDoor.T
set_option linter.unusedVariables false
set_option linter.unusedSimpArgs false
namespace Go.Proofs.YtgjdjdjhoipfmaaGreatDoor.A
variable {F F' : Nat → Option (List Value)} {M M' : Nat → Option Chunk} {N N' : Nat} {K : Kont} {E : PanK}
theorem mm_min {x y : Int} {k : IntKind} : mm false (.int k x) (.int k y) = some (.int k (min x y)) := by
  simp only [mm, Bool.false_eq_true, if_false]
  congr 2
  split <;> omega
theorem get_r {B : Nat} {v : Value} {l : List Int} {K : Value → Kont} (h : own M B 3 1 v l.length (ic l)) {i : Nat} (hi : i < l.length) (k : ∀ p, K p (.int .i64 l[i]) ⟨F, M, N⟩) : pv (iaV none 1 v (.int .i64 (i : Nat))) (fun p => ld false 1 p (K p)) ⟨F, M, N⟩ := by
  rcases h.2 with ⟨rfl, h0⟩ | ⟨b, c, rest, rfl, h1, h2, h3, h4⟩
  · omega
  · refine iaN_r hi (ld_r (ldV_c (row_M h4) ?_) (k _))
    rw [Nat.zero_add, Nat.mul_one, List.getElem?_append_left (by simpa [ic] using hi)]
    simp [ic, List.getElem?_eq_getElem hi]
theorem put_r {B : Nat} {v : Value} {l : List Int} {K : Value → Kont} {x : Int} (h : own M B 3 1 v l.length (ic l)) {i : Nat} (hi : i < l.length)
    (k : ∀ p M', own M' B 3 1 v (l.set i x).length (ic (l.set i x)) → (∀ q, v.ownBlock ≠ some q → M' q = M q) → (∀ n, clean M n → clean M' n) → K p undef ⟨F, M', N⟩) : pv (iaV none 1 v (.int .i64 (i : Nat))) (fun p => st 1 p (.int .i64 x) (K p)) ⟨F, M, N⟩ := by
  rcases h.2 with ⟨rfl, h0⟩ | ⟨b, c, rest, rfl, h1, h2, h3, h4⟩
  · omega
  · refine iaN_r hi ?_
    have hl : i < (ic l).length := by simpa [ic] using hi
    refine st_r (cs' := ic (l.set i x) ++ rest) h4 rfl (List.all_eq_true.1 rfl) (by rw [List.length_append]; omega) ?_ (k _ _ ⟨by simp [ic], .inr ⟨b, c, rest, by rw [List.length_set], by rw [List.length_set]; exact h1, h2, h3, upd_same _ _ _⟩⟩ (fun q hq => upd_ne _ _ (fun e => hq (by rw [e]; rfl))) (fun n hc => hc.set (hc.lt h4) _))
    rw [show (Value.int .i64 x).cells.toList = [Value.int .i64 x] from rfl, Nat.zero_add, Nat.mul_one, splice_app (by simp; omega)]
    congr 1
    unfold ic
    rw [List.map_set]
    unfold splice
    rw [List.set_eq_take_append_cons_drop, if_pos (by simpa using hi)]
    simp
theorem half_get {α : Type} {x a : List α} {i : Nat} (hx : i < x.length) (ha : i < a.length) (h : i < (x.take i ++ a.drop i).length) : (x.take i ++ a.drop i)[i] = a[i] := by
  rw [List.getElem_append_right (by rw [List.length_take]; omega)]
  simp [List.length_take, Nat.min_eq_left (Nat.le_of_lt hx)]
theorem half_set {α : Type} {x a : List α} {i : Nat} (hx : i < x.length) (ha : i < a.length) : (x.take i ++ a.drop i).set i x[i] = x.take (i + 1) ++ a.drop (i + 1) := by
  rw [List.set_append, if_neg (by rw [List.length_take]; omega), List.length_take, Nat.min_eq_left (by omega), Nat.sub_self, List.drop_eq_getElem_cons ha, List.set_cons_zero, List.take_add_one, List.getElem?_eq_getElem hx, Option.toList_some, List.append_assoc]
  rfl
set_option maxRecDepth 10000 in
theorem key_o {u v : Value} {l : List Dm} {c : List Int} (hu : dimsD F u l) (hv : sF F 1 v c.length (ick .u16 c)) (hl : l.length ≤ 1000000) (hs : ∀ d ∈ l, 0 < d.1 ∧ d.1 ≤ 1000000) (hc : ∀ x ∈ c, 0 ≤ x ∧ x < 65536) (hcl : c.length ≤ 140737488351232)
    (k : ∀ v' M' N', own M' N 3 1 v' (keyOf l c).length (ic (keyOf l c)) → (∀ q, q < N → M' q = M q) → N ≤ N' → clean M' N' → (Hp.mk F M' N').wf → K v' ⟨F, M', N'⟩) :
    callv Tryz.prog (.func (.func 36) #[] #[]) #[u, v] K E ⟨F, M, N⟩ := by
  refine callv_of_text mixed Tryz.func36 (by kernel_rfl) (t36 _ E _ _) (fun hw => ?_)
  have hm : clean M N := hw.m
  obtain ⟨rows, hu1, hu2⟩ := hu
  have hlu : lenV u = some (.int .i64 (l.length : Nat)) := by obtain ⟨a, c, rfl, _⟩ := hu1.form; rfl
  have hlv : lenV v = some (.int .i64 (c.length : Nat)) := by obtain ⟨a, c, rfl, _⟩ := hv.form; rfl
  refine l36_1_1_0_1_0_0 (σ := Nat × Value) (fun s => s.2) (fun s => .int .i64 (s.1 : Nat))
    (fun s h => ∃ M' N', h = ⟨F, M', N'⟩ ∧ N ≤ N' ∧ (∀ q, q < N → M' q = M q) ∧ clean M' N' ∧ s.1 ≤ l.length ∧ own M' N 3 1 s.2 s.1 (ic (keyOf (l.take s.1) c))) (fun s => l.length - s.1) (0, .slice none 0 0) rfl rfl
    (fun hw2 => ⟨_, wk_refl hw2, M, N, rfl, Nat.le_refl _, fun _ _ => rfl, hm, Nat.zero_le _, own.nil⟩) (fun k1 s j h1 hI hw2 next => ?_)
  rw [t36_1_1_0_1_0_0]
  obtain ⟨M2, N2, rfl, hN2, hM2, hm2, hi, ho2⟩ := hI
  try simp only [hlu, hlv]
  try simp only [sS]
  refine lss_r (fun hlt => ?_) (fun hge => ?_)
  · have h1 : s.1 < l.length := by omega
    obtain ⟨d1, d2⟩ := hs l[s.1] (List.getElem_mem _)
    try simp only [sS]
    have nat : ∀ x : Int, 0 ≤ x → x < 65536 → x = c.getD s.1 0 → ∃ n : Nat, x = n ∧ n < 65536 ∧ (c.getD s.1 0) % l[s.1].1 = ((n % l[s.1].1.toNat : Nat) : Int) := fun x h0 h1 e => ⟨x.toNat, by omega, by omega, by
      rw [← e, Int.natCast_emod, Int.toNat_of_nonneg h0, Int.toNat_of_nonneg (by omega)]⟩
    refine lss_r (fun hlt2 => ?_) (fun hge2 => ?_)
    have h2 : s.1 < c.length := by omega
    try simp only [sS]
    refine ixk_r hv h2 fun p => ?_
    obtain ⟨x0, x1⟩ := hc c[s.1] (List.getElem_mem _)
    obtain ⟨n, hn, hn1, hn2⟩ := nat c[s.1] x0 x1 (by simp [List.getD_eq_getElem?_getD, h2])
    rw [hn]
    refine cv_i64 (a := n) (by omega) ?_
    rotate_left
    try simp only [sS]
    have hg : c.getD s.1 0 = 0 := by rw [List.getD_eq_getElem?_getD, List.getElem?_eq_none (by omega)]; rfl
    obtain ⟨n, hn0, hn2⟩ : ∃ n : Nat, (.int .i64 0 : Value) = .int .i64 (n : Nat) ∧ (c.getD s.1 0) % l[s.1].1 = ((n % l[s.1].1.toNat : Nat) : Int) := ⟨0, rfl, by rw [hg]; simp⟩
    rw [hn0]
    all_goals
      rw [t36_1_1_0_1_0_0_1_0_0_1_1]
      refine fld_r hu1 hu2 (by decide) h1 (off := 0) (by decide) fun p q r x hR _ hx => ?_
      obtain ⟨kv, rfl, hkv', hkl⟩ := hR
      simp at hx
      subst hx
      rw [show l[s.1].1 = ((l[s.1].1.toNat : Nat) : Int) by omega]
      refine rem_n (by omega) ?_
      refine push_r (new := [.int .i64 ((n % l[s.1].1.toNat : Nat) : Int)]) ho2 hm2 hN2 (by kernel_rfl) rfl (List.all_eq_true.1 rfl) (by omega) (by unfold maxLen; omega) (fun p v' M3 N3 h4 h5 h6 h7 => ?_)
      refine inc_r (by omega) ?_
      refine next (s.1 + 1, v') _ _ (by simp only; omega) (fun hw3 => ⟨_, wk_refl hw3, M3, N3, rfl, by omega, fun q hq => ?_, h7, h1, ?_⟩)
      · exact ((h5 q (fun e => by have := (ho2.ge q e).1; omega) (by omega)).1).trans (hM2 q hq)
      · simp only
        rw [keyOf_take l c h1, hn2]
        simpa [ic] using h4
  · try simp only [sS]
    rw [List.take_of_length_le (by omega)] at ho2
    rw [show s.1 = l.length by omega] at ho2
    exact fun hc' => ⟨_, wk_refl hc', fun hw' => k _ _ _ (by rw [keyOf_len]; exact ho2) hM2 hN2 hm2 hw'⟩
def boxLo (l : List Dm) (a b : List Int) : List Int := List.zipWith min (keyOf l a) (keyOf l b)
def boxHi (l : List Dm) (a b : List Int) : List Int := List.zipWith (fun x y => max x y + 1) (keyOf l a) (keyOf l b)
theorem boxLo_len (l : List Dm) (a b : List Int) : (boxLo l a b).length = l.length := by simp [boxLo, keyOf_len]
theorem boxHi_len (l : List Dm) (a b : List Int) : (boxHi l a b).length = l.length := by simp [boxHi, keyOf_len]
theorem keyOf_at {l : List Dm} {c : List Int} (hs : ∀ d ∈ l, 0 < d.1 ∧ d.1 ≤ 1000000) {i : Nat} (hi : i < (keyOf l c).length) (hl : i < l.length) : 0 ≤ (keyOf l c)[i] ∧ (keyOf l c)[i] < l[i].1 := by
  obtain ⟨d1, d2⟩ := hs _ (List.getElem_mem hl)
  have e : (keyOf l c)[i] = (c.getD i 0) % l[i].1 := by simp [keyOf]
  rw [e]
  exact ⟨Int.emod_nonneg _ (by omega), Int.emod_lt_of_pos _ d1⟩
set_option maxRecDepth 10000 in
theorem box_c {u v w : Value} {l : List Dm} {a b : List Int} (hu : dimsD F u l) (hv : sF F 1 v a.length (ick .u16 a)) (hw' : sF F 1 w b.length (ick .u16 b)) (hl : l.length ≤ 1000000) (hs : ∀ d ∈ l, 0 < d.1 ∧ d.1 ≤ 1000000) (hac : ∀ x ∈ a, 0 ≤ x ∧ x < 65536) (hbc : ∀ x ∈ b, 0 ≤ x ∧ x < 65536) (hal : a.length ≤ 140737488351232) (hbl : b.length ≤ 140737488351232)
    (k : ∀ x y F' N', (Hp.mk F' M N').wf → subF F F' → N ≤ N' → sF F' 1 x (boxLo l a b).length (ic (boxLo l a b)) → sF F' 1 y (boxHi l a b).length (ic (boxHi l a b)) → K (.tuple #[x, y]) ⟨F', M, N'⟩) :
    callv Tryz.prog (.func (.func 31) #[] #[]) #[u, v, w] K E ⟨F, M, N⟩ := by
  refine callv_of_text mixed Tryz.func31 (by kernel_rfl) (t31 _ E _ _ _) (fun hw => ?_)
  have hm : clean M N := hw.m
  have hlu : lenV u = some (.int .i64 (l.length : Nat)) := by obtain ⟨a, c, h⟩ := hu.form; rw [h]; rfl
  refine key_o hu hv hl hs hac hal (fun x M1 N1 ho1 hM1 hN1 hm1 hw1 => ?_)
  refine key_o hu hw' hl hs hbc hbl (fun y M2 N2 ho2 hM2 hN2 hm2 hw2 => ?_)
  have hx1 : ∀ q, x.ownBlock = some q → N ≤ q ∧ q < N1 := fun q e => ⟨(ho1.ge q e).1, ho1.lt hm1 q e⟩
  have hy1 : ∀ q, y.ownBlock = some q → N1 ≤ q := fun q e => (ho2.ge q e).1
  have hox : own M2 N 3 1 x (keyOf l a).length (ic (keyOf l a)) := ho1.keep (fun q e => hM2 q (hx1 q e).2) (Nat.le_refl _)
  have hoy : own M2 N 3 1 y (keyOf l b).length (ic (keyOf l b)) := ho2.keep (fun q e => rfl) hN1
  have hA := keyOf_len l a
  have hB := keyOf_len l b
  have hL := boxLo_len l a b
  have hH := boxHi_len l a b
  have bA : ∀ i (h : i < (keyOf l a).length), 0 ≤ (keyOf l a)[i] ∧ (keyOf l a)[i] ≤ 1000000 := fun i h => by
    have := keyOf_at hs h (by omega); have := hs _ (List.getElem_mem (show i < l.length by omega)); omega
  have bB : ∀ i (h : i < (keyOf l b).length), 0 ≤ (keyOf l b)[i] ∧ (keyOf l b)[i] ≤ 1000000 := fun i h => by
    have := keyOf_at hs h (by omega); have := hs _ (List.getElem_mem (show i < l.length by omega)); omega
  have eL : ∀ i (h : i < (boxLo l a b).length) (h1 : i < (keyOf l a).length) (h2 : i < (keyOf l b).length), (boxLo l a b)[i] = min (keyOf l a)[i] (keyOf l b)[i] := fun i h h1 h2 => by simp [boxLo]
  have eH : ∀ i (h : i < (boxHi l a b).length) (h1 : i < (keyOf l a).length) (h2 : i < (keyOf l b).length), (boxHi l a b)[i] = max (keyOf l a)[i] (keyOf l b)[i] + 1 := fun i h h1 h2 => by simp [boxHi]
  generalize keyOf l a = A at *
  generalize keyOf l b = B at *
  generalize boxLo l a b = L at *
  generalize boxHi l a b = H at *
  refine l31_1_1_1_0_1_0_0 (σ := Nat) (fun i => .int .i64 (i : Nat)) (fun i h => ∃ M', h = ⟨F, M', N2⟩ ∧ i ≤ l.length ∧ (∀ q, q < N → M' q = M q) ∧ clean M' N2 ∧ own M' N 3 1 x (L.take i ++ A.drop i).length (ic (L.take i ++ A.drop i)) ∧ own M' N 3 1 y (H.take i ++ B.drop i).length (ic (H.take i ++ B.drop i))) (fun i => l.length - i) 0 rfl
    (fun hw3 => ⟨_, wk_refl hw3, M2, rfl, Nat.zero_le _, fun q hq => (hM2 q (by omega)).trans (hM1 q hq), hm2, hox, hoy⟩) (fun k1 i j h1 hI hw3 next => ?_)
  rw [t31_1_1_1_0_1_0_0]
  obtain ⟨M3, rfl, hi, hM3, hm3, h3, h4⟩ := hI
  refine pv_r hlu ?_
  refine lss_r (fun hlt => ?_) (fun hge => ?_)
  · have i1 : i < l.length := by omega
    have i2 : i < (L.take i ++ A.drop i).length := by simp; omega
    have i3 : i < (H.take i ++ B.drop i).length := by simp; omega
    have gA : (L.take i ++ A.drop i)[i] = A[i] := half_get (by omega) (by omega) i2
    have gB : (H.take i ++ B.drop i)[i] = B[i] := half_get (by omega) (by omega) i3
    have cA := bA i (by omega)
    have cB := bB i (by omega)
    have dL := eL i (by omega) (by omega) (by omega)
    have dH := eH i (by omega) (by omega) (by omega)
    try simp only [sS]
    refine get_r h3 i2 fun p => get_r h4 i3 fun p => ?_
    refine pv_r (mm_min) ?_
    refine get_r h3 i2 fun p => get_r h4 i3 fun p => ?_
    refine pv_r (mm_max) ?_
    rw [gA, gB]
    refine add_r (by omega) (by omega) ?_
    rw [← dL, ← dH]
    refine put_r h4 i3 fun p M4 g1 g2 g3 => ?_
    have h3' : own M4 N 3 1 x (L.take i ++ A.drop i).length (ic (L.take i ++ A.drop i)) := h3.keep (fun q e => g2 q (fun e2 => by have := hy1 q e2; have := hx1 q e; omega)) (Nat.le_refl _)
    refine put_r h3' i2 fun p M5 k1' k2 k3 => ?_
    refine inc_r (by omega) ?_
    rw [half_set (by omega) (by omega)] at g1 k1'
    refine next (i + 1) _ _ (by omega) (fun hw4 => ⟨_, wk_refl hw4, M5, rfl, i1, fun q hq => ?_, k3 _ (g3 _ hm3), k1', g1.keep (fun q e => k2 q (fun e2 => by have := hy1 q e; have := hx1 q e2; omega)) (Nat.le_refl _)⟩)
    exact (k2 q (fun e => by have := hx1 q e; omega)).trans ((g2 q (fun e => by have := hy1 q e; omega)).trans (hM3 q hq))
  · try simp only [sS]
    rw [List.take_of_length_le (by omega), List.drop_eq_nil_of_le (by omega), List.append_nil] at h3 h4
    exact fun hc => ⟨_, frz_wf hm hM3 hc, fun hw4 => k _ _ _ _ hw4 (subF_frzAll hc) (by omega) (h3.rd.frz hc (fun b hb => .inl (h3.ge b hb).1)) (h4.rd.frz hc (fun b hb => .inl (h4.ge b hb).1))⟩
set_option maxRecDepth 10000 in
theorem ask_c {u w va vb : Value} {l : List Dm} {c a b : List Int} (hu : dimsD F u l) (hw' : sF F 1 w c.length (ick .u8 c)) (hv : sF F 1 va a.length (ick .u16 a)) (hvb : sF F 1 vb b.length (ick .u16 b)) (hl : l.length ≤ 1000000) (hs : ∀ d ∈ l, 0 < d.1 ∧ d.1 ≤ 1000000) (hdv : ∀ d ∈ l, d.2.length ≤ 1000000) (hcc : ∀ x ∈ c, 0 ≤ x ∧ x < 256) (hac : ∀ x ∈ a, 0 ≤ x ∧ x < 65536) (hbc : ∀ x ∈ b, 0 ≤ x ∧ x < 65536) (hcl : c.length ≤ 140737488351232) (hal : a.length ≤ 140737488351232) (hbl : b.length ≤ 140737488351232)
    (k : ∀ cs F' N', (Hp.mk F' M N').wf → subF F F' → N ≤ N' → queryD F' cs (levOf l c []) (boxLo l a b) (boxHi l a b) → K (.agg cs.toArray) ⟨F', M, N'⟩) :
    callv Tryz.prog (.func (.func 14) #[] #[]) #[u, w, va, vb] K E ⟨F, M, N⟩ := by
  refine callv_of_text mixed Tryz.func14 (by kernel_rfl) (t14 _ E _ _ _ _) (fun hw => ?_)
  have hm : clean M N := hw.m
  refine nw_r (fun b1 hb1 => ?_)
  refine box_c hu hv hvb hl hs hac hbc hal hbl (fun x y F2 N2 hw2 hF2 hN2 hx hy => ?_)
  try simp only [sS]
  refine lgen_c (m := []) (hu.mono hF2) (hw'.mono hF2) (sF.nil _ _ _) hl hdv hcc (nil_ok l) hcl (by simp) (fun z F3 N3 hw3 hF3 hN3 hz => ?_)
  have hx3 := hx.mono hF3
  have hy3 := hy.mono hF3
  obtain ⟨a1, c1, e1, _⟩ := hx3.form
  obtain ⟨a2, c2, e2, _⟩ := hy3.form
  obtain ⟨a3, c3, e3, _⟩ := hz.form
  refine pv_r (v := .agg #[z, x, y]) (by rw [e1, e2, e3]; kernel_rfl) ?_
  refine stM (cs' := [z, x, y]) ?_ (upd_same _ _ _) rfl rfl (by rw [e1, e2, e3]; exact List.all_eq_true.1 rfl) (by exact Nat.le_of_ble_eq_true rfl)
  rw [upd_upd]
  refine ldMa (vs := [z, x, y]) ?_
  have h1 := boxLo_len l a b
  have h2 := boxHi_len l a b
  have h3 := levOf_len l c []
  exact fun hc => ⟨⟨F3, M, N3⟩, wk_drop hc (subM_drop (subM_refl _) (hm _ hb1)), fun hw4 => k [z, x, y] _ _ hw4 (hF2.trans hF3) (by omega) ⟨z, x, y, rfl, hz, hx3, hy3, by omega, by omega, by omega⟩⟩
end Go.Proofs.YtgjdjdjhoipfmaaGreatDoor.A
open Go Go.RowKit Go.Proofs.YtgjdjdjhoipfmaaGreatDoor.K Go.Proofs.YtgjdjdjhoipfmaaGreatDoor.T
set_option linter.unusedVariables false
set_option linter.unusedSimpArgs false
namespace Go.Proofs.YtgjdjdjhoipfmaaGreatDoor.A
variable {F F' : Nat → Option (List Value)} {M M' : Nat → Option Chunk} {N N' : Nat} {K : Kont} {E : PanK}
theorem look_filter (p : List Int → Bool) (k : List Int) : ∀ t : List Rw, look (t.filter fun r => p r.1) k = if p k = true then look t k else none
  | [] => by simp [look]
  | (k', c) :: t => by
    have ih := look_filter p k t
    rw [List.filter_cons]
    by_cases hk : k' = k
    · subst hk
      by_cases hp : p k' = true
      · rw [if_pos hp, if_pos hp]; simp [look]
      · rw [if_neg hp, ih, if_neg hp, if_neg hp]
    · have e : look ((k', c) :: t) k = look t k := by simp [look, hk]
      rw [e]
      split
      · rw [← ih]; simp [look, hk]
      · exact ih
theorem vals_filter (p : List Int → Bool) (k : List Int) : ∀ ls : List KV, valsAt (ls.filter fun x => p x.1) k = if p k = true then valsAt ls k else []
  | [] => by simp [valsAt]
  | x :: ls => by
    have ih := vals_filter p k ls
    rw [List.filter_cons, valsAt_cons]
    by_cases hk : x.1 = k
    · by_cases hp : p x.1 = true
      · have hp' : p k = true := by rw [← hk]; exact hp
        rw [if_pos hp, valsAt_cons, ih, if_pos hp', if_pos hp']
      · rw [if_neg hp, ih, ← hk, if_neg hp, if_neg hp]
    · rw [if_neg hk, List.nil_append]
      split
      · rw [valsAt_cons, if_neg hk, List.nil_append, ih]
      · exact ih
theorem sizeL_filter (p : KV → Bool) : ∀ ls : List KV, sizeL (ls.filter p) ≤ sizeL ls
  | [] => by simp
  | x :: ls => by
    have ih := sizeL_filter p ls
    rw [List.filter_cons]
    split
    · simp only [sizeL, List.map_cons, List.sum_cons] at ih ⊢; omega
    · simp only [sizeL, List.map_cons, List.sum_cons] at ih ⊢; omega
def boxedL (lo hi : List Int) (ls : List KV) : List KV := ls.filter fun x => withinF lo hi x.1
theorem goodT.cut {l : List Dm} {t : List Rw} {ls : List KV} (h : goodT l t ls) (lo hi : List Int) : goodT l (cutF lo hi t) (boxedL lo hi ls) := by
  refine ⟨fun k => ?_, List.Pairwise.filter _ h.srt, fun x hx => h.key x (List.mem_filter.1 hx).1, fun x hx => h.val x (List.mem_filter.1 hx).1⟩
  have e1 : look (cutF lo hi t) k = if withinF lo hi k = true then look t k else none := look_filter (withinF lo hi) k t
  have e2 : valsAt (boxedL lo hi ls) k = if withinF lo hi k = true then valsAt ls k else [] := vals_filter (withinF lo hi) k ls
  rw [e1, e2]
  have h0 := h.has k
  by_cases hp : withinF lo hi k = true
  · rw [if_pos hp, if_pos hp]; exact h0
  · rw [if_neg hp, if_neg hp]
def told (l : List Dm) (m lo hi : List Int) (ls : List KV) : List KV := reK (atF l (zeros l.length) m) (boxedL lo hi ls)
theorem lvOK_of {l : List Dm} {m : List Int} (hl : m.length = l.length) (h : okLev l m) : lvOK l m = true := by
  unfold lvOK
  rw [decide_eq_true hl, Bool.true_and, List.all_eq_true]
  intro i hi
  have i1 := List.mem_range.1 hi
  unfold lvP
  rw [getD_at i1]
  have := h i i1
  exact decide_eq_true ⟨by omega, by omega⟩
theorem checkE_of {l : List Dm} {m lo hi : List Int} (hd : okDims l = true) (hl : m.length = l.length) (h : okLev l m) (hb : boxOK l lo hi = true) : checkE l m lo hi = 0 := by
  unfold checkE
  rw [hd, lvOK_of hl h, hb]; rfl
theorem goodT.run {l : List Dm} {t : List Rw} {ls : List KV} (h : goodT l t ls) {m lo hi : List Int} (hd : okDims l = true) (hl : m.length = l.length) (hm : okLev l m) (hb : boxOK l lo hi = true) (h1 : t.length ≤ 500) (h2 : sizeL ls ≤ 1000) :
    runE l t m lo hi = 0 ∧ goodT l (runT l t m lo hi) (told l m lo hi ls) := by
  have hc := h.cut lo hi
  have h3 := cutF_len lo hi t
  have h4 := sizeL_filter (fun x => withinF lo hi x.1) ls
  have h6 : sizeL (boxedL lo hi ls) ≤ 1000 := Nat.le_trans h4 h2
  obtain ⟨h5, hg⟩ := hc.rolled hd (zeros_up hl hm) (small2 (by omega) h6)
  have h7 : (runRows l t m lo hi).length ≤ 500 := by unfold runRows; have := rollT_len l (cutF lo hi t) (zeros l.length) m; omega
  have e : runE l t m lo hi = 0 := by
    unfold runE
    rw [if_pos (checkE_of hd hl hm hb), if_neg (by rw [h.sound]; decide), if_neg (by omega)]
  refine ⟨e, ?_⟩
  unfold runT
  rw [if_pos e]; exact hg
theorem goodT.none (l : List Dm) : goodT l [] [] := ⟨fun k => by simp [look, valsAt], .nil, by simp, by simp⟩
end Go.Proofs.YtgjdjdjhoipfmaaGreatDoor.A
open Go Go.RowKit Go.Proofs.YtgjdjdjhoipfmaaGreatDoor.K Go.Proofs.YtgjdjdjhoipfmaaGreatDoor.T
set_option linter.unusedVariables false
set_option linter.unusedSimpArgs false
namespace Go.Proofs.YtgjdjdjhoipfmaaGreatDoor.A
variable {F F' : Nat → Option (List Value)} {M M' : Nat → Option Chunk} {N N' : Nat} {K : Kont} {E : PanK}
end Go.Proofs.YtgjdjdjhoipfmaaGreatDoor.A
open Go Go.RowKit Go.Proofs.YtgjdjdjhoipfmaaGreatDoor.K
set_option linter.unusedVariables false
set_option maxRecDepth 100000
namespace Go.Proofs.YtgjdjdjhoipfmaaGreatDoor.T
section
variable (K : Kont) (E : PanK) (k1 k2 k3 k4 k5 : Env → Hp → Prop) (x0 x1 x2 x3 x4 x5 x6 x7 x8 x9 x10 x11 x12 x13 x14 x15 x16 x17 x18 x19 x20 x21 x22 x23 x24 x25 x26 x27 x28 x29 x30 x31 x32 x33 x34 x35 x36 x37 x38 x39 x40 x41 x42 x43 x44 x45 x46 x47 x48 v0 v1 v2 v3 v4 v5 v6 v7 v8 v9 v10 v11 v12 v13 v14 v15 v16 v17 v18 v19 v20 v21 v22 v23 v24 v25 v26 v27 v28 v29 v30 v31 v32 v33 v34 v35 v36 v37 v38 v39 v40 v41 v42 v43 v44 v45 v46 v47 v48 : Value) (j : Nat → Value)
abbrev q13 : QD := bodyQ Tryz.prog Tryz.f13.results.toList K E
abbrev d13 (p : List Nat) : QD → Env → Hp → Prop := den Tryz.prog (sel (bodyOf Tryz.f13) p)
def m13_1_1_1_0_1_0_0 (j : Nat → Value) : Env := #[x0, x1, x2, x3, x4, (j 5), x6, x7, x8, x9, x10, x11, x12, v13, (j 14), (j 15), (j 16), (j 17), (j 18), (j 19), (j 20), (j 21), (j 22), (j 23), (j 24), (j 25), (j 26), (j 27), (j 28), (j 29), (j 30), (j 31), (j 32), x33]
theorem t13 : d13 [] (q13 K E) #[x0, U, U, U, U, U, U, U, U, U, U, U, U, U, U, U, U, U, U, U, U, U, U, U, U, U, U, U, U, U, U, U, U, U] =
  callv Tryz.prog (.func (.func 29) #[] #[]) #[x0] (fun t1 =>
  pv (unV .not t1) fun t2 =>
  cnd t2 (
   K (.pointer none)) (
   pv (bdC #[(.slice none 0 0), (.slice none 0 0)] [(0, 1), (1, 1)] #[]) fun t3 =>
   nw 84 (Value.cells t3).toList fun t4 =>
   pv (lenV x0) fun t5 =>
   lp (fun k1 => d13 [1, 1, 1, 0, 1, 0, 0] (thenD k1 (blk 0 (thenD (d13 [1, 1, 1, 1] (q13 K E)) (q13 K E))))) (m13_1_1_1_0_1_0_0 x0 U (.pointer none) t4 U x0 t1 t2 t3 t4 x0 t5 U (.int .i64 0) (jf #[])))) E := by kernel_rfl
theorem t13_1_1_1_0_1_0_0 : d13 [1, 1, 1, 0, 1, 0, 0] (thenD k1 (blk 0 (thenD (d13 [1, 1, 1, 1] (q13 K E)) (q13 K E)))) (m13_1_1_1_0_1_0_0 x0 x1 x2 x3 x4 x6 x7 x8 x9 x10 x11 x12 x33 v13 j) =
  pv (binV .none .lss v13 x12) fun t1 =>
  cnd t1 (
   pv (iaV none 2 x11 v13) fun t2 =>
   ld true 2 t2 fun t3 =>
   nw 74 [(.int .i64 0), (.slice none 0 0)] fun t4 =>
   st 2 t4 t3 fun _ =>
   pv (nilV x3) fun t5 =>
   pv (faV 1 t5) fun t6 =>
   ld false 1 t6 fun t7 =>
   pv (faV 0 t4) fun t8 =>
   ld false 1 t8 fun t9 =>
   pv (faV 1 t4) fun t10 =>
   ld false 1 t10 fun t11 =>
   callv Tryz.prog (.func (.func 30) #[] #[]) #[t11] (fun t12 h13 => (ldV h13 false 1 t8 t9) ∧ (ldV h13 false 1 t6 t7) ∧ (
    pv (bdC #[(.int .i64 0), (.slice none 0 0)] [(0, 1), (1, 1)] #[(0, t9), (1, t12)]) fun t14 =>
    nws 74 1 (bsC #[(.int .i64 0), (.slice none 0 0)] 2 1 #[(0, t14)]) (fun t15 h16 => (ldV h16 false 1 t6 t7) ∧ (
     appX 74 2 32 t7 t15 fun t17 =>
     pv (nilV x3) fun t18 =>
     pv (faV 1 t18) fun t19 =>
     st 1 t19 t17 fun _ =>
     pv (binV .none .add v13 (.int .i64 1)) fun t20 =>
     k1 (m13_1_1_1_0_1_0_0 x0 x1 x2 x3 x4 x6 x7 x8 x9 x10 x11 x12 x33 t20 (jf #[U, U, U, U, U, t4, U, U, U, U, U, U, U, U, t1, t2, t3, x3, x3, t5, t6, t7, t8, t9, t10, t11, t12, t14, t15, t17, t18, t19, t20]))) h16)) h13) E) (
   K x3) := by kernel_rfl
abbrev q15 : QD := bodyQ Tryz.prog Tryz.f15.results.toList K E
abbrev d15 (p : List Nat) : QD → Env → Hp → Prop := den Tryz.prog (sel (bodyOf Tryz.f15) p)
theorem t15 : d15 [] (q15 K E) #[x0, x1, x2, U, U, U, U, U, U, U, U, U, U, U, U, U, U, U, U, U, U, U, U, U, U, U, U, U, U, U, U, U, U, U, U, U, U, U, U, U, U, U, U, U] =
  pv (nilV x0) fun t1 =>
  pv (faV 0 t1) fun t2 =>
  ld false 1 t2 fun t3 =>
  callv Tryz.prog (.func (.func 33) #[] #[]) #[t3, x1] (fun t4 =>
  pv (exV 0 t4) fun t5 =>
  pv (exV 1 t4) fun t6 =>
  callv Tryz.prog (.func (.func 34) #[] #[]) #[x0, x2] (fun t7 =>
  pv (unV .not t7) fun t8 =>
  cnd t8 (
   K (.int .u16 1)) (
   pv (binV .none .eql x1 (.int .u32 0)) fun t9 =>
   cnd t9 (
    d15 [1, 1, 0, 0, 1, 1, 1] (blk 0 (thenD (d15 [1, 1, 1] (q15 K E)) (q15 K E))) #[x0, x1, x2, U, U, U, (.int .u16 0), t5, t6, t4, x0, t1, t2, t3, x1, t4, t5, t6, t8, x0, x2, t7, t8, t9, x1, t9, U, U, U, U, U, U, U, U, U, U, U, U, U, U, U, U, U, U]) (
    d15 [1, 1, 0, 0, 1, 1, 1] (blk 0 (thenD (d15 [1, 1, 1] (q15 K E)) (q15 K E))) #[x0, x1, x2, U, U, U, (.int .u16 0), t5, t6, t4, x0, t1, t2, t3, x1, t4, t5, t6, t8, x0, x2, t7, t8, t6, x1, t9, t6, U, U, U, U, U, U, U, U, U, U, U, U, U, U, U, U, U]))) E) E := by kernel_rfl
theorem t15_1_1_0_0_1_1_1 : d15 [1, 1, 0, 0, 1, 1, 1] (blk 0 (thenD (d15 [1, 1, 1] (q15 K E)) (q15 K E))) #[x0, x1, x2, x3, x4, x5, x6, x7, x8, x9, x10, x11, x12, x13, x14, x15, x16, x17, x18, x19, x20, x21, x22, x23, x24, x25, x26, x27, x28, x29, x30, x31, x32, x33, x34, x35, x36, x37, x38, x39, x40, x41, x42, x43] =
  cnd x23 (
   K (.int .u16 130)) (
   pv (nilV x0) fun t1 =>
   pv (faV 0 t1) fun t2 =>
   ld false 1 t2 fun t3 =>
   pv (lenV t3) fun t4 =>
   pv (binV .none .geq t4 (.int .i64 5000)) fun t5 =>
   cnd t5 (
    K (.int .u16 3)) (
    pv (nilV x0) fun t6 =>
    pv (faV 0 t6) fun t7 =>
    ld false 1 t7 fun t8 =>
    callv Tryz.prog (.func (.func 35) #[] #[]) #[t8, x1, x2] (fun t9 =>
    pv (nilV x0) fun t10 =>
    pv (faV 0 t10) fun t11 =>
    st 1 t11 t9 fun _ =>
    K (.int .u16 0)) E)) := by kernel_rfl
abbrev q33 : QD := bodyQ Tryz.prog Tryz.f33.results.toList K E
abbrev d33 (p : List Nat) : QD → Env → Hp → Prop := den Tryz.prog (sel (bodyOf Tryz.f33) p)
theorem t33 : d33 [] (q33 K E) #[x0, x1, U, U, U, U, U, U, U, U, U] =
  callv Tryz.prog (.func (.func 59) #[] #[]) #[x0, x1, (.func (.func 60) #[] #[])] (fun t1 =>
  pv (exV 0 t1) fun t2 =>
  pv (exV 1 t1) fun t3 =>
  K (.tuple #[t2, t3])) E := by kernel_rfl
abbrev q34 : QD := bodyQ Tryz.prog Tryz.f34.results.toList K E
abbrev d34 (p : List Nat) : QD → Env → Hp → Prop := den Tryz.prog (sel (bodyOf Tryz.f34) p)
theorem t34 : d34 [] (q34 K E) #[x0, x1, U, U, U, U, U, U, U, U, U, U, U, U] =
  nw 31 (Value.cells x0).toList fun t1 =>
  pv (lenV x1) fun t2 =>
  pv (binV .none .leq t2 (.int .i64 200)) fun t3 =>
  gdK t3 true (fun k => k x1) fun t4 =>
  gdK t3 true (fun k => k (.func (.func 63) #[] #[t1])) fun t5 =>
  gdK t3 true (fun k => callv Tryz.prog (.func (.func 62) #[] #[]) #[t4, t5] k E) fun t6 =>
  gdK t3 true (fun k => pv (unV .not t6) k) fun t7 =>
  pv (pickV t3 t7 (.bool false)) fun t8 =>
  K t8 := by kernel_rfl
abbrev q35 : QD := bodyQ Tryz.prog Tryz.f35.results.toList K E
abbrev d35 (p : List Nat) : QD → Env → Hp → Prop := den Tryz.prog (sel (bodyOf Tryz.f35) p)
theorem t35 : d35 [] (q35 K E) #[x0, x1, x2, U, U, U, U, U, U, U, U, U, U, U, U, U, U, U, U, U, U, U, U, U, U, U, U, U, U, U, U, U, U, U, U, U, U, U] =
  callv Tryz.prog (.func (.func 33) #[] #[]) #[x0, x1] (fun t1 =>
  pv (exV 0 t1) fun t2 =>
  pv (exV 1 t1) fun t3 =>
  cnd t3 (
   pv (iaV none 2 x0 t2) fun t4 =>
   pv (faV 1 t4) fun t5 =>
   ld false 1 t5 fun t6 =>
   callv Tryz.prog (.func (.func 66) #[] #[]) #[x2] (fun t7 h8 => (ldV h8 false 1 t5 t6) ∧ (
    nws 40 2 (bsC #[(.slice none 0 0)] 1 2 #[(0, t6), (1, t7)]) fun t9 =>
    callv Tryz.prog (.func (.func 65) #[] #[]) #[t9] (fun t10 =>
    pv (iaV none 2 x0 t2) fun t11 =>
    pv (faV 1 t11) fun t12 =>
    st 1 t12 t10 fun _ =>
    K x0) E) h8) E) (
   callv Tryz.prog (.func (.func 66) #[] #[]) #[x2] (fun t13 =>
   pv (bdC #[(.int .u32 0), (.slice none 0 0)] [(0, 1), (1, 1)] #[(0, x1), (1, t13)]) fun t14 =>
   nws 52 1 (bsC #[(.int .u32 0), (.slice none 0 0)] 2 1 #[(0, t14)]) fun t15 =>
   callv Tryz.prog (.func (.func 67) #[] #[]) #[x0, t2, t15] (fun t16 =>
   K t16) E) E)) E := by kernel_rfl
abbrev q59 : QD := bodyQ Tryz.prog Tryz.f59.results.toList K E
abbrev d59 (p : List Nat) : QD → Env → Hp → Prop := den Tryz.prog (sel (bodyOf Tryz.f59) p)
def m59_1_1_1_0_0_0 (j : Nat → Value) : Env := #[x0, x1, x2, x3, x4, x5, x6, x7, x8, v9, v10, (j 11), x12, x13, x14, (j 15), (j 16), (j 17), (j 18), (j 19), (j 20), (j 21), (j 22), (j 23), (j 24), (j 25), (j 26), (j 27), (j 28), (j 29), (j 30), (j 31), (j 32), (j 33), (j 34), x35, x36, x37, x38, x39, x40, x41, x42, x43, x44, x45, x46, x47, x48]
theorem t59 : d59 [] (q59 K E) #[x0, x1, x2, U, U, U, U, U, U, U, U, U, U, U, U, U, U, U, U, U, U, U, U, U, U, U, U, U, U, U, U, U, U, U, U, U, U, U, U, U, U, U, U, U, U, U, U, U, U] =
  pv (lenV x0) fun t1 =>
  lp (fun k1 => d59 [1, 1, 1, 0, 0, 0] (thenD k1 (blk 0 (thenD (d59 [1, 1, 1, 1] (q59 K E)) (q59 K E))))) (m59_1_1_1_0_0_0 x0 x1 x2 U U U (.int .i64 0) (.bool false) t1 x0 t1 t1 U U U U U U U U U U U U U U (.int .i64 0) t1 (jf #[])) := by kernel_rfl
theorem t59_1_1_1_0_0_0 : d59 [1, 1, 1, 0, 0, 0] (thenD k1 (blk 0 (thenD (d59 [1, 1, 1, 1] (q59 K E)) (q59 K E)))) (m59_1_1_1_0_0_0 x0 x1 x2 x3 x4 x5 x6 x7 x8 x12 x13 x14 x35 x36 x37 x38 x39 x40 x41 x42 x43 x44 x45 x46 x47 x48 v9 v10 j) =
  pv (binV .none .lss v9 v10) fun t1 =>
  cnd t1 (
   pv (binV .none .add v9 v10) fun t2 =>
   pv (cvV .u64 t2) fun t3 =>
   pv (binV .none .shr t3 (.int .u64 1)) fun t4 =>
   pv (cvV .i64 t4) fun t5 =>
   pv (iaV none 2 x0 t5) fun t6 =>
   ld true 2 t6 fun t7 =>
   callv Tryz.prog x2 #[t7, x1] (fun t8 =>
   pv (binV .none .lss t8 (.int .i64 0)) fun t9 =>
   cnd t9 (
    pv (binV .none .add t5 (.int .i64 1)) fun t10 =>
    k1 (m59_1_1_1_0_0_0 x0 x1 x2 x3 x4 x5 x6 x7 x8 x12 x13 x14 x35 x36 x37 x38 x39 x40 x41 x42 x43 x44 x45 x46 x47 x48 t10 v10 (jf #[U, U, U, U, U, U, U, U, U, U, U, t5, U, U, U, v9, v10, t1, v9, v10, t2, t3, t4, t5, x2, x0, t5, t6, t7, x1, t8, t9, t5, t10, (j 34)]))) (
    k1 (m59_1_1_1_0_0_0 x0 x1 x2 x3 x4 x5 x6 x7 x8 x12 x13 x14 x35 x36 x37 x38 x39 x40 x41 x42 x43 x44 x45 x46 x47 x48 v9 t5 (jf #[U, U, U, U, U, U, U, U, U, U, U, t5, U, U, U, v9, v10, t1, v9, v10, t2, t3, t4, t5, x2, x0, t5, t6, t7, x1, t8, t9, (j 32), (j 33), t5])))) E) (
   pv (binV .none .lss v9 x8) fun t11 =>
   gdK t11 true (fun k => k x2) fun t12 =>
   gdK t11 true (fun k => k x0) fun t13 =>
   gdK t11 true (fun k => k v9) fun t14 =>
   gdK t11 true (fun k => pv (iaV none 2 t13 t14) k) fun t15 =>
   gdK t11 true (fun k => ld true 2 t15 k) fun t16 =>
   gdK t11 true (fun k => k x1) fun t17 =>
   gdK t11 true (fun k => callv Tryz.prog t12 #[t16, t17] k E) fun t18 =>
   gdK t11 true (fun k => pv (binV .none .eql t18 (.int .i64 0)) k) fun t19 =>
   pv (pickV t11 t19 (.bool false)) fun t20 =>
   K (.tuple #[v9, t20])) := by kernel_rfl
abbrev q60 : QD := bodyQ Tryz.prog Tryz.f60.results.toList K E
abbrev d60 (p : List Nat) : QD → Env → Hp → Prop := den Tryz.prog (sel (bodyOf Tryz.f60) p)
theorem t60 : d60 [] (q60 K E) #[x0, x1, U, U, U, U, U, U, U] =
  nw 52 (Value.cells x0).toList fun t1 =>
  pv (faV 0 t1) fun t2 =>
  ld false 1 t2 fun t3 =>
  callv Tryz.prog (.func (.func 61) #[] #[]) #[t3, x1] (fun t4 =>
  K t4) E := by kernel_rfl
abbrev q61 : QD := bodyQ Tryz.prog Tryz.f61.results.toList K E
abbrev d61 (p : List Nat) : QD → Env → Hp → Prop := den Tryz.prog (sel (bodyOf Tryz.f61) p)
theorem t61 : d61 [] (q61 K E) #[x0, x1, U, U, U, U, U, U, U, U, U, U, U, U, U, U, U, U, U, U] =
  callv Tryz.prog (.func (.func 93) #[] #[]) #[x0] (fun t1 =>
  callv Tryz.prog (.func (.func 93) #[] #[]) #[x1] (fun t2 =>
  cnd t1 (
   cnd t2 (
    K (.int .i64 0)) (
    K (.int .i64 (-1)))) (
   cnd t2 (
    K (.int .i64 1)) (
    pv (binV .none .lss x0 x1) fun t3 =>
    cnd t3 (
     K (.int .i64 (-1))) (
     pv (binV .none .gtr x0 x1) fun t4 =>
     cnd t4 (
      K (.int .i64 1)) (
      K (.int .i64 0)))))) E) E := by kernel_rfl
abbrev q62 : QD := bodyQ Tryz.prog Tryz.f62.results.toList K E
abbrev d62 (p : List Nat) : QD → Env → Hp → Prop := den Tryz.prog (sel (bodyOf Tryz.f62) p)
theorem t62 : d62 [] (q62 K E) #[x0, x1, U, U, U, U, U, U, U] =
  callv Tryz.prog (.func (.func 94) #[] #[]) #[x0, x1] (fun t1 =>
  pv (binV .none .geq t1 (.int .i64 0)) fun t2 =>
  K t2) E := by kernel_rfl
abbrev q63 : QD := bodyQ Tryz.prog Tryz.f63.results.toList K E
abbrev d63 (p : List Nat) : QD → Env → Hp → Prop := den Tryz.prog (sel (bodyOf Tryz.f63) p)
theorem t63 : d63 [] (q63 K E) #[x0, x1, U, U, U, U, U, U, U, U, U, U] =
  nw 48 (Value.cells x0).toList fun t1 =>
  ld false 1 x1 fun t2 =>
  pv (nilV t2) fun t3 =>
  pv (faV 1 t3) fun t4 =>
  ld false 1 t4 fun t5 =>
  pv (faV 0 t1) fun t6 =>
  ld false 1 t6 fun t7 =>
  callv Tryz.prog (.func (.func 64) #[] #[]) #[t5, t7] (fun t8 =>
  pv (unV .not t8) fun t9 =>
  K t9) E := by kernel_rfl
abbrev q64 : QD := bodyQ Tryz.prog Tryz.f64.results.toList K E
abbrev d64 (p : List Nat) : QD → Env → Hp → Prop := den Tryz.prog (sel (bodyOf Tryz.f64) p)
theorem t64 : d64 [] (q64 K E) #[x0, x1, U, U, U, U, U, U] =
  callv Tryz.prog (.func (.func 95) #[] #[]) #[x0, x1, (.func (.func 96) #[] #[])] (fun t1 =>
  K t1) E := by kernel_rfl
abbrev q66 : QD := bodyQ Tryz.prog Tryz.f66.results.toList K E
abbrev d66 (p : List Nat) : QD → Env → Hp → Prop := den Tryz.prog (sel (bodyOf Tryz.f66) p)
def m66_1_1_0_1_0_0 (j : Nat → Value) : Env := #[x0, x1, x2, v3, x4, (j 5), x6, x7, v8, (j 9), (j 10), (j 11), (j 12), (j 13), (j 14), (j 15), (j 16), (j 17), (j 18), (j 19), (j 20), (j 21), x22]
theorem t66 : d66 [] (q66 K E) #[x0, U, U, U, U, U, U, U, U, U, U, U, U, U, U, U, U, U, U, U, U, U, U] =
  pv (lenV x0) fun t1 =>
  lp (fun k1 => d66 [1, 1, 0, 1, 0, 0] (thenD k1 (blk 0 (thenD (d66 [1, 1, 1] (q66 K E)) (q66 K E))))) (m66_1_1_0_1_0_0 x0 U (.slice none 0 0) U x0 t1 U (.slice none 0 0) (.int .i64 0) (jf #[])) := by kernel_rfl
theorem t66_1_1_0_1_0_0 : d66 [1, 1, 0, 1, 0, 0] (thenD k1 (blk 0 (thenD (d66 [1, 1, 1] (q66 K E)) (q66 K E)))) (m66_1_1_0_1_0_0 x0 x1 x2 x4 x6 x7 x22 v3 v8 j) =
  pv (binV .none .lss v8 x7) fun t1 =>
  cnd t1 (
   pv (iaV none 2 x6 v8) fun t2 =>
   ld true 2 t2 fun t3 =>
   nw 48 [(.slice none 0 0), (.int .i64 0)] fun t4 =>
   st 2 t4 t3 fun _ =>
   pv (faV 0 t4) fun t5 =>
   ld false 1 t5 fun t6 =>
   pv (faV 1 t4) fun t7 =>
   ld false 1 t7 fun t8 =>
   callv Tryz.prog (.func (.func 30) #[] #[]) #[t6] (fun t9 h10 => (ldV h10 false 1 t7 t8) ∧ (
    pv (bdC #[(.slice none 0 0), (.int .i64 0)] [(0, 1), (1, 1)] #[(0, t9), (1, t8)]) fun t11 =>
    nws 48 1 (bsC #[(.slice none 0 0), (.int .i64 0)] 2 1 #[(0, t11)]) fun t12 =>
    appX 48 2 32 v3 t12 fun t13 =>
    pv (binV .none .add v8 (.int .i64 1)) fun t14 =>
    k1 (m66_1_1_0_1_0_0 x0 x1 x2 x4 x6 x7 x22 t13 t14 (jf #[U, U, U, U, U, t4, U, U, U, t1, t2, t3, v3, t5, t6, t9, t7, t8, t11, t12, t13, t14]))) h10) E) (
   K v3) := by kernel_rfl
abbrev q93 : QD := bodyQ Tryz.prog Tryz.f93.results.toList K E
abbrev d93 (p : List Nat) : QD → Env → Hp → Prop := den Tryz.prog (sel (bodyOf Tryz.f93) p)
theorem t93 : d93 [] (q93 K E) #[x0, U, U, U, U, U] =
  pv (binV .none .neq x0 x0) fun t1 =>
  K t1 := by kernel_rfl
abbrev q94 : QD := bodyQ Tryz.prog Tryz.f94.results.toList K E
abbrev d94 (p : List Nat) : QD → Env → Hp → Prop := den Tryz.prog (sel (bodyOf Tryz.f94) p)
def m94_1_0_1_0_0 (j : Nat → Value) : Env := #[x0, x1, x2, x3, (j 4), (j 5), x6, x7, v8, (j 9), (j 10), (j 11), (j 12), (j 13), (j 14), (j 15), (j 16), (j 17), (j 18)]
theorem t94 : d94 [] (q94 K E) #[x0, x1, U, U, U, U, U, U, U, U, U, U, U, U, U, U, U, U, U] =
  pv (lenV x0) fun t1 =>
  lp (fun k1 => d94 [1, 0, 1, 0, 0] (thenD k1 (blk 0 (thenD (d94 [1, 1] (q94 K E)) (q94 K E))))) (m94_1_0_1_0_0 x0 x1 U U x0 t1 (.int .i64 0) (jf #[U, U, U, U, (.int .i64 0)])) := by kernel_rfl
theorem t94_1_0_1_0_0 : d94 [1, 0, 1, 0, 0] (thenD k1 (blk 0 (thenD (d94 [1, 1] (q94 K E)) (q94 K E)))) (m94_1_0_1_0_0 x0 x1 x2 x3 x6 x7 v8 j) =
  pv (binV .none .lss v8 x7) fun t1 =>
  cnd t1 (
   pv (iaV none 2 x0 v8) fun t2 =>
   ld true 2 t2 fun t3 =>
   callv Tryz.prog x1 #[t3] (fun t4 =>
   cnd t4 (
    K v8) (
    pv (binV .none .add v8 (.int .i64 1)) fun t5 =>
    k1 (m94_1_0_1_0_0 x0 x1 x2 x3 x6 x7 t5 (jf #[U, U, U, U, (j 4), v8, U, U, U, t1, v8, x1, x0, v8, t2, t3, t4, (j 17), t5])))) E) (
   K (.int .i64 (-1))) := by kernel_rfl
abbrev q96 : QD := bodyQ Tryz.prog Tryz.f96.results.toList K E
abbrev d96 (p : List Nat) : QD → Env → Hp → Prop := den Tryz.prog (sel (bodyOf Tryz.f96) p)
theorem t96 : d96 [] (q96 K E) #[x0, x1, U, U, U, U, U, U, U, U, U, U, U] =
  nw 74 (Value.cells x0).toList fun t1 =>
  pv (binV .none .geq x1 (.int .i64 0)) fun t2 =>
  gdK t2 true (fun k => k x1) fun t3 =>
  gdK t2 true (fun k => pv (faV 0 t1) k) fun t4 =>
  gdK t2 true (fun k => ld false 1 t4 k) fun t5 =>
  gdK t2 true (fun k => pv (binV .none .lss t3 t5) k) fun t6 =>
  pv (pickV t2 t6 (.bool false)) fun t7 =>
  K t7 := by kernel_rfl
end
section
variable {K : Kont} {E : PanK} {k1 k2 k3 k4 k5 : Env → Hp → Prop} {σ : Type} {x0 x1 x2 x3 x4 x5 x6 x7 x8 x9 x10 x11 x12 x13 x14 x15 x16 x17 x18 x19 x20 x21 x22 x23 x24 x25 x26 x27 x28 x29 x30 x31 x32 x33 x34 x35 x36 x37 x38 x39 x40 x41 x42 x43 x44 x45 x46 x47 x48 v0 v1 v2 v3 v4 v5 v6 v7 v8 v9 v10 v11 v12 v13 v14 v15 v16 v17 v18 v19 v20 v21 v22 v23 v24 v25 v26 v27 v28 v29 v30 v31 v32 v33 v34 v35 v36 v37 v38 v39 v40 v41 v42 v43 v44 v45 v46 v47 v48 : Value} {h : Hp} {j : Nat → Value}
theorem l13_1_1_1_0_1_0_0 (f13 : σ → Value) (I : σ → Hp → Prop) (μ : σ → Nat) (s0 : σ) (e13 : v13 = f13 s0) (h0 : h.wf → ∃ h', h.wk h' ∧ I s0 h')
 (round : ∀ (k1 : Env → Hp → Prop) (s : σ) (j : Nat → Value) (h : Hp), I s h → h.wf → (∀ s' j' h', μ s' < μ s → (h'.wf → ∃ h'', h'.wk h'' ∧ I s' h'') → k1 (m13_1_1_1_0_1_0_0 x0 x1 x2 x3 x4 x6 x7 x8 x9 x10 x11 x12 x33 (f13 s') j') h') → d13 [1, 1, 1, 0, 1, 0, 0] (thenD k1 (blk 0 (thenD (d13 [1, 1, 1, 1] (q13 K E)) (q13 K E)))) (m13_1_1_1_0_1_0_0 x0 x1 x2 x3 x4 x6 x7 x8 x9 x10 x11 x12 x33 (f13 s) j) h) :
 lp (fun k1 => d13 [1, 1, 1, 0, 1, 0, 0] (thenD k1 (blk 0 (thenD (d13 [1, 1, 1, 1] (q13 K E)) (q13 K E))))) (m13_1_1_1_0_1_0_0 x0 x1 x2 x3 x4 x6 x7 x8 x9 x10 x11 x12 x33 v13 j) h := by
 subst e13
 exact loop_r (fun s j => m13_1_1_1_0_1_0_0 x0 x1 x2 x3 x4 x6 x7 x8 x9 x10 x11 x12 x33 (f13 s) j) I μ round s0 j h0
theorem l59_1_1_1_0_0_0 (f9 f10 : σ → Value) (I : σ → Hp → Prop) (μ : σ → Nat) (s0 : σ) (e9 : v9 = f9 s0) (e10 : v10 = f10 s0) (h0 : h.wf → ∃ h', h.wk h' ∧ I s0 h')
 (round : ∀ (k1 : Env → Hp → Prop) (s : σ) (j : Nat → Value) (h : Hp), I s h → h.wf → (∀ s' j' h', μ s' < μ s → (h'.wf → ∃ h'', h'.wk h'' ∧ I s' h'') → k1 (m59_1_1_1_0_0_0 x0 x1 x2 x3 x4 x5 x6 x7 x8 x12 x13 x14 x35 x36 x37 x38 x39 x40 x41 x42 x43 x44 x45 x46 x47 x48 (f9 s') (f10 s') j') h') → d59 [1, 1, 1, 0, 0, 0] (thenD k1 (blk 0 (thenD (d59 [1, 1, 1, 1] (q59 K E)) (q59 K E)))) (m59_1_1_1_0_0_0 x0 x1 x2 x3 x4 x5 x6 x7 x8 x12 x13 x14 x35 x36 x37 x38 x39 x40 x41 x42 x43 x44 x45 x46 x47 x48 (f9 s) (f10 s) j) h) :
 lp (fun k1 => d59 [1, 1, 1, 0, 0, 0] (thenD k1 (blk 0 (thenD (d59 [1, 1, 1, 1] (q59 K E)) (q59 K E))))) (m59_1_1_1_0_0_0 x0 x1 x2 x3 x4 x5 x6 x7 x8 x12 x13 x14 x35 x36 x37 x38 x39 x40 x41 x42 x43 x44 x45 x46 x47 x48 v9 v10 j) h := by
 subst e9
 subst e10
 exact loop_r (fun s j => m59_1_1_1_0_0_0 x0 x1 x2 x3 x4 x5 x6 x7 x8 x12 x13 x14 x35 x36 x37 x38 x39 x40 x41 x42 x43 x44 x45 x46 x47 x48 (f9 s) (f10 s) j) I μ round s0 j h0
theorem l66_1_1_0_1_0_0 (f3 f8 : σ → Value) (I : σ → Hp → Prop) (μ : σ → Nat) (s0 : σ) (e3 : v3 = f3 s0) (e8 : v8 = f8 s0) (h0 : h.wf → ∃ h', h.wk h' ∧ I s0 h')
 (round : ∀ (k1 : Env → Hp → Prop) (s : σ) (j : Nat → Value) (h : Hp), I s h → h.wf → (∀ s' j' h', μ s' < μ s → (h'.wf → ∃ h'', h'.wk h'' ∧ I s' h'') → k1 (m66_1_1_0_1_0_0 x0 x1 x2 x4 x6 x7 x22 (f3 s') (f8 s') j') h') → d66 [1, 1, 0, 1, 0, 0] (thenD k1 (blk 0 (thenD (d66 [1, 1, 1] (q66 K E)) (q66 K E)))) (m66_1_1_0_1_0_0 x0 x1 x2 x4 x6 x7 x22 (f3 s) (f8 s) j) h) :
 lp (fun k1 => d66 [1, 1, 0, 1, 0, 0] (thenD k1 (blk 0 (thenD (d66 [1, 1, 1] (q66 K E)) (q66 K E))))) (m66_1_1_0_1_0_0 x0 x1 x2 x4 x6 x7 x22 v3 v8 j) h := by
 subst e3
 subst e8
 exact loop_r (fun s j => m66_1_1_0_1_0_0 x0 x1 x2 x4 x6 x7 x22 (f3 s) (f8 s) j) I μ round s0 j h0
theorem l94_1_0_1_0_0 (f8 : σ → Value) (I : σ → Hp → Prop) (μ : σ → Nat) (s0 : σ) (e8 : v8 = f8 s0) (h0 : h.wf → ∃ h', h.wk h' ∧ I s0 h')
 (round : ∀ (k1 : Env → Hp → Prop) (s : σ) (j : Nat → Value) (h : Hp), I s h → h.wf → (∀ s' j' h', μ s' < μ s → (h'.wf → ∃ h'', h'.wk h'' ∧ I s' h'') → k1 (m94_1_0_1_0_0 x0 x1 x2 x3 x6 x7 (f8 s') j') h') → d94 [1, 0, 1, 0, 0] (thenD k1 (blk 0 (thenD (d94 [1, 1] (q94 K E)) (q94 K E)))) (m94_1_0_1_0_0 x0 x1 x2 x3 x6 x7 (f8 s) j) h) :
 lp (fun k1 => d94 [1, 0, 1, 0, 0] (thenD k1 (blk 0 (thenD (d94 [1, 1] (q94 K E)) (q94 K E))))) (m94_1_0_1_0_0 x0 x1 x2 x3 x6 x7 v8 j) h := by
 subst e8
 exact loop_r (fun s j => m94_1_0_1_0_0 x0 x1 x2 x3 x6 x7 (f8 s) j) I μ round s0 j h0
end
end Go.Proofs.YtgjdjdjhoipfmaaGreatDoor.T
open Go Go.RowKit Go.Proofs.YtgjdjdjhoipfmaaGreatDoor.K Go.Proofs.YtgjdjdjhoipfmaaGreatDoor.T
set_option linter.unusedVariables false
set_option linter.unusedSimpArgs false
namespace Go.Proofs.YtgjdjdjhoipfmaaGreatDoor.A
variable {F F' : Nat → Option (List Value)} {M M' : Nat → Option Chunk} {N N' : Nat} {K : Kont} {E : PanK}
abbrev En := Int × List Fc
def entD (F : Nat → Option (List Value)) (cs : List Value) (e : En) : Prop := ∃ v, cs = [.int .u32 e.1, v] ∧ fctsD F v e.2 ∧ e.2.length ≤ 140737488351232
theorem entD.mono {cs : List Value} {e : En} (h : entD F cs e) (hF : subF F F') : entD F' cs e := let ⟨v, h1, h2, h3⟩ := h; ⟨v, h1, h2.mono hF, h3⟩
theorem fctsD.form {v : Value} {t : List Fc} (h : fctsD F v t) : ∃ a c, v = .slice a t.length c := let ⟨rows, h1, _⟩ := h; let ⟨a, c, h2, _⟩ := h1.form; ⟨a, c, h2⟩
theorem entD.one {cs : List Value} {e : En} (h : entD F cs e) : cs.length = 2 ∧ ∀ c ∈ cs, c.oneCell' = true := by
  obtain ⟨v, rfl, hv, _⟩ := h
  obtain ⟨a, c, rfl⟩ := hv.form
  exact ⟨rfl, List.all_eq_true.1 rfl⟩
def risen (h : List En) : Prop := h.Pairwise fun a b => a.1 < b.1
def place : List En → Int → Nat
  | [], _ => 0
  | e :: h, t => if e.1 < t then place h t + 1 else 0
theorem place_le : ∀ (h : List En) (t : Int), place h t ≤ h.length
  | [], _ => Nat.le_refl _
  | e :: h, t => by unfold place; split; simp; exact place_le h t; simp
theorem place_lt : ∀ {h : List En} {t : Int} {i : Nat} (hi : i < h.length), i < place h t → h[i].1 < t
  | e :: h, t, i, hi, hp => by
    unfold place at hp
    split at hp
    · cases i with
      | zero => assumption
      | succ i => exact place_lt (h := h) (by simpa using hi) (by omega)
    · omega
theorem place_ge : ∀ {h : List En} {t : Int} (hs : risen h) {i : Nat} (hi : i < h.length), place h t ≤ i → t ≤ h[i].1
  | e :: h, t, hs, i, hi, hp => by
    obtain ⟨h1, h2⟩ := List.pairwise_cons.1 hs
    unfold place at hp
    split at hp
    · cases i with
      | zero => omega
      | succ i => exact place_ge h2 (by simpa using hi) (by omega)
    · rename_i hn
      cases i with
      | zero => simp; omega
      | succ i =>
        have := h1 (h[i]'(by simpa using hi)) (List.getElem_mem _)
        simp only [List.getElem_cons_succ]; omega
def there (h : List En) (t : Int) : Bool := match h[place h t]? with
  | some e => decide (e.1 = t)
  | none => false
theorem nanT_c {a : Int} (k : (Hp.mk F M N).wf → K (.bool false) ⟨F, M, N⟩) : callv Tryz.prog (.func (.func 93) #[] #[]) #[.int .u32 a] K E ⟨F, M, N⟩ := by
  refine callv_of_text mixed Tryz.func93 (by kernel_rfl) (t93 _ E _) (fun hw => ?_)
  refine neq_r (fun h => absurd rfl h) (fun _ => ?_)
  exact fun hc => ⟨_, wk_refl hc, fun hw' => k hw'⟩
def cmpT (a b : Int) : Int := if a < b then -1 else if a > b then 1 else 0
set_option maxRecDepth 10000 in
theorem cmpT_c {a b : Int} (k : (Hp.mk F M N).wf → K (.int .i64 (cmpT a b)) ⟨F, M, N⟩) : callv Tryz.prog (.func (.func 61) #[] #[]) #[.int .u32 a, .int .u32 b] K E ⟨F, M, N⟩ := by
  refine callv_of_text mixed Tryz.func61 (by kernel_rfl) (t61 _ E _ _) (fun hw => ?_)
  refine nanT_c (fun _ => nanT_c (fun _ => ?_))
  unfold cmpT at k
  try simp only [sS]
  refine lss_r (fun h => ?_) (fun h => ?_)
  · try simp only [sS]
    rw [if_pos h] at k
    exact fun hc => ⟨_, wk_refl hc, fun hw' => k hw'⟩
  rw [if_neg h] at k
  try simp only [sS]
  refine gtr_r (fun h2 => ?_) (fun h2 => ?_)
  · try simp only [sS]
    rw [if_pos h2] at k
    exact fun hc => ⟨_, wk_refl hc, fun hw' => k hw'⟩
  rw [if_neg h2] at k
  try simp only [sS]
  exact fun hc => ⟨_, wk_refl hc, fun hw' => k hw'⟩
theorem find1_c {cs : List Value} {e : En} {t : Int} (he : entD F cs e) (k : ∀ N', N ≤ N' → (Hp.mk F M N').wf → K (.int .i64 (cmpT e.1 t)) ⟨F, M, N'⟩) : callv Tryz.prog (.func (.func 60) #[] #[]) #[.agg cs.toArray, .int .u32 t] K E ⟨F, M, N⟩ := by
  refine callv_of_text mixed Tryz.func60 (by kernel_rfl) (t60 _ E _ _) (fun hw => ?_)
  have hm := hw.m
  obtain ⟨v, rfl, hv, hvl⟩ := he
  refine nw_r (cs := [.int .u32 e.1, v]) (fun b hb => ?_)
  try simp only [sS]
  refine ldM (v := .int .u32 e.1) ?_
  refine cmpT_c (fun hw1 => ?_)
  exact fun hc => ⟨⟨F, M, b + 1⟩, wk_end hc, fun hw' => k _ (by omega) hw'⟩
theorem orow_r {α : Type} {R : List Value → α → Prop} {B sz : Nat} {e : TypeId} {v : Value} {l : List α} {rows : List (List Value)} {K : Value → Kont} (hv : own M B e sz v l.length rows.flatten) (hr : rowsF R sz rows l) (hz : 0 < sz) {i : Nat} (hi : i < l.length)
    (k : ∀ p r, rows[i]? = some r → R r l[i] → r.length = sz → (∀ x ∈ r, x.oneCell' = true) → K p (.agg r.toArray) ⟨F, M, N⟩) : pv (iaV none sz v (.int .i64 (i : Nat))) (fun p => ld true sz p (K p)) ⟨F, M, N⟩ := by
  rcases hv.2 with ⟨rfl, h0⟩ | ⟨b, c, rest, rfl, h1, h2, h3, h4⟩
  · omega
  obtain ⟨r, hri, hR, _⟩ := hr.get (List.getElem?_eq_getElem hi)
  have hil := (List.getElem?_eq_some_iff.1 hri).1
  have hrm : r ∈ rows := List.mem_of_getElem? hri
  have hlen := hr.len r hrm
  have hfl := hr.flen
  have hle : i * sz + sz ≤ l.length * sz := by rw [← Nat.succ_mul]; exact Nat.mul_le_mul_right _ hi
  have hd : (rows.flatten.drop (i * sz)).take sz = r := by
    rw [flatten_drop rows i hr.len, List.drop_eq_getElem_cons hil, List.flatten_cons]
    rw [(List.getElem?_eq_some_iff.1 hri).2, ← hlen, List.take_left]
  refine iaN_r hi (ld_r (ldV_a (row_M h4) (by rw [List.length_append]; omega) ?_) (k _ r hri hR hlen (hr.one r hrm)))
  rw [Nat.zero_add, List.drop_append_of_le_length (by omega), List.take_append_of_le_length (by rw [List.length_drop]; omega), hd]
end Go.Proofs.YtgjdjdjhoipfmaaGreatDoor.A
open Go Go.RowKit Go.Proofs.YtgjdjdjhoipfmaaGreatDoor.K Go.Proofs.YtgjdjdjhoipfmaaGreatDoor.T
set_option linter.unusedVariables false
set_option linter.unusedSimpArgs false
namespace Go.Proofs.YtgjdjdjhoipfmaaGreatDoor.A
variable {F F' : Nat → Option (List Value)} {M M' : Nat → Option Chunk} {N N' : Nat} {K : Kont} {E : PanK}
theorem cv_u64 {k : IntKind} {a : Nat} {h : Hp} (h1 : a ≤ 9223372036854775807) (kk : K (.int .u64 (a : Nat)) h) : pv (cvV .u64 (.int k (a : Nat))) K h :=
  ⟨_, rfl, by rw [u64w (by omega) (by omega)]; exact kk⟩
theorem half_r {a : Nat} {h : Hp} (h1 : a ≤ 9223372036854775807) (kk : K (.int .u64 ((a / 2 : Nat) : Int)) h) : pv (binV .none .shr (.int .u64 (a : Nat)) (.int .u64 1)) K h := by
  have e : binV .none .shr (.int .u64 (a : Nat)) (.int .u64 1) = some (.int .u64 ((a : Int).fdiv 2)) := by kernel_rfl
  refine ⟨_, e, ?_⟩
  rw [Int.fdiv_eq_ediv_of_nonneg _ (by omega)]
  exact kk
theorem cmpT_lt {a b : Int} : cmpT a b < 0 ↔ a < b := by unfold cmpT; split <;> (try split) <;> omega
theorem cmpT_eq {a b : Int} : cmpT a b = 0 ↔ a = b := by unfold cmpT; split <;> (try split) <;> omega
theorem there_in {h : List En} {t : Int} (hi : place h t < h.length) : there h t = decide (h[place h t].1 = t) := by
  unfold there; rw [List.getElem?_eq_getElem hi]
theorem there_out {h : List En} {t : Int} (hi : ¬ place h t < h.length) : there h t = false := by
  unfold there; rw [List.getElem?_eq_none (by omega)]
theorem find_c {B : Nat} {v : Value} {rows : List (List Value)} {h : List En} {t : Int} (hv : own M B 52 2 v h.length rows.flatten) (hr : rowsF (entD F) 2 rows h) (hs : risen h) (hl : h.length ≤ 100000000000)
    (k : ∀ N', N ≤ N' → (Hp.mk F M N').wf → K (.tuple #[.int .i64 (place h t : Nat), .bool (there h t)]) ⟨F, M, N'⟩) : callv Tryz.prog (.func (.func 33) #[] #[]) #[v, .int .u32 t] K E ⟨F, M, N⟩ := by
  refine callv_of_text mixed Tryz.func33 (by kernel_rfl) (t33 _ E _ _) (fun hw => ?_)
  refine callv_of_text mixed Tryz.func59 (by kernel_rfl) (t59 _ E _ _ _) (fun hw => ?_)
  have hlv : lenV v = some (.int .i64 (h.length : Nat)) := by obtain ⟨a, c, rfl, _⟩ := hv.form; rfl
  have hpl := place_le h t
  refine pv_r hlv ?_
  refine l59_1_1_1_0_0_0 (σ := Nat × Nat) (fun s => .int .i64 (s.1 : Nat)) (fun s => .int .i64 (s.2 : Nat)) (fun s h' => ∃ N', h' = ⟨F, M, N'⟩ ∧ N ≤ N' ∧ s.1 ≤ place h t ∧ place h t ≤ s.2 ∧ s.2 ≤ h.length) (fun s => s.2 - s.1) (0, h.length) rfl rfl
    (fun hw1 => ⟨_, wk_refl hw1, N, rfl, Nat.le_refl _, Nat.zero_le _, hpl, Nat.le_refl _⟩) (fun k1 s j h1 hI hw1 next => ?_)
  rw [t59_1_1_1_0_0_0]
  obtain ⟨N1, rfl, hN1, a1, a2, a3⟩ := hI
  refine lss_r (fun hlt => ?_) (fun hge => ?_)
  · try simp only [sS]
    refine add_n (by omega) (cv_u64 (by omega) (half_r (by omega) (cv_i64 (by omega) ?_)))
    have hm : (s.1 + s.2) / 2 < h.length := by omega
    refine orow_r hv hr (by decide) hm fun p r _ hR _ _ => ?_
    refine find1_c hR (fun N2 hN2 hw2 => ?_)
    refine lss_r (fun hc => ?_) (fun hc => ?_)
    · rw [cmpT_lt] at hc
      have : ¬ place h t ≤ (s.1 + s.2) / 2 := fun e => by have := place_ge hs hm e; omega
      try simp only [sS]
      refine inc_r (by omega) ?_
      exact next ((s.1 + s.2) / 2 + 1, s.2) _ _ (by simp only; omega) (fun hw3 => ⟨_, wk_refl hw3, N2, rfl, by omega, by simp only; omega, by simp only; omega, by simp only; omega⟩)
    · rw [cmpT_lt] at hc
      have : ¬ (s.1 + s.2) / 2 < place h t := fun e => hc (place_lt hm e)
      try simp only [sS]
      exact next (s.1, (s.1 + s.2) / 2) _ _ (by simp only; omega) (fun hw3 => ⟨_, wk_refl hw3, N2, rfl, by omega, by simp only; omega, by simp only; omega, by simp only; omega⟩)
  · try simp only [sS]
    have e : s.1 = place h t := by omega
    rw [e]
    refine lss_r (fun hc => ?_) (fun hc => ?_)
    · have hp : place h t < h.length := by omega
      try simp only [sS]
      refine orow_r hv hr (by decide) hp fun p r _ hR _ _ => ?_
      refine find1_c hR (fun N2 hN2 hw2 => ?_)
      rw [there_in hp] at k
      refine eql_r (fun hz => ?_) (fun hz => ?_)
      · rw [cmpT_eq] at hz
        rw [decide_eq_true hz] at k
        try simp only [sS]
        exact fun hc => ⟨_, wk_refl hc, fun hw3 => by
          try simp only [sS]
          exact fun hc => ⟨_, wk_refl hc, fun hw' => k _ (by omega) hw'⟩⟩
      · rw [cmpT_eq] at hz
        rw [decide_eq_false hz] at k
        try simp only [sS]
        exact fun hc => ⟨_, wk_refl hc, fun hw3 => by
          try simp only [sS]
          exact fun hc => ⟨_, wk_refl hc, fun hw' => k _ (by omega) hw'⟩⟩
    · rw [there_out (by omega)] at k
      try simp only [sS]
      exact fun hc => ⟨_, wk_refl hc, fun hw3 => by
        try simp only [sS]
        exact fun hc => ⟨_, wk_refl hc, fun hw' => k _ (by omega) hw'⟩⟩
end Go.Proofs.YtgjdjdjhoipfmaaGreatDoor.A
open Go Go.RowKit Go.Proofs.YtgjdjdjhoipfmaaGreatDoor.K Go.Proofs.YtgjdjdjhoipfmaaGreatDoor.T
set_option linter.unusedVariables false
set_option linter.unusedSimpArgs false
namespace Go.Proofs.YtgjdjdjhoipfmaaGreatDoor.A
variable {F F' : Nat → Option (List Value)} {M M' : Nat → Option Chunk} {N N' : Nat} {K : Kont} {E : PanK}
set_option maxRecDepth 10000 in
theorem cclone_g {v : Value} {l : List Fc} (hv : fctsD F v l) (hl : l.length ≤ 1000000000) (hk : ∀ f ∈ l, f.1.length ≤ 10000000000)
    (k : clean M N → ∀ v' F' M' N' rows, subF F F' → N ≤ N' → own M' N 48 2 v' l.length rows.flatten → rowsF (fctD F') 2 rows l → (∀ q, q < N → M' q = M q) → clean M' N' → (Hp.mk F' M' N').wf → ∃ h', (Hp.mk F' M' N').wk h' ∧ (h'.wf → K v' h')) :
    callv Tryz.prog (.func (.func 66) #[] #[]) #[v] K E ⟨F, M, N⟩ := by
  refine callv_of_text mixed Tryz.func66 (by kernel_rfl) (t66 _ E _) (fun hw => ?_)
  have hm : clean M N := hw.m
  obtain ⟨trs, hvs, hrs⟩ := hv
  refine lenF_r hvs ?_
  refine l66_1_1_0_1_0_0 (σ := Nat × Value) (fun s => s.2) (fun s => .int .i64 (s.1 : Nat))
    (fun s h => ∃ F' M' N' rows, h = ⟨F', M', N'⟩ ∧ subF F F' ∧ N ≤ N' ∧ (∀ q, q < N → M' q = M q) ∧ clean M' N' ∧ s.1 ≤ l.length ∧ own M' N 48 2 s.2 s.1 rows.flatten ∧ rowsF (fctD F') 2 rows (l.take s.1)) (fun s => l.length - s.1) (0, .slice none 0 0) rfl rfl
    (fun hw1 => ⟨_, wk_refl hw1, F, M, N, [], rfl, subF.refl _, Nat.le_refl _, fun _ _ => rfl, hm, Nat.zero_le _, own.nil, rowsF.nil _ _⟩) (fun k1 s j h1 hI hw1 next => ?_)
  rw [t66_1_1_0_1_0_0]
  obtain ⟨F1, M1, N1, rows, rfl, hF1, hN1, hM1, hm1, hi', ho, hr⟩ := hI
  refine lss_r (fun hlt => ?_) (fun hge => ?_)
  · have h1 : s.1 < l.length := by omega
    try simp only [sS]
    refine row_r (hvs.mono hF1) (hrs.mono fun _ _ h => h.mono hF1) (by decide) h1 (fun p r _ hR hrl hr1 => ?_)
    obtain ⟨kv, hre, hkv, hkl⟩ := hR
    subst hre
    refine nw_r (fun b1 hb1 => ?_)
    refine stM (cs' := [kv, .int .i64 l[s.1].2]) ?_ (upd_same _ _ _) rfl rfl hr1
    rw [upd_upd]
    have hb2 := upd_same M1 b1 (some (.cells 48 [kv, .int .i64 l[s.1].2] [Value.slice none 0 0, Value.int .i64 0].length))
    have hM2 : ∀ q, q < N → upd M1 b1 (some (.cells 48 [kv, .int .i64 l[s.1].2] [Value.slice none 0 0, Value.int .i64 0].length)) q = M q := fun q hq => (upd_ne _ _ (by omega)).trans (hM1 q hq)
    have ho2 := ho.box hm1 hb1 (some (.cells 48 [kv, .int .i64 l[s.1].2] [Value.slice none 0 0, Value.int .i64 0].length))
    have hm2 := hm1.new hb1 (some (.cells 48 [kv, .int .i64 l[s.1].2] [Value.slice none 0 0, Value.int .i64 0].length))
    generalize upd M1 b1 _ = M2 at *
    try simp only [sS]
    refine ldM (v := kv) ?_ hb2
    try simp only [sS]
    refine ldM (v := .int .i64 l[s.1].2) ?_ hb2
    refine clone_f hm2 hkv.sR (by have := hk _ (List.getElem_mem h1); omega) (fun kv' F3 N3 hw3 hF3 hN3 hkv' => ?_)
    refine ⟨ldV_c (row_M hb2) rfl, ?_⟩
    have h1f : fctD F3 [kv', .int .i64 l[s.1].2] l[s.1] := ⟨kv', rfl, hkv', hkl⟩
    obtain ⟨ak, ck, hkf, hck⟩ := hkv'.form
    refine pv_r (v := .agg #[kv', .int .i64 l[s.1].2]) (by rw [hkf]; kernel_rfl) ?_
    refine push_r (new := [kv', .int .i64 l[s.1].2]) ho2 hw3.m (by omega) (by rw [hkf]; kernel_rfl) rfl h1f.one.2 (by omega) (by unfold maxLen; omega) (fun p v' M4 N4 h4 h5 h6 h7 => ?_)
    refine inc_r (by omega) ?_
    refine next (s.1 + 1, v') _ _ (by simp only; omega) (fun hw5 => ⟨_, wk_refl hw5, F3, M4, N4, rows ++ [[kv', .int .i64 l[s.1].2]], rfl, hF1.trans hF3, by omega, fun q hq => ?_, h7, h1, ?_, ?_⟩)
    · exact ((h5 q (fun e => by have := (ho2.ge q e).1; omega) (by omega)).1).trans (hM2 q hq)
    · simpa using h4
    · simp only
      rw [List.take_add_one, List.getElem?_eq_getElem h1, Option.toList_some]
      exact rowsF_snoc1 (hr.mono fun _ _ h => h.mono hF3) h1f.one h1f
  · try simp only [sS]
    rw [show s.1 = l.length by omega] at ho
    rw [List.take_of_length_le (by omega)] at hr
    exact fun hc => k hm s.2 F1 M1 N1 rows hF1 hN1 ho hr hM1 hm1 hc
theorem fcts_frzA {v : Value} {t : List Fc} {rows : List (List Value)} (hc : (Hp.mk F M' N').wf) (ho : own M' N 48 2 v t.length rows.flatten) (hr : rowsF (fctD F) 2 rows t) : fctsD (frzAll F M' N) v t :=
  ⟨rows, ho.rd.frz hc (fun b hb => .inl (ho.ge b hb).1), hr.mono fun _ _ h => h.mono (subF_frzAll hc)⟩
theorem cclone_c {v : Value} {l : List Fc} (hv : fctsD F v l) (hl : l.length ≤ 1000000000) (hk : ∀ f ∈ l, f.1.length ≤ 10000000000)
    (k : ∀ v' F' N', (Hp.mk F' M N').wf → subF F F' → N ≤ N' → fctsD F' v' l → K v' ⟨F', M, N'⟩) :
    callv Tryz.prog (.func (.func 66) #[] #[]) #[v] K E ⟨F, M, N⟩ :=
  cclone_g hv hl hk (fun hm v' F' M' N' rows hF hN ho hr hM _ hc => ⟨_, frz_wf hm hM hc, fun hw' => k _ _ _ hw' (hF.trans (subF_frzAll hc)) hN (fcts_frzA hc ho hr)⟩)
theorem cclone_o {v : Value} {l : List Fc} (hv : fctsD F v l) (hl : l.length ≤ 1000000000) (hk : ∀ f ∈ l, f.1.length ≤ 10000000000)
    (k : ∀ v' F' M' N' rows, subF F F' → N ≤ N' → own M' N 48 2 v' l.length rows.flatten → rowsF (fctD F') 2 rows l → (∀ q, q < N → M' q = M q) → clean M' N' → (Hp.mk F' M' N').wf → K v' ⟨F', M', N'⟩) :
    callv Tryz.prog (.func (.func 66) #[] #[]) #[v] K E ⟨F, M, N⟩ :=
  cclone_g hv hl hk (fun _ v' F' M' N' rows hF hN ho hr hM hm' hc => ⟨_, wk_refl hc, fun hw' => k v' F' M' N' rows hF hN ho hr hM hm' hw'⟩)
end Go.Proofs.YtgjdjdjhoipfmaaGreatDoor.A
open Go Go.RowKit Go.Proofs.YtgjdjdjhoipfmaaGreatDoor.K
set_option linter.unusedVariables false
set_option maxRecDepth 100000
namespace Go.Proofs.YtgjdjdjhoipfmaaGreatDoor.T
section
variable (K : Kont) (E : PanK) (k1 k2 k3 k4 k5 : Env → Hp → Prop) (x0 x1 x2 x3 x4 x5 x6 x7 x8 x9 x10 x11 x12 x13 x14 x15 x16 x17 x18 x19 x20 x21 x22 x23 x24 x25 x26 x27 x28 x29 x30 x31 x32 x33 x34 x35 x36 x37 x38 x39 x40 x41 x42 x43 x44 x45 x46 x47 x48 x49 x50 x51 x52 x53 x54 x55 x56 x57 x58 x59 x60 x61 x62 x63 x64 x65 x66 x67 x68 x69 x70 x71 x72 x73 x74 x75 x76 x77 x78 x79 x80 x81 x82 x83 x84 x85 x86 x87 x88 x89 x90 x91 x92 x93 x94 v0 v1 v2 v3 v4 v5 v6 v7 v8 v9 v10 v11 v12 v13 v14 v15 v16 v17 v18 v19 v20 v21 v22 v23 v24 v25 v26 v27 v28 v29 v30 v31 v32 v33 v34 v35 v36 v37 v38 v39 v40 v41 v42 v43 v44 v45 v46 v47 v48 v49 v50 v51 v52 v53 v54 v55 v56 v57 v58 v59 v60 v61 v62 v63 v64 v65 v66 v67 v68 v69 v70 v71 v72 v73 v74 v75 v76 v77 v78 v79 v80 v81 v82 v83 v84 v85 v86 v87 v88 v89 v90 v91 v92 v93 v94 : Value) (j : Nat → Value)
abbrev q67 : QD := bodyQ Tryz.prog Tryz.f67.results.toList K E
abbrev d67 (p : List Nat) : QD → Env → Hp → Prop := den Tryz.prog (sel (bodyOf Tryz.f67) p)
theorem t67 : d67 [] (q67 K E) #[x0, x1, x2, U, U, U, U, U, U, U, U, U, U, U, U, U, U, U, U, U, U, U, U, U, U, U, U, U, U, U, U, U, U, U, U, U, U, U, U, U, U, U, U, U, U, U, U, U, U, U, U, U, U, U, U, U, U, U, U, U, U, U, U, U, U, U, U, U, U, U, U, U, U, U, U, U, U, U, U, U, U, U, U, U, U, U, U, U, U, U, U, U, U, U, U] =
  pv (slV 2 x0 (some x1) none none) fun t1 =>
  pv (lenV x2) fun t2 =>
  pv (binV .none .eql t2 (.int .i64 0)) fun t3 =>
  cnd t3 (
   K x0) (
   pv (lenV x0) fun t4 =>
   pv (binV .none .eql x1 t4) fun t5 =>
   cnd t5 (
    appX 52 2 32 x0 x2 fun t6 =>
    K t6) (
    pv (binV .none .add t4 t2) fun t7 =>
    pv (capV x0) fun t8 =>
    pv (binV .none .gtr t7 t8) fun t9 =>
    cnd t9 (
     pv (slV 2 x0 none (some x1) none) fun t10 =>
     pv (binV .none .add t4 t2) fun t11 =>
     pv (binV .none .sub t11 x1) fun t12 =>
     appZ 52 [(.int .u32 0), (.slice none 0 0)] 2 32 t10 t12 fun t13 =>
     pv (slV 2 t13 (some x1) none none) fun t14 =>
     cpy 2 t14 x2 fun t15 =>
     pv (binV .none .add x1 t2) fun t16 =>
     pv (slV 2 t13 (some t16) none none) fun t17 =>
     pv (slV 2 x0 (some x1) none none) fun t18 =>
     cpy 2 t17 t18 fun t19 =>
     K t13) (
     pv (binV .none .add t4 t2) fun t20 =>
     pv (slV 2 x0 none (some t20) none) fun t21 =>
     pv (binV .none .add x1 t2) fun t22 =>
     pv (slV 2 t21 (some t22) none none) fun t23 =>
     callv Tryz.prog (.func (.func 98) #[] #[]) #[x2, t23] (fun t24 =>
     pv (unV .not t24) fun t25 =>
     cnd t25 (
      pv (binV .none .add x1 t2) fun t26 =>
      pv (slV 2 t21 (some t26) none none) fun t27 =>
      pv (slV 2 t21 (some x1) none none) fun t28 =>
      cpy 2 t27 t28 fun t29 =>
      pv (slV 2 t21 (some x1) none none) fun t30 =>
      cpy 2 t30 x2 fun t31 =>
      K t21) (
      pv (slV 2 t21 (some t4) none none) fun t32 =>
      cpy 2 t32 x2 fun t33 =>
      pv (slV 2 t21 (some x1) none none) fun t34 =>
      callv Tryz.prog (.func (.func 99) #[] #[]) #[t34, t2] (fun t35 =>
      K t21) E)) E))) := by kernel_rfl
end
section
variable {K : Kont} {E : PanK} {k1 k2 k3 k4 k5 : Env → Hp → Prop} {σ : Type} {x0 x1 x2 x3 x4 x5 x6 x7 x8 x9 x10 x11 x12 x13 x14 x15 x16 x17 x18 x19 x20 x21 x22 x23 x24 x25 x26 x27 x28 x29 x30 x31 x32 x33 x34 x35 x36 x37 x38 x39 x40 x41 x42 x43 x44 x45 x46 x47 x48 x49 x50 x51 x52 x53 x54 x55 x56 x57 x58 x59 x60 x61 x62 x63 x64 x65 x66 x67 x68 x69 x70 x71 x72 x73 x74 x75 x76 x77 x78 x79 x80 x81 x82 x83 x84 x85 x86 x87 x88 x89 x90 x91 x92 x93 x94 v0 v1 v2 v3 v4 v5 v6 v7 v8 v9 v10 v11 v12 v13 v14 v15 v16 v17 v18 v19 v20 v21 v22 v23 v24 v25 v26 v27 v28 v29 v30 v31 v32 v33 v34 v35 v36 v37 v38 v39 v40 v41 v42 v43 v44 v45 v46 v47 v48 v49 v50 v51 v52 v53 v54 v55 v56 v57 v58 v59 v60 v61 v62 v63 v64 v65 v66 v67 v68 v69 v70 v71 v72 v73 v74 v75 v76 v77 v78 v79 v80 v81 v82 v83 v84 v85 v86 v87 v88 v89 v90 v91 v92 v93 v94 : Value} {h : Hp} {j : Nat → Value}
end
end Go.Proofs.YtgjdjdjhoipfmaaGreatDoor.T
open Go Go.RowKit Go.Proofs.YtgjdjdjhoipfmaaGreatDoor.K Go.Proofs.YtgjdjdjhoipfmaaGreatDoor.T
set_option linter.unusedVariables false
set_option linter.unusedSimpArgs false
namespace Go.Proofs.YtgjdjdjhoipfmaaGreatDoor.A
variable {F F' : Nat → Option (List Value)} {M M' : Nat → Option Chunk} {N N' : Nat} {K : Kont} {E : PanK}
set_option maxRecDepth 100000 in
theorem szE : ∀ w, (Go.sizeOf 52).run Tryz.prog w = .ok 2 w := fun w => run_sizeOf' (i := (Tryz.prog.info? 52).getD default) (by kernel_rfl) w
theorem overlaps_c {b o l c b2 l2 c2 : Nat} {e e2 : TypeId} {cs cs2 : List Value} {tot tot2 : Nat} (h1 : M b2 = some (.cells e2 cs2 tot2)) (h2 : M b = some (.cells e cs tot)) (hne : b2 ≠ b) (ht : 0 < tot) (k : K (.bool false) ⟨F, M, N⟩) :
    callv Tryz.prog (.func (.func 98) #[] #[]) #[.slice (some ⟨b2, 0, none⟩) l2 c2, .slice (some ⟨b, o, none⟩) l c] K E ⟨F, M, N⟩ := by
  refine .inr fun w0 w r => ⟨.bool false, w, ⟨F, M, N⟩, ?_, r, k⟩
  obtain ⟨_, _, _, arr2, a1, a2, _⟩ := r.cl b2 e2 cs2 tot2 h1
  obtain ⟨_, _, _, arr, a3, a4, _⟩ := r.cl b e cs tot h2
  rw [run_callFunc_extern Tryz.func98 (by kernel_rfl) (by kernel_rfl) (by kernel_rfl) (e := Extern.SlicesOverlaps.overlaps #[49, 49] #[4]) (by kernel_rfl)]
  have := Lib.run_overlaps_apart (P := Tryz.prog) w 49 4 52 Tryz.underlying49 2 szE ⟨b2, 0, none⟩ ⟨b, o, none⟩ l2 c2 l c hne e2 e arr2.size arr.size (by simp [World.shape?, a1]) (by simp [World.shape?, a3]) (by omega) (by simp [World.frozen?, a1]) (by simp [World.frozen?, a1])
  have h3 : appA (appA #[] #[.slice (some ⟨b2, 0, none⟩) l2 c2, .slice (some ⟨b, o, none⟩) l c]) #[] = #[Value.slice (some ⟨b2, 0, none⟩) l2 c2, .slice (some ⟨b, o, none⟩) l c] := rfl
  rw [h3, this]
  rfl
theorem cut3 {α : Type} (L : List α) (n : Nat) (h : n ≤ L.length) : ∃ X Y, L = X ++ Y ∧ X.length = n := ⟨L.take n, L.drop n, (List.take_append_drop n L).symm, by simp; omega⟩
theorem insert_c {b b2 n c : Nat} {A B : List (List Value)} {r rest : List Value} (hM : M b = some (.cells 52 ((A ++ B).flatten ++ rest) (c * 2))) (hM2 : M b2 = some (.cells 52 r 2)) (hne : b2 ≠ b) (hl : ∀ r ∈ A ++ B, r.length = 2) (h1 : ∀ r ∈ A ++ B, ∀ c ∈ r, c.oneCell' = true)
    (hr : r.length = 2) (hr1 : ∀ c ∈ r, c.oneCell' = true) (hn : (A ++ B).length = n) (hc : n ≤ c) (hcm : c ≤ maxLen) (hi : A.length < n) (hn2 : n < 100000000000)
    (k : ∀ rest' b' c' N' X, (b' = b ∨ N ≤ b') → (∀ k, k ≠ b → k < N → X k = M k) → X b' = some (.cells 52 ((A ++ r :: B).flatten ++ rest') (c' * 2)) → n + 1 ≤ c' → c' ≤ maxLen → N ≤ N' → (Hp.mk F X N').wf → K (.slice (some ⟨b', 0, none⟩) (n + 1) c') ⟨F, X, N'⟩) :
    callv Tryz.prog (.func (.func 67) #[] #[]) #[.slice (some ⟨b, 0, none⟩) n c, .int .i64 (A.length : Nat), .slice (some ⟨b2, 0, none⟩) 1 1] K E ⟨F, M, N⟩ := by
  refine callv_reveal hM rfl (by kernel_rfl) (fun ext hext => ?_)
  obtain ⟨R, hR⟩ : ∃ R, R = rest ++ ext := ⟨_, rfl⟩
  rw [List.append_assoc, ← hR] at hext
  obtain ⟨M1, hM1⟩ : ∃ M1, M1 = upd M b (some (.cells 52 ((A ++ B).flatten ++ R) (c * 2))) := ⟨_, rfl⟩
  rw [show (Hp.mk F M N).set b (.cells 52 ((A ++ B).flatten ++ rest ++ ext) (c * 2)) = ⟨F, M1, N⟩ by rw [hM1, hR, ← List.append_assoc]; rfl]
  clear hM
  have hM : M1 b = some (.cells 52 ((A ++ B).flatten ++ R) (c * 2)) := by rw [hM1, upd_same]
  have hM2' : M1 b2 = some (.cells 52 r 2) := by rw [hM1, upd_ne _ _ hne]; exact hM2
  have hMo : ∀ k, k ≠ b → M1 k = M k := fun k hk => by rw [hM1, upd_ne _ _ hk]
  clear hM1
  refine call_text mixed Tryz.func67 (by kernel_rfl) (t67 _ E _ _ _) (fun hw => ?_)
  have hA : A.flatten.length = A.length * 2 := flatten_len _ (fun r hr => hl r (by simp [hr]))
  have hB : B.flatten.length = B.length * 2 := flatten_len _ (fun r hr => hl r (by simp [hr]))
  have hBl : B.length = n - A.length := by simp at hn; omega
  rw [List.flatten_append] at hM hext
  simp only [List.length_append, hA, hB] at hext
  have hm := hw.m
  have key : ∀ b, M1 b ≠ none → b < N := fun q hq => by
    rcases Nat.lt_or_ge q N with h | h
    · exact h
    · exact absurd (hm q h) hq
  have hbN := key b (by rw [hM]; simp)
  have hb2N := key b2 (by rw [hM2']; simp)
  have h1B : ∀ c ∈ B.flatten, c.oneCell' = true := fun c hc => by
    obtain ⟨q, hq, hc⟩ := List.mem_flatten.1 hc
    exact h1 q (by simp [hq]) c hc
  refine sl_suf A.length (by omega) hc ?_
  refine pv_r rfl (eql_f (by omega) (cnd_f ?_))
  refine pv_r rfl (eql_f (by omega) (cnd_f ?_))
  refine inc_r (by omega) (pv_r rfl ?_)
  by_cases hgt : n + 1 > c
  · refine gtr_t (by omega) (cnd_t ?_)
    refine sl_pre A.length (by omega) ?_
    refine inc_r (by omega) ?_
    refine sub_r (by omega) (by omega) ?_
    have e0 : ((n + 1 : Nat) : Int) - (A.length : Nat) = ((n + 1 - A.length : Nat) : Int) := by omega
    rw [e0]
    refine ⟨some ⟨b, 0, none⟩, A.length, c, A.flatten, n + 1 - A.length, .i64, rfl, rfl, ⟨by rw [hA], .inr ⟨b, 0, c, _, rfl, .inr ⟨.inr ⟨_, _, hM⟩, by rw [List.drop_zero, ← hA, List.append_assoc, List.take_left]⟩⟩⟩, by omega, by omega, by omega, by simp [maxLen]; omega, fun b' c' hb' hc' hcm' => ?_⟩
    have e1 : A.length + (n + 1 - A.length) = n + 1 := by omega
    rw [e1] at hc' ⊢
    have hb'b : b' ≠ b := by simp only at hb'; omega
    have hb'2 : b' ≠ b2 := by simp only at hb'; omega
    have hZ : ((List.replicate (n + 1 - A.length) [Value.int .u32 0, .slice none 0 0]).flatten).length = 2 + B.length * 2 := by
      rw [flatten_len (sz := 2) _ (fun r hr => by rw [(List.mem_replicate.1 hr).2]; rfl), List.length_replicate]; omega
    obtain ⟨Z1, Z2, hZe, hZ1⟩ := cut3 _ 2 (by rw [hZ]; omega)
    rw [hZe] at hZ ⊢
    simp only [List.length_append, hZ1] at hZ
    show pv _ _ (Hp.mk F (upd M1 b' (some (.cells 52 (A.flatten ++ (Z1 ++ Z2)) (c' * 2)))) (b' + 1))
    refine sl_suf A.length (by omega) hc' ?_
    rw [if_neg (by omega)]
    refine ⟨b', _, _, _, 52, _, _, 1, r, rfl, upd_same _ _ _, ⟨by rw [hr], .inr ⟨b2, 0, 1, r, rfl, .inr ⟨.inr ⟨_, _, (upd_ne _ _ (Ne.symm hb'2)).trans hM2'⟩, by rw [List.drop_zero, List.take_of_length_le (by omega)]⟩⟩⟩, fun c hc => hr1 c (List.mem_of_mem_take hc), by simp [hA, hZ1]; omega, ?_⟩
    have em : min 1 (n + 1 - A.length) = 1 := by omega
    rw [em, List.take_of_length_le (by omega : r.length ≤ 1 * 2)]
    have es1 : splice (A.flatten ++ (Z1 ++ Z2)) (0 + A.length * 2) r = A.flatten ++ r ++ Z2 := by
      rw [← List.append_assoc, Nat.zero_add, ← hA, splice_at _ _ _ _ (by omega)]
    rw [es1]
    refine inc_r (by omega) ?_
    refine sl_suf (A.length + 1) (by omega) hc' ?_
    rw [if_neg (by omega)]
    refine sl_suf A.length (by omega) hc ?_
    rw [if_neg (by omega)]
    refine ⟨b', _, _, _, 52, _, _, n - A.length, B.flatten, rfl, upd_same _ _ _, ⟨by rw [hB, hBl], .inr ⟨b, _, _, _, rfl, .inr ⟨.inr ⟨_, _, (upd_ne _ _ (Ne.symm hb'b)).trans ((upd_ne _ _ (Ne.symm hb'b)).trans hM)⟩, ?_⟩⟩⟩, fun c hc => h1B c (List.mem_of_mem_take hc), ?_, fun hc2 => ?_⟩
    · rw [Nat.zero_add, ← hA, List.append_assoc, List.drop_left, ← hBl, ← hB, List.take_left]
    · simp [hA, hr]; omega
    have em2 : min (n - A.length) (n + 1 - (A.length + 1)) = B.length := by omega
    rw [em2] at hc2 ⊢
    have es2 : splice (A.flatten ++ r ++ Z2) (0 + (A.length + 1) * 2) (B.flatten.take (B.length * 2)) = A.flatten ++ r ++ B.flatten := by
      have : 0 + (A.length + 1) * 2 = (A.flatten ++ r).length := by simp [hA, hr]; omega
      rw [List.take_of_length_le (by omega), this]
      have h := splice_at (A.flatten ++ r) Z2 B.flatten [] (by omega)
      simpa using h
    rw [es2] at hc2 ⊢
    refine ⟨_, wk_refl hc2, fun hw' => k [] b' c' _ _ (.inr hb') (fun q hq hqN => ?_) ?_ hc' hcm' ?_ hw'⟩
    · simp only at hb'
      exact (upd_ne _ _ (by omega)).trans ((upd_ne _ _ (by omega)).trans ((upd_ne _ _ (by omega)).trans (hMo q hq)))
    · show upd _ _ _ _ = _
      rw [upd_same]; simp
    · simp only at hb'; show N ≤ b' + 1; omega
  · refine gtr_f (by omega) (cnd_f ?_)
    refine inc_r (by omega) ?_
    refine sl_pre (n + 1) (by omega) ?_
    refine inc_r (by omega) ?_
    refine sl_suf (A.length + 1) (by omega) (by omega) ?_
    rw [if_neg (by omega)]
    refine overlaps_c hM2' hM hne (by omega) ?_
    refine pv_r rfl (cnd_t ?_)
    refine inc_r (by omega) ?_
    refine sl_suf (A.length + 1) (by omega) (by omega) ?_
    rw [if_neg (by omega)]
    refine sl_suf A.length (by omega) (by omega) ?_
    rw [if_neg (by omega)]
    obtain ⟨X, Y, hXY, hX⟩ := cut3 (B.flatten ++ R) 2 (by simp [hB]; omega)
    obtain ⟨Y1, R1, hY, hY1⟩ := cut3 Y (B.length * 2) (by have := congrArg List.length hXY; simp [hX, hB] at this; omega)
    subst hY
    have hcs : A.flatten ++ B.flatten ++ R = A.flatten ++ X ++ Y1 ++ R1 := by rw [List.append_assoc, hXY]; simp
    have em : min (n + 1 - A.length) (n + 1 - (A.length + 1)) = B.length := by omega
    have hnews : ((B.flatten ++ R).take ((n + 1 - A.length) * 2)).take (B.length * 2) = B.flatten := by
      rw [List.take_take, Nat.min_eq_left (by omega), ← hB, List.take_left]
    refine ⟨b, _, _, _, 52, _, _, n + 1 - A.length, (B.flatten ++ R).take ((n + 1 - A.length) * 2), rfl, hM, ⟨?_, .inr ⟨b, _, _, _, rfl, .inr ⟨.inr ⟨_, _, hM⟩, ?_⟩⟩⟩, ?_, ?_, ?_⟩
    · rw [List.length_take, List.length_append, hB]; omega
    · rw [Nat.zero_add, ← hA, List.append_assoc, List.drop_left]
    · rw [em, hnews]; exact h1B
    · simp [hA, hB]; omega
    rw [em, hnews]
    have es1 : splice (A.flatten ++ B.flatten ++ R) (0 + (A.length + 1) * 2) B.flatten = A.flatten ++ X ++ B.flatten ++ R1 := by
      have : 0 + (A.length + 1) * 2 = (A.flatten ++ X).length := by simp [hA, hX]; omega
      rw [hcs, this, splice_at _ _ _ _ (by omega)]
    rw [es1]
    refine sl_suf A.length (by omega) (by omega) ?_
    rw [if_neg (by omega)]
    refine ⟨b, _, _, _, 52, _, _, 1, r, rfl, upd_same _ _ _, ⟨by rw [hr], .inr ⟨b2, 0, 1, r, rfl, .inr ⟨.inr ⟨_, _, (upd_ne _ _ hne).trans hM2'⟩, by rw [List.drop_zero, List.take_of_length_le (by omega)]⟩⟩⟩, fun c hc => hr1 c (List.mem_of_mem_take hc), by simp [hA, hB, hX]; omega, fun hc2 => ?_⟩
    have em2 : min 1 (n + 1 - A.length) = 1 := by omega
    rw [em2, List.take_of_length_le (by omega : r.length ≤ 1 * 2)] at hc2 ⊢
    have es2 : splice (A.flatten ++ X ++ B.flatten ++ R1) (0 + A.length * 2) r = A.flatten ++ r ++ B.flatten ++ R1 := by
      have h := splice_at A.flatten X r (B.flatten ++ R1) (by omega)
      rw [Nat.zero_add, ← hA]
      simpa using h
    rw [es2] at hc2 ⊢
    refine ⟨_, wk_refl hc2, fun hw' => k R1 b c _ _ (.inl rfl) (fun q hq hqN => ?_) ?_ (by omega) hcm (Nat.le_refl _) hw'⟩
    · exact (upd_ne _ _ hq).trans ((upd_ne _ _ hq).trans (hMo q hq))
    · show upd _ _ _ _ = _
      rw [upd_same]; simp
end Go.Proofs.YtgjdjdjhoipfmaaGreatDoor.A
open Go Go.RowKit Go.Proofs.YtgjdjdjhoipfmaaGreatDoor.K Go.Proofs.YtgjdjdjhoipfmaaGreatDoor.T
set_option linter.unusedVariables false
set_option linter.unusedSimpArgs false
namespace Go.Proofs.YtgjdjdjhoipfmaaGreatDoor.A
variable {F F' : Nat → Option (List Value)} {M M' : Nat → Option Chunk} {N N' : Nat} {K : Kont} {E : PanK}
set_option maxRecDepth 10000 in
theorem ins_c {B b2 i : Nat} {v : Value} {rows : List (List Value)} {r : List Value} {n : Nat} (hv : own M B 52 2 v n rows.flatten) (hm : clean M N) (hB : B ≤ N) (hlen : rows.length = n) (hl : ∀ q ∈ rows, q.length = 2) (h1 : ∀ q ∈ rows, ∀ c ∈ q, c.oneCell' = true)
    (hM2 : M b2 = some (.cells 52 r 2)) (hne : v.ownBlock ≠ some b2) (hr : r.length = 2) (hr1 : ∀ c ∈ r, c.oneCell' = true) (hi : i ≤ n) (hn : n < 100000000000)
    (k : ∀ v' M' N', own M' B 52 2 v' (n + 1) (rows.take i ++ r :: rows.drop i).flatten → (∀ q, v.ownBlock ≠ some q → q < N → M' q = M q ∧ v'.ownBlock ≠ some q) → N ≤ N' → clean M' N' → (Hp.mk F M' N').wf → K v' ⟨F, M', N'⟩) :
    callv Tryz.prog (.func (.func 67) #[] #[]) #[v, .int .i64 (i : Nat), .slice (some ⟨b2, 0, none⟩) 1 1] K E ⟨F, M, N⟩ := by
  have hrw : rows.flatten.length = n * 2 := hv.1
  by_cases hin : i < n
  · rcases hv.2 with ⟨rfl, h0⟩ | ⟨b, c, rest, rfl, g1, g2, g3, g4⟩
    · omega
    have hA : (rows.take i).length = i := by rw [List.length_take]; omega
    have hsp : rows.take i ++ rows.drop i = rows := List.take_append_drop i rows
    have hbN : b < N := hm.lt g4
    have hne' : b2 ≠ b := fun e => hne (by rw [e]; rfl)
    have := insert_c (F := F) (N := N) (K := K) (E := E) (A := rows.take i) (B := rows.drop i) (n := n) (c := c) (rest := rest) (by rw [hsp]; exact g4) hM2 hne' (by rw [hsp]; exact hl) (by rw [hsp]; exact h1) hr hr1 (by rw [hsp]; exact hlen) g1 g2 (by omega) hn (fun rest' b' c' N' X q1 q2 q3 q4 q5 q6 q7 => ?_)
    · rw [hA] at this; exact this
    · refine k _ X N' ⟨?_, .inr ⟨b', c', rest', rfl, q4, q5, ?_, q3⟩⟩ (fun q hq hqN => ⟨q2 q (fun e => hq (by rw [e]; rfl)) hqN, fun e => ?_⟩) q6 q7.m q7
      · have h2 : ∀ q ∈ rows.take i ++ r :: rows.drop i, q.length = 2 := fun q hq => by
          rcases List.mem_append.1 hq with hq | hq
          · exact hl q (List.mem_of_mem_take hq)
          · rcases List.mem_cons.1 hq with rfl | hq
            · exact hr
            · exact hl q (List.mem_of_mem_drop hq)
        rw [flatten_len _ h2, List.length_append, List.length_cons, List.length_take, List.length_drop]; omega
      · rcases q1 with rfl | q1
        · exact g3
        · omega
      · have e' : b' = q := by simpa [Value.ownBlock] using e
        rcases q1 with q1 | q1
        · exact hq (by rw [← e', q1]; rfl)
        · omega
  · have e : i = n := by omega
    subst e
    have hform := hv.form
    obtain ⟨a, c, hvf, hc⟩ := hform
    subst hvf
    refine callv_of_text mixed Tryz.func67 (by kernel_rfl) (t67 _ E _ _ _) (fun hw => ?_)
    refine sl_r i i c (Nat.le_refl _) hc (Nat.le_refl _) ?_ (h4 := fun _ => ⟨rfl, hc⟩)
    try simp only [sS]
    refine eql_f (by omega) ?_
    try simp only [sS]
    refine eql_t rfl ?_
    try simp only [sS]
    refine hv.app (m := 1) (news := r) hm hB ⟨by rw [hr], .inr ⟨b2, 0, 1, r, rfl, Nat.le_refl _, .inr ⟨_, _, hM2⟩, by rw [List.drop_zero, List.take_of_length_le (by omega)]⟩⟩ hr1 (by omega) (by unfold maxLen; omega) (fun v' M' N' h4 h5 h6 h7 => ?_)
    refine fun hc' => ⟨_, wk_refl hc', fun hw' => k v' M' N' ?_ h5 h6 h7 hw'⟩
    rw [List.take_of_length_le (by omega), List.drop_eq_nil_of_le (by omega), List.flatten_append]
    simpa using h4
end Go.Proofs.YtgjdjdjhoipfmaaGreatDoor.A
open Go Go.RowKit Go.Proofs.YtgjdjdjhoipfmaaGreatDoor.K Go.Proofs.YtgjdjdjhoipfmaaGreatDoor.T
set_option linter.unusedVariables false
set_option linter.unusedSimpArgs false
namespace Go.Proofs.YtgjdjdjhoipfmaaGreatDoor.A
variable {F F' : Nat → Option (List Value)} {M M' : Nat → Option Chunk} {N N' : Nat} {K : Kont} {E : PanK}
def inP (l : List Dm) (key : List Int) (i : Nat) : Bool := decide (0 ≤ key.getD i 0 ∧ key.getD i 0 < (l.getD i (0, [])).1)
def inF (l : List Dm) (key : List Int) : Bool := decide (key.length = l.length) && (List.range l.length).all (inP l key)
theorem in1_c {cs : List Value} {d : Dm} {n : Int} (hd : dimD F cs d) (k : ∀ N', N ≤ N' → (Hp.mk F M N').wf → K (.bool (decide (0 ≤ n ∧ n < d.1))) ⟨F, M, N'⟩) :
    callv Tryz.prog (.func (.func 96) #[] #[]) #[.agg cs.toArray, .int .i64 n] K E ⟨F, M, N⟩ := by
  refine callv_of_text mixed Tryz.func96 (by kernel_rfl) (t96 _ E _ _) (fun hw => ?_)
  have hm := hw.m
  obtain ⟨v, rfl, hv, hvl⟩ := hd
  refine nw_r (cs := [.int .i64 d.1, v]) (fun b hb => ?_)
  refine geq_r (fun h1 => ?_) (fun h1 => ?_)
  · try simp only [sS]
    refine ldM (v := .int .i64 d.1) ?_
    refine lss_r (fun h2 => ?_) (fun h2 => ?_)
    · try simp only [sS]
      rw [decide_eq_true ⟨h1, h2⟩] at k
      exact fun hc => ⟨⟨F, M, b + 1⟩, wk_end hc, fun hw' => k _ (by omega) hw'⟩
    · try simp only [sS]
      rw [decide_eq_false fun q => h2 q.2] at k
      exact fun hc => ⟨⟨F, M, b + 1⟩, wk_end hc, fun hw' => k _ (by omega) hw'⟩
  · try simp only [sS]
    rw [decide_eq_false fun q => h1 q.1] at k
    exact fun hc => ⟨⟨F, M, b + 1⟩, wk_end hc, fun hw' => k _ (by omega) hw'⟩
set_option maxRecDepth 10000 in
theorem din_c {v u : Value} {l : List Dm} {m : List Int} (hv : dimsD F v l) (hu : sF F 1 u m.length (ic m)) (hl : l.length ≤ 140737488351232) (k : ∀ N', N ≤ N' → (Hp.mk F M N').wf → K (.bool (inF l m)) ⟨F, M, N'⟩) :
    callv Tryz.prog (.func (.func 64) #[] #[]) #[v, u] K E ⟨F, M, N⟩ := by
  refine callv_of_text mixed Tryz.func64 (by kernel_rfl) (t64 _ E _ _) (fun hw => ?_)
  refine callv_of_text mixed Tryz.func95 (by kernel_rfl) (t95 _ E _ _ _) (fun hw => ?_)
  have hm : clean M N := hw.m
  have hlv : lenV v = some (.int .i64 (l.length : Nat)) := by obtain ⟨a, c, rfl⟩ := hv.form; rfl
  have hlu : lenV u = some (.int .i64 (m.length : Nat)) := by obtain ⟨a, c, rfl, _⟩ := hu.form; rfl
  refine pv_r hlv (pv_r hlu ?_)
  refine neq_r (fun h1 => ?_) (fun h1 => ?_)
  · try simp only [sS]
    refine fun hc => ⟨_, wk_refl hc, fun hw' hc => ⟨_, wk_refl hc, fun hw' => ?_⟩⟩
    have := k _ (Nat.le_refl _) hw'
    rw [show inF l m = false by unfold inF; rw [decide_eq_false (by omega)]; rfl] at this
    exact this
  try simp only [sS]
  refine pv_r hlv ?_
  obtain ⟨rows, hv1, hv2⟩ := hv
  refine l95_1_1_0_1_0_0 (σ := Nat) (fun i => .int .i64 (i : Nat)) (fun i h => ∃ N', h = ⟨F, M, N'⟩ ∧ N ≤ N' ∧ i ≤ l.length ∧ (List.range i).all (inP l m) = true) (fun i => l.length - i) 0 rfl
    (fun hw1 => ⟨_, wk_refl hw1, N, rfl, Nat.le_refl _, Nat.zero_le _, rfl⟩) (fun k1 i j h1' hI hw1 next => ?_)
  rw [t95_1_1_0_1_0_0]
  obtain ⟨N1, rfl, hN1, hi, he⟩ := hI
  have hm1 : clean M N1 := hw1.m
  refine lss_r (fun hlt => ?_) (fun hge => ?_)
  · have i1 : i < l.length := by omega
    have i2 : i < m.length := by omega
    try simp only [sS]
    refine row_r hv1 hv2 (by decide) i1 fun p r _ hR hr2 hr1 => ?_
    have hR' := hR
    obtain ⟨kv, hre, hkv, hkl⟩ := hR
    subst hre
    refine nw_r (fun b1 hb1 => ?_)
    refine stM (cs' := [.int .i64 l[i].1, kv]) ?_ (upd_same _ _ _) rfl rfl hr1
    rw [upd_upd]
    refine ixn_r hu i2 fun p => ?_
    refine ldMa (vs := [.int .i64 l[i].1, kv]) ?_
    refine in1_c hR' (fun N2 hN2 hw2 => ?_)
    have hp : inP l m i = decide (0 ≤ m[i] ∧ m[i] < l[i].1) := by
      unfold inP
      rw [getD_at i1, getD_at i2]
    rw [← hp]
    have hdrop : ∀ {h : Hp}, h = (⟨F, upd M b1 (some (.cells 74 [.int .i64 l[i].1, kv] 2)), N2⟩ : Hp) → h.wf → h.wk ⟨F, M, N2⟩ := fun e hc => by subst e; exact wk_drop hc (subM_drop (subM_refl _) (hm1 _ hb1))
    cases hpi : inP l m i
    · try simp only [sS]
      refine fun hc => ⟨⟨F, M, N2⟩, hdrop rfl hc, fun hw' hc => ⟨_, wk_refl hc, fun hw' => ?_⟩⟩
      have := k N2 (by omega) hw'
      rw [show inF l m = false by unfold inF; rw [all_range_no i1 hpi]; simp] at this
      exact this
    · try simp only [sS]
      refine inc_r (by omega) ?_
      exact next (i + 1) _ _ (by omega) (fun hw3 => ⟨⟨F, M, N2⟩, hdrop rfl hw3, N2, rfl, by omega, i1, all_range_succ he hpi⟩)
  · try simp only [sS]
    rw [show i = l.length by omega] at he
    refine fun hc => ⟨_, wk_refl hc, fun hw' hc => ⟨_, wk_refl hc, fun hw' => ?_⟩⟩
    have := k _ hN1 hw'
    rw [show inF l m = true by unfold inF; rw [he, decide_eq_true (by omega)]; rfl] at this
    exact this
theorem fits1_c {b g : Nat} {e1 : TypeId} {t1 : Nat} {hv dv : Value} {cs : List Value} {l : List Dm} {f : Fc} (hb : M b = some (.cells e1 [.pointer (some ⟨g, 0, none⟩)] t1)) (hg : M g = some (.cells 84 [hv, dv] 2)) (hd : dimsD F dv l) (hl : l.length ≤ 140737488351232) (hf : fctD F cs f)
    (k : ∀ N', N ≤ N' → (Hp.mk F M N').wf → K (.bool (!inF l f.1)) ⟨F, M, N'⟩) : callv Tryz.prog (.func (.func 63) #[] #[.pointer (some ⟨b, 0, none⟩)]) #[.agg cs.toArray] K E ⟨F, M, N⟩ := by
  refine callv_of_text mixed Tryz.func63 (by kernel_rfl) (t63 _ E _ _) (fun hw => ?_)
  have hm : clean M N := hw.m
  have hbN := hm.lt hb
  have hgN := hm.lt hg
  obtain ⟨kv, rfl, hkv, hkl⟩ := hf
  refine nw_r (cs := [kv, .int .i64 f.2]) (fun b2 hb2 => ?_)
  refine ldM (v := .pointer (some ⟨g, 0, none⟩)) ?_ ((upd_ne _ _ (by omega)).trans hb)
  try simp only [sS]
  refine ldM (v := dv) ?_ ((upd_ne _ _ (by omega)).trans hg)
  try simp only [sS]
  refine ldM (v := kv) ?_
  refine din_c hd hkv hl (fun N2 hN2 hw2 => ?_)
  try simp only [sS]
  exact fun hc => ⟨⟨F, M, N2⟩, wk_drop hc (subM_drop (subM_refl _) (hm _ hb2)), fun hw' => k _ (by omega) hw'⟩
end Go.Proofs.YtgjdjdjhoipfmaaGreatDoor.A
open Go Go.RowKit Go.Proofs.YtgjdjdjhoipfmaaGreatDoor.K Go.Proofs.YtgjdjdjhoipfmaaGreatDoor.T
set_option linter.unusedVariables false
set_option linter.unusedSimpArgs false
namespace Go.Proofs.YtgjdjdjhoipfmaaGreatDoor.A
variable {F F' : Nat → Option (List Value)} {M M' : Nat → Option Chunk} {N N' : Nat} {K : Kont} {E : PanK}
def fitsF (l : List Dm) (fs : List Fc) : Bool := decide (fs.length ≤ 200) && fs.all fun f => inF l f.1
theorem fidx_c {b g : Nat} {e1 : TypeId} {t1 : Nat} {v hv dv : Value} {l : List Dm} {fs : List Fc} (hb : M b = some (.cells e1 [.pointer (some ⟨g, 0, none⟩)] t1)) (hg : M g = some (.cells 84 [hv, dv] 2)) (hd : dimsD F dv l) (hl : l.length ≤ 140737488351232) (hf : fctsD F v fs) (hfl : fs.length ≤ 140737488351232)
    (k : ∀ (r : Int) N', N ≤ N' → (Hp.mk F M N').wf → (decide (r ≥ 0) = !fs.all fun f => inF l f.1) → K (.int .i64 r) ⟨F, M, N'⟩) :
    callv Tryz.prog (.func (.func 94) #[] #[]) #[v, .func (.func 63) #[] #[.pointer (some ⟨b, 0, none⟩)]] K E ⟨F, M, N⟩ := by
  refine callv_of_text mixed Tryz.func94 (by kernel_rfl) (t94 _ E _ _) (fun hw => ?_)
  obtain ⟨rows, hv1, hv2⟩ := hf
  refine lenF_r hv1 ?_
  refine l94_1_0_1_0_0 (σ := Nat) (fun i => .int .i64 (i : Nat)) (fun i h => ∃ N', h = ⟨F, M, N'⟩ ∧ N ≤ N' ∧ i ≤ fs.length ∧ (fs.all fun f => inF l f.1) = ((fs.drop i).all fun f => inF l f.1)) (fun i => fs.length - i) 0 rfl
    (fun hw1 => ⟨_, wk_refl hw1, N, rfl, Nat.le_refl _, Nat.zero_le _, rfl⟩) (fun k1 i j h1 hI hw1 next => ?_)
  rw [t94_1_0_1_0_0]
  obtain ⟨N1, rfl, hN1, hi, he⟩ := hI
  refine lss_r (fun hlt => ?_) (fun hge => ?_)
  · have h1 : i < fs.length := by omega
    try simp only [sS]
    refine row_r hv1 hv2 (by decide) h1 fun p r _ hR _ _ => fits1_c hb hg hd hl hR (fun N2 hN2 hw2 => ?_)
    rw [List.drop_eq_getElem_cons h1, List.all_cons] at he
    cases hn : inF l fs[i].1
    · try simp only [sS]
      refine fun hc => ⟨_, wk_refl hc, fun hw' => k _ _ (by omega) hw' ?_⟩
      rw [he, hn, decide_eq_true (by omega)]; rfl
    · try simp only [sS]
      refine inc_r (by omega) ?_
      refine next (i + 1) _ _ (by omega) (fun hw3 => ⟨_, wk_refl hw3, N2, rfl, by omega, by omega, ?_⟩)
      rw [he, hn, Bool.true_and]
  · try simp only [sS]
    refine fun hc => ⟨_, wk_refl hc, fun hw' => k _ _ hN1 hw' ?_⟩
    rw [he, List.drop_eq_nil_of_le (by omega)]; rfl
theorem fits_c {g : Nat} {v hv dv : Value} {l : List Dm} {fs : List Fc} (hg : M g = some (.cells 84 [hv, dv] 2)) (hd : dimsD F dv l) (hl : l.length ≤ 140737488351232) (hf : fctsD F v fs) (hfl : fs.length ≤ 140737488351232)
    (k : ∀ N', N ≤ N' → (Hp.mk F M N').wf → K (.bool (fitsF l fs)) ⟨F, M, N'⟩) :
    callv Tryz.prog (.func (.func 34) #[] #[]) #[.pointer (some ⟨g, 0, none⟩), v] K E ⟨F, M, N⟩ := by
  refine callv_of_text mixed Tryz.func34 (by kernel_rfl) (t34 _ E _ _) (fun hw => ?_)
  have hm : clean M N := hw.m
  have hgN := hm.lt hg
  have hlv : lenV v = some (.int .i64 (fs.length : Nat)) := by obtain ⟨a, c, h⟩ := hf.form; rw [h]; rfl
  unfold fitsF at k
  refine nw_r (cs := [.pointer (some ⟨g, 0, none⟩)]) (fun b1 hb1 => ?_)
  refine pv_r hlv ?_
  refine leq_r (fun h1 => ?_) (fun h1 => ?_)
  · rw [decide_eq_true (by omega), Bool.true_and] at k
    try simp only [sS]
    refine callv_of_text mixed Tryz.func62 (by kernel_rfl) (t62 _ E _ _) (fun hw => ?_)
    refine fidx_c (upd_same _ _ _) ((upd_ne _ _ (by omega)).trans hg) hd hl hf hfl (fun r N2 hN2 hw2 hr => ?_)
    cases ha : fs.all fun f => inF l f.1
    · rw [ha] at hr k
      refine geq_t (by simpa using hr) fun hc => ⟨_, wk_refl hc, fun hw' => ?_⟩
      try simp only [sS]
      exact fun hc => ⟨⟨F, M, N2⟩, wk_drop hc (subM_drop (subM_refl _) (hm _ hb1)), fun hw' => k _ (by omega) hw'⟩
    · rw [ha] at hr k
      refine geq_f (by simpa using hr) fun hc => ⟨_, wk_refl hc, fun hw' => ?_⟩
      try simp only [sS]
      exact fun hc => ⟨⟨F, M, N2⟩, wk_drop hc (subM_drop (subM_refl _) (hm _ hb1)), fun hw' => k _ (by omega) hw'⟩
  · rw [decide_eq_false (by omega), Bool.false_and] at k
    try simp only [sS]
    exact fun hc => ⟨⟨F, M, b1 + 1⟩, wk_drop hc (subM_drop (subM_refl _) (hm _ hb1)), fun hw' => k _ (by omega) hw'⟩
end Go.Proofs.YtgjdjdjhoipfmaaGreatDoor.A
open Go Go.RowKit Go.Proofs.YtgjdjdjhoipfmaaGreatDoor.K Go.Proofs.YtgjdjdjhoipfmaaGreatDoor.T
set_option linter.unusedVariables false
set_option linter.unusedSimpArgs false
namespace Go.Proofs.YtgjdjdjhoipfmaaGreatDoor.A
variable {F F' : Nat → Option (List Value)} {M M' : Nat → Option Chunk} {N N' : Nat} {K : Kont} {E : PanK}
def layE (h : List En) (t : Int) (fs : List Fc) : List En := h.take (place h t) ++ (t, fs) :: h.drop (place h t)
theorem layE_len (h : List En) (t : Int) (fs : List Fc) : (layE h t fs).length = h.length + 1 := by
  have := place_le h t
  unfold layE
  rw [List.length_append, List.length_cons, List.length_take, List.length_drop]; omega
theorem layE_risen {h : List En} {t : Int} {fs : List Fc} (hs : risen h) (ht : there h t = false) : risen (layE h t fs) := by
  have hpl := place_le h t
  unfold layE risen
  have hgt : ∀ x ∈ h.drop (place h t), t < x.1 := fun x hx => by
    obtain ⟨j, hj, rfl⟩ := List.mem_iff_getElem.1 hx
    rw [List.getElem_drop]
    have hj2 : place h t + j < h.length := by rw [List.length_drop] at hj; omega
    have h1 := place_ge (t := t) hs hj2 (by omega)
    have h2 : h[place h t + j].1 ≠ t := fun e => by
      have h3 : place h t < h.length := by omega
      rw [there_in h3] at ht
      have h4 := of_decide_eq_false ht
      have h5 := place_ge (t := t) hs h3 (Nat.le_refl _)
      rcases Nat.eq_zero_or_pos j with h0 | h0
      · subst h0; exact h4 e
      · have := List.pairwise_iff_getElem.1 hs (place h t) (place h t + j) h3 hj2 (by omega)
        omega
    omega
  have hlt : ∀ x ∈ h.take (place h t), x.1 < t := fun x hx => by
    obtain ⟨j, hj, rfl⟩ := List.mem_iff_getElem.1 hx
    rw [List.length_take] at hj
    rw [List.getElem_take]
    exact place_lt (by omega) (by omega)
  refine List.pairwise_append.2 ⟨hs.sublist (List.take_sublist _ _), List.pairwise_cons.2 ⟨fun x hx => hgt x hx, hs.sublist (List.drop_sublist _ _)⟩, fun x hx y hy => ?_⟩
  have h1 := hlt x hx
  rcases List.mem_cons.1 hy with rfl | hy
  · exact h1
  · have := hgt y hy; omega
set_option maxRecDepth 10000 in
theorem hwith_c {B : Nat} {v fv : Value} {rows : List (List Value)} {h : List En} {t : Int} {fs : List Fc} (hv : own M B 52 2 v h.length rows.flatten) (hB : B ≤ N) (hr : rowsF (entD F) 2 rows h) (hs : risen h) (hl : h.length ≤ 10000000000) (ht : there h t = false) (hf : fctsD F fv fs) (hfl : fs.length ≤ 1000000) (hk : ∀ f ∈ fs, f.1.length ≤ 10000000000)
    (k : ∀ v' F' M' N' rows', subF F F' → own M' B 52 2 v' (layE h t fs).length rows'.flatten → rowsF (entD F') 2 rows' (layE h t fs) → (∀ q, v.ownBlock ≠ some q → q < N → M' q = M q ∧ v'.ownBlock ≠ some q) → N ≤ N' → clean M' N' → (Hp.mk F' M' N').wf → K v' ⟨F', M', N'⟩) :
    callv Tryz.prog (.func (.func 35) #[] #[]) #[v, .int .u32 t, fv] K E ⟨F, M, N⟩ := by
  refine callv_of_text mixed Tryz.func35 (by kernel_rfl) (t35 _ E _ _ _) (fun hw => ?_)
  have hm : clean M N := hw.m
  have hpl := place_le h t
  refine find_c hv hr hs (by omega) (fun N1 hN1 hw1 => ?_)
  rw [ht]
  try simp only [sS]
  refine cclone_c hf (by omega) hk (fun v2 F2 N2 hw2 hF2 hN2 hf2 => ?_)
  have hm2 : clean M N2 := hw2.m
  have he : entD F2 [.int .u32 t, v2] (t, fs) := ⟨v2, rfl, hf2, by simp only; omega⟩
  obtain ⟨a2, c2, e2⟩ := hf2.form
  refine pv_r (v := .agg #[.int .u32 t, v2]) (by rw [e2]; kernel_rfl) ?_
  refine nws_r (cs := [.int .u32 t, v2]) (by rw [e2]; kernel_rfl) (fun b3 hb3 => ?_)
  have hr2 : rowsF (entD F2) 2 rows h := hr.mono fun _ _ h => h.mono hF2
  have hvb : v.ownBlock ≠ some b3 := fun e => by have := hv.lt hm _ e; omega
  refine ins_c (i := place h t) (r := [.int .u32 t, v2]) (hv.box hm (by omega) _) (hm2.new hb3 _) (by omega) hr.all.1 hr.len hr.one (upd_same _ _ _) hvb rfl he.one.2 hpl (by omega) (fun v4 M4 N4 g1 g2 g3 g4 g5 => ?_)
  refine fun hc => ⟨_, wk_refl hc, fun hw' => k v4 F2 M4 N4 _ hF2 (by rw [layE_len]; exact g1) ?_ (fun q hq hqN => ?_) (by omega) g4 hw'⟩
  · have h1 := rowsF_snoc1 (rowsF.nil (entD F2) 2) he.one he
    exact rows_app (rows_take hr2 (place h t)) (by have := rows_app h1 (rows_drop hr2 (place h t)); simpa using this)
  · obtain ⟨x1, x2⟩ := g2 q hq (by omega)
    exact ⟨x1.trans (upd_ne _ _ (by omega)), x2⟩
structure isCube (F : Nat → Option (List Value)) (M : Nat → Option Chunk) (B g : Nat) (hv dv : Value) (rows : List (List Value)) (l : List Dm) (h : List En) : Prop where
  gg : M g = some (.cells 84 [hv, dv] 2)
  gB : B ≤ g
  oo : own M B 52 2 hv h.length rows.flatten
  rr : rowsF (entD F) 2 rows h
  vg : hv.ownBlock ≠ some g
  dd : dimsD F dv l
  rs : risen h
def addE (l : List Dm) (h : List En) (t : Int) (fs : List Fc) : Nat := if fitsF l fs = false then 1 else if t = 0 ∨ there h t = true then 130 else if h.length ≥ 5000 then 3 else 0
def addH (l : List Dm) (h : List En) (t : Int) (fs : List Fc) : List En := if addE l h t fs = 0 then layE h t fs else h
end Go.Proofs.YtgjdjdjhoipfmaaGreatDoor.A
open Go Go.RowKit Go.Proofs.YtgjdjdjhoipfmaaGreatDoor.K Go.Proofs.YtgjdjdjhoipfmaaGreatDoor.T
set_option linter.unusedVariables false
set_option linter.unusedSimpArgs false
namespace Go.Proofs.YtgjdjdjhoipfmaaGreatDoor.A
variable {F F' : Nat → Option (List Value)} {M M' : Nat → Option Chunk} {N N' : Nat} {K : Kont} {E : PanK}
theorem fitsF_of {l : List Dm} {fs : List Fc} (h : fitsF l fs = true) : fs.length ≤ 200 ∧ ∀ f ∈ fs, inF l f.1 = true := by
  unfold fitsF at h
  rw [Bool.and_eq_true] at h
  exact ⟨of_decide_eq_true h.1, fun f hf => List.all_eq_true.1 h.2 f hf⟩
theorem of_fitsF {l : List Dm} {fs : List Fc} (h1 : fs.length ≤ 200) (h2 : ∀ f ∈ fs, inF l f.1 = true) : fitsF l fs = true := by
  unfold fitsF
  rw [decide_eq_true h1, List.all_eq_true.2 h2]; rfl
theorem inF_len {l : List Dm} {k : List Int} (h : inF l k = true) : k.length = l.length := by
  unfold inF at h
  rw [Bool.and_eq_true] at h
  exact of_decide_eq_true h.1
set_option maxRecDepth 10000 in
theorem add_to_c {B g : Nat} {hv dv fv : Value} {rows : List (List Value)} {l : List Dm} {h : List En} {t : Int} {fs : List Fc} (hC : isCube F M B g hv dv rows l h) (hB : B ≤ N) (hdl : l.length ≤ 1000) (hl : h.length ≤ 5000) (ht0 : 0 ≤ t) (hf : fctsD F fv fs) (hfl : fs.length ≤ 140737488351232)
    (k : ∀ hv' F' M' N' rows', subF F F' → isCube F' M' B g hv' dv rows' l (addH l h t fs) → (∀ q, hv.ownBlock ≠ some q → q ≠ g → q < N → M' q = M q ∧ hv'.ownBlock ≠ some q) → N ≤ N' → clean M' N' → (Hp.mk F' M' N').wf → K (.int .u16 ((addE l h t fs : Nat) : Int)) ⟨F', M', N'⟩) :
    callv Tryz.prog (.func (.func 15) #[] #[]) #[.pointer (some ⟨g, 0, none⟩), .int .u32 t, fv] K E ⟨F, M, N⟩ := by
  refine callv_of_text mixed Tryz.func15 (by kernel_rfl) (t15 _ E _ _ _) (fun hw => ?_)
  have hm : clean M N := hw.m
  have hlv : lenV hv = some (.int .i64 (h.length : Nat)) := by obtain ⟨a, c, e, _⟩ := hC.oo.form; rw [e]; rfl
  have fin : ∀ n : Nat, n ≠ 0 → n = addE l h t fs → ∀ N', N ≤ N' → ∀ h', h' = (⟨F, M, N'⟩ : Hp) → h'.wf → ∃ h'', h'.wk h'' ∧ (h''.wf → K (.int .u16 ((n : Nat) : Int)) h'') := fun n n0 e N' hN h' e' hc => by
    subst e'
    refine ⟨_, wk_refl hc, fun hw' => ?_⟩
    rw [e]
    refine k hv F M N' rows (subF.refl _) ?_ (fun _ h _ _ => ⟨rfl, h⟩) hN hw'.m hw'
    unfold addH; rw [if_neg (by omega)]; exact hC
  try simp only [sS]
  refine ldM (v := hv) ?_ hC.gg
  refine find_c hC.oo hC.rr hC.rs (by omega) (fun N1 hN1 hw1 => ?_)
  try simp only [sS]
  refine fits_c hC.gg hC.dd (by omega) hf hfl (fun N2 hN2 hw2 => ?_)
  cases h1 : fitsF l fs
  · try simp only [sS]
    exact fin 1 (by decide) (by unfold addE; rw [if_pos h1]) N2 (by omega) _ rfl
  try simp only [sS]
  have last : (h2 : ¬ t = 0) → addE l h t fs = (if there h t = true then 130 else if h.length ≥ 5000 then 3 else 0) := fun h2 => by
    unfold addE; rw [if_neg (by rw [h1]; decide)]
    by_cases h3 : there h t = true
    · rw [if_pos (.inr h3), if_pos h3]
    · rw [if_neg (by rintro (q | q); exact h2 q; exact h3 q), if_neg h3]
  refine eql_r (fun h2 => ?_) (fun h2 => ?_)
  · try simp only [sS]
    rw [t15_1_1_0_0_1_1_1]
    try simp only [sS]
    exact fin 130 (by decide) (by unfold addE; rw [if_neg (by rw [h1]; decide), if_pos (.inl h2)]) N2 (by omega) _ rfl
  · try simp only [sS]
    rw [t15_1_1_0_0_1_1_1]
    cases h3 : there h t
    · try simp only [sS]
      refine ldM (v := hv) ?_ hC.gg
      refine pv_r hlv ?_
      refine geq_r (fun h4 => ?_) (fun h4 => ?_)
      · try simp only [sS]
        exact fin 3 (by decide) (by rw [last h2, if_neg (by rw [h3]; decide), if_pos (by omega)]) N2 (by omega) _ rfl
      · try simp only [sS]
        try simp only [sS]
        refine ldM (v := hv) ?_ hC.gg
        obtain ⟨f1, f2⟩ := fitsF_of h1
        refine hwith_c hC.oo (by omega) hC.rr hC.rs (by omega) h3 hf (by omega) (fun f hf => by have := inF_len (f2 f hf); omega) (fun v' F3 M3 N3 rows' hF3 g1 g2 g3 g4 g5 g6 => ?_)
        have hgN := hm.lt hC.gg
        obtain ⟨x1, x2⟩ := g3 g hC.vg (by omega)
        have hg3 : M3 g = some (.cells 84 [hv, dv] 2) := x1.trans hC.gg
        obtain ⟨a, c, e, _⟩ := g1.form
        try simp only [sS]
        refine stM (cs' := [v', dv]) ?_ hg3 (by rw [e]; rfl) (by rw [e]; rfl) (by rw [e]; exact List.all_eq_true.1 rfl)
        have e0 : addE l h t fs = 0 := by rw [last h2, if_neg (by rw [h3]; decide), if_neg (by omega)]
        refine fun hc => ⟨_, wk_refl hc, fun hw' => ?_⟩
        rw [e0] at k
        refine k v' F3 _ N3 rows' hF3 ?_ (fun q hq hqg hqN => ?_) (by omega) (g5.set (g5.lt hg3) _) hw'
        · unfold addH; rw [if_pos e0]
          exact ⟨upd_same _ _ _, hC.gB, g1.keep (fun q hq => upd_ne _ _ (fun e => x2 (e ▸ hq))) (Nat.le_refl _), g2, x2, hC.dd.mono hF3, layE_risen hC.rs h3⟩
        · obtain ⟨y1, y2⟩ := g3 q hq (by omega)
          exact ⟨(upd_ne _ _ hqg).trans y1, y2⟩
    · try simp only [sS]
      exact fin 130 (by decide) (by rw [last h2, if_pos h3]) N2 (by omega) _ rfl
end Go.Proofs.YtgjdjdjhoipfmaaGreatDoor.A
open Go Go.RowKit Go.Proofs.YtgjdjdjhoipfmaaGreatDoor.K Go.Proofs.YtgjdjdjhoipfmaaGreatDoor.T
set_option linter.unusedVariables false
set_option linter.unusedSimpArgs false
namespace Go.Proofs.YtgjdjdjhoipfmaaGreatDoor.A
variable {F F' : Nat → Option (List Value)} {M M' : Nat → Option Chunk} {N N' : Nat} {K : Kont} {E : PanK}
set_option maxRecDepth 10000 in
theorem new_c {v : Value} {l : List Dm} (hv : dimsD F v l) (hl : l.length ≤ 140737488351232)
    (k1 : okDims l = false → ∀ N', N ≤ N' → (Hp.mk F M N').wf → K (.pointer none) ⟨F, M, N'⟩)
    (k2 : okDims l = true → ∀ g dv F' M' N', subF F F' → isCube F' M' N g (.slice none 0 0) dv [] l [] → (∀ q, q < N → M' q = M q) → N ≤ N' → clean M' N' → (Hp.mk F' M' N').wf → K (.pointer (some ⟨g, 0, none⟩)) ⟨F', M', N'⟩) :
    callv Tryz.prog (.func (.func 13) #[] #[]) #[v] K E ⟨F, M, N⟩ := by
  refine callv_of_text mixed Tryz.func13 (by kernel_rfl) (t13 _ E _) (fun hw => ?_)
  have hm : clean M N := hw.m
  have hlv : lenV v = some (.int .i64 (l.length : Nat)) := by obtain ⟨a, c, rfl⟩ := hv.form; rfl
  refine dsound_c hv hl (fun N1 hN1 hw1 => ?_)
  cases hok : okDims l
  · try simp only [sS]
    exact fun hc => ⟨_, wk_refl hc, fun hw' => k1 hok _ hN1 hw'⟩
  have hl4 := okDims_len hok
  try simp only [sS]
  refine pv_r (v := .agg #[.slice none 0 0, .slice none 0 0]) (by kernel_rfl) ?_
  refine nw_r (cs := [.slice none 0 0, .slice none 0 0]) (fun g hg => ?_)
  refine pv_r hlv ?_
  obtain ⟨drs, hv1, hv2⟩ := hv
  refine l13_1_1_1_0_1_0_0 (σ := Nat) (fun i => .int .i64 (i : Nat))
    (fun i h => ∃ F' M' N' dv rows, h = ⟨F', M', N'⟩ ∧ subF F F' ∧ g < N' ∧ (∀ q, q < N → M' q = M q) ∧ clean M' N' ∧ i ≤ l.length ∧ M' g = some (.cells 84 [.slice none 0 0, dv] 2) ∧ own M' (g + 1) 74 2 dv i rows.flatten ∧ rowsF (dimD F') 2 rows (l.take i)) (fun i => l.length - i) 0 rfl
    (fun hw2 => ⟨_, wk_refl hw2, F, _, g + 1, .slice none 0 0, [], rfl, subF.refl _, Nat.lt_succ_self _, fun q hq => upd_ne _ _ (by omega), (hm.up hN1).new hg _, Nat.zero_le _, upd_same _ _ _, own.nil, rowsF.nil _ _⟩) (fun kk i j h1 hI hw2 next => ?_)
  rw [t13_1_1_1_0_1_0_0]
  obtain ⟨F1, M1, N2, dv, rows, rfl, hF1, hgN, hM1, hm1, hi, hbox, ho, hr⟩ := hI
  obtain ⟨da, dc, hdf, _⟩ := ho.form
  refine lss_r (fun hlt => ?_) (fun hge => ?_)
  · have i1 : i < l.length := by omega
    try simp only [sS]
    refine row_r (hv1.mono hF1) (hv2.mono fun _ _ h => h.mono hF1) (by decide) i1 (fun p r _ hR hrl hr1 => ?_)
    obtain ⟨kv, hre, hkv, hkl⟩ := hR
    subst hre
    refine nw_r (fun b1 hb1 => ?_)
    refine stM (cs' := [.int .i64 l[i].1, kv]) ?_ (upd_same _ _ _) rfl rfl hr1
    rw [upd_upd]
    have hb2 := upd_same M1 b1 (some (.cells 74 [.int .i64 l[i].1, kv] [Value.int .i64 0, Value.slice none 0 0].length))
    have hg2 := (upd_ne M1 (b := b1) (k := g) (some (.cells 74 [.int .i64 l[i].1, kv] [Value.int .i64 0, Value.slice none 0 0].length)) (by omega)).trans hbox
    have hM2 : ∀ q, q < N → upd M1 b1 (some (.cells 74 [.int .i64 l[i].1, kv] [Value.int .i64 0, Value.slice none 0 0].length)) q = M q := fun q hq => (upd_ne _ _ (by omega)).trans (hM1 q hq)
    have ho2 := ho.box hm1 hb1 (some (.cells 74 [.int .i64 l[i].1, kv] [Value.int .i64 0, Value.slice none 0 0].length))
    have hm2 := hm1.new hb1 (some (.cells 74 [.int .i64 l[i].1, kv] [Value.int .i64 0, Value.slice none 0 0].length))
    generalize upd M1 b1 _ = M2 at *
    try simp only [sS]
    refine ldM (v := dv) ?_ hg2
    try simp only [sS]
    refine ldM (v := .int .i64 l[i].1) ?_ hb2
    try simp only [sS]
    refine ldM (v := kv) ?_ hb2
    have hdl := okDim_div (okDims_all hok _ (List.getElem_mem i1))
    refine clone_f hm2 hkv.sR (by omega) (fun kv' F3 N3 hw3 hF3 hN3 hkv' => ?_)
    refine ⟨ldV_c (row_M hb2) rfl, ldV_c (row_M hg2) rfl, ?_⟩
    have h1f : dimD F3 [.int .i64 l[i].1, kv'] l[i] := ⟨kv', rfl, hkv', hkl⟩
    obtain ⟨ak, ck, hkf, hck⟩ := hkv'.form
    refine pv_r (v := .agg #[.int .i64 l[i].1, kv']) (by rw [hkf]; kernel_rfl) ?_
    refine nws_r (cs := [.int .i64 l[i].1, kv']) (by rw [hkf]; kernel_rfl) (fun b4 hb4 => ?_)
    have hg4 := (upd_ne M2 (b := b4) (k := g) (some (.cells 74 [.int .i64 l[i].1, kv'] [Value.int .i64 l[i].1, kv'].length)) (by omega)).trans hg2
    have hM4 : ∀ q, q < N → upd M2 b4 (some (.cells 74 [.int .i64 l[i].1, kv'] [Value.int .i64 l[i].1, kv'].length)) q = M q := fun q hq => (upd_ne _ _ (by omega)).trans (hM2 q hq)
    have hm3 : clean M2 N3 := hw3.m
    have ho4 := ho2.box hm3 hb4 (some (.cells 74 [.int .i64 l[i].1, kv'] [Value.int .i64 l[i].1, kv'].length))
    have hm4 := hm3.new hb4 (some (.cells 74 [.int .i64 l[i].1, kv'] [Value.int .i64 l[i].1, kv'].length))
    have hx := upd_same M2 b4 (some (.cells 74 [.int .i64 l[i].1, kv'] [Value.int .i64 l[i].1, kv'].length))
    refine ⟨ldV_c (row_M hg4) rfl, ?_⟩
    generalize upd M2 b4 _ = M4 at *
    refine ho4.app (m := 1) (news := [.int .i64 l[i].1, kv']) hm4 (by omega) ⟨rfl, .inr ⟨b4, 0, 1, _, rfl, Nat.le_refl _, .inr ⟨_, _, hx⟩, rfl⟩⟩ h1f.one.2 (by omega) (by unfold maxLen; omega) (fun dv' M5 N5 g1 g2 g3 g4 => ?_)
    have hgd : dv.ownBlock ≠ some g := fun e => by have := (ho4.ge g e).1; omega
    obtain ⟨y1, y2⟩ := g2 g hgd (by omega)
    obtain ⟨a5, c5, e5, _⟩ := g1.form
    try simp only [sS]
    refine stM (cs' := [.slice none 0 0, dv']) ?_ (y1.trans hg4) (by rw [e5]; rfl) (by rw [e5]; rfl) (by rw [e5]; exact List.all_eq_true.1 rfl)
    refine inc_r (by omega) ?_
    refine next (i + 1) _ _ (by omega) (fun hw6 => ⟨_, wk_refl hw6, F3, _, N5, dv', rows ++ [[.int .i64 l[i].1, kv']], rfl, hF1.trans hF3, by omega, fun q hq => ?_, g4.set (by omega) _, i1, upd_same _ _ _, ?_, ?_⟩)
    · exact (upd_ne _ _ (by omega)).trans (((g2 q (fun e => by have := (ho4.ge q e).1; omega) (by omega)).1).trans (hM4 q hq))
    · refine own.keep (M := M5) ?_ (fun q hq => upd_ne _ _ (fun e => y2 (e ▸ hq))) (Nat.le_refl _)
      simpa using g1
    · rw [List.take_add_one, List.getElem?_eq_getElem i1, Option.toList_some]
      exact rowsF_snoc1 (hr.mono fun _ _ h => h.mono hF3) h1f.one h1f
  · try simp only [sS]
    rw [show i = l.length by omega] at ho
    rw [List.take_of_length_le (by omega)] at hr
    have hne : ¬ dv.ownBlock = some g := fun e => by have := (ho.ge g e).1; omega
    refine fun hc => ⟨_, wk_P (p := fun q => dv.ownBlock = some q) hc, fun hw' => k2 hok g dv _ _ N2 (hF1.trans (subF_frzP hc)) ⟨(keepM_in hne).trans hbox, by omega, own.nil, rowsF.nil _ _, by simp [Value.ownBlock], ⟨rows, ho.frzP (fun q h => h), hr.mono fun _ _ h => h.mono (subF_frzP hc)⟩, .nil⟩ (fun q hq => (keepM_in (fun e => by have := (ho.ge q e).1; omega)).trans (hM1 q hq)) (by omega) (keepM_clean hm1) hw'⟩
end Go.Proofs.YtgjdjdjhoipfmaaGreatDoor.A
open Go Go.RowKit Go.Proofs.YtgjdjdjhoipfmaaGreatDoor.K
set_option linter.unusedVariables false
set_option maxRecDepth 100000
namespace Go.Proofs.YtgjdjdjhoipfmaaGreatDoor.T
theorem q0 (Q : QD) (x0 x1 x2 : Value) : den Tryz.prog (sel (bodyOf Tryz.f17) [0]) Q #[x0, x1, x2, undef, undef, undef, undef, undef, undef, undef, undef, undef, undef, undef, undef, undef, undef, undef, undef, undef, undef, undef, undef, undef, undef, undef, undef, undef, undef, undef, undef, undef, undef, undef, undef, undef, undef, undef, undef, undef, undef, undef, undef, undef, undef, undef, undef, undef, undef, undef, undef] = nw 36 (Value.cells x1).toList fun t1 => Q .normal #[x0, x1, x2, undef, t1, undef, (.slice none 0 0), (.int .u16 0), undef, undef, undef, undef, undef, undef, undef, undef, undef, undef, undef, undef, undef, undef, undef, undef, undef, undef, undef, undef, undef, undef, undef, undef, undef, undef, undef, undef, undef, undef, undef, undef, undef, undef, undef, undef, undef, undef, undef, undef, undef, undef, undef] := by kernel_rfl
theorem q1 (Q : QD) (x0 x1 x2 t1 : Value) : den Tryz.prog (sel (bodyOf Tryz.f17) [1, 0]) Q #[x0, x1, x2, undef, t1, undef, (.slice none 0 0), (.int .u16 0), undef, undef, undef, undef, undef, undef, undef, undef, undef, undef, undef, undef, undef, undef, undef, undef, undef, undef, undef, undef, undef, undef, undef, undef, undef, undef, undef, undef, undef, undef, undef, undef, undef, undef, undef, undef, undef, undef, undef, undef, undef, undef, undef] = pv (nilV x0) fun t2 => pv (faV 0 t2) fun t3 => ld false 1 t3 fun t4 => callv Tryz.prog (.func (.func 33) #[] #[]) #[t4, x2] (fun t5 => pv (exV 0 t5) fun t6 => pv (exV 1 t5) fun t7 => Q .normal #[x0, x1, x2, undef, t1, undef, (.slice none 0 0), (.int .u16 0), t6, t7, undef, undef, undef, t5, x0, t2, t3, t4, x2, t5, t6, t7, undef, undef, undef, undef, undef, undef, undef, undef, undef, undef, undef, undef, undef, undef, undef, undef, undef, undef, undef, undef, undef, undef, undef, undef, undef, undef, undef, undef, undef]) (fun c => Q (.panic c) #[x0, x1, x2, undef, t1, undef, (.slice none 0 0), (.int .u16 0), undef, undef, undef, undef, undef, undef, x0, t2, t3, t4, x2, undef, undef, undef, undef, undef, undef, undef, undef, undef, undef, undef, undef, undef, undef, undef, undef, undef, undef, undef, undef, undef, undef, undef, undef, undef, undef, undef, undef, undef, undef, undef, undef]) := by kernel_rfl
theorem q2 (Q : QD) (x0 x1 x2 t1 t2 t3 t4 t5 t6 t7 : Value) : den Tryz.prog (sel (bodyOf Tryz.f17) [1, 1, 0]) Q #[x0, x1, x2, undef, t1, undef, (.slice none 0 0), (.int .u16 0), t6, t7, undef, undef, undef, t5, x0, t2, t3, t4, x2, t5, t6, t7, undef, undef, undef, undef, undef, undef, undef, undef, undef, undef, undef, undef, undef, undef, undef, undef, undef, undef, undef, undef, undef, undef, undef, undef, undef, undef, undef, undef, undef] = cnd t7 (pv (binV .none .add t6 (.int .i64 1)) fun t8 => Q .normal #[x0, x1, x2, undef, t1, undef, (.slice none 0 0), (.int .u16 0), t8, t7, undef, undef, undef, t5, x0, t2, t3, t4, x2, t5, t6, t7, t7, t6, t8, undef, undef, undef, undef, undef, undef, undef, undef, undef, undef, undef, undef, undef, undef, undef, undef, undef, undef, undef, undef, undef, undef, undef, undef, undef, undef]) (Q .normal #[x0, x1, x2, undef, t1, undef, (.slice none 0 0), (.int .u16 0), t6, t7, undef, undef, undef, t5, x0, t2, t3, t4, x2, t5, t6, t7, t7, undef, undef, undef, undef, undef, undef, undef, undef, undef, undef, undef, undef, undef, undef, undef, undef, undef, undef, undef, undef, undef, undef, undef, undef, undef, undef, undef, undef]) := by kernel_rfl
theorem t17 (K : Kont) (E : PanK) (x0 x1 x2 : Value)  : den Tryz.prog (sel (bodyOf Tryz.f17) []) (bodyQ Tryz.prog Tryz.f17.results.toList K E) #[x0, x1, x2, undef, undef, undef, undef, undef, undef, undef, undef, undef, undef, undef, undef, undef, undef, undef, undef, undef, undef, undef, undef, undef, undef, undef, undef, undef, undef, undef, undef, undef, undef, undef, undef, undef, undef, undef, undef, undef, undef, undef, undef, undef, undef, undef, undef, undef, undef, undef, undef] =
  nw 36 (Value.cells x1).toList fun t1 =>
  pv (nilV x0) fun t2 =>
  pv (faV 0 t2) fun t3 =>
  ld false 1 t3 fun t4 =>
  callv Tryz.prog (.func (.func 33) #[] #[]) #[t4, x2] (fun t5 =>
  pv (exV 0 t5) fun t6 =>
  pv (exV 1 t5) fun t7 =>
  cnd t7 (
    pv (binV .none .add t6 (.int .i64 1)) fun t8 =>
    den Tryz.prog (sel (bodyOf Tryz.f17) [1, 1, 1]) (bodyQ Tryz.prog Tryz.f17.results.toList K E) #[x0, x1, x2, undef, t1, undef, (.slice none 0 0), (.int .u16 0), t8, t7, undef, undef, undef, t5, x0, t2, t3, t4, x2, t5, t6, t7, t7, t6, t8, undef, undef, undef, undef, undef, undef, undef, undef, undef, undef, undef, undef, undef, undef, undef, undef, undef, undef, undef, undef, undef, undef, undef, undef, undef, undef]) (
    den Tryz.prog (sel (bodyOf Tryz.f17) [1, 1, 1]) (bodyQ Tryz.prog Tryz.f17.results.toList K E) #[x0, x1, x2, undef, t1, undef, (.slice none 0 0), (.int .u16 0), t6, t7, undef, undef, undef, t5, x0, t2, t3, t4, x2, t5, t6, t7, t7, undef, undef, undef, undef, undef, undef, undef, undef, undef, undef, undef, undef, undef, undef, undef, undef, undef, undef, undef, undef, undef, undef, undef, undef, undef, undef, undef, undef])) E := by
  refine (show _ = den Tryz.prog (sel (bodyOf Tryz.f17) [0]) (thenD (den Tryz.prog (sel (bodyOf Tryz.f17) [1]) (bodyQ Tryz.prog Tryz.f17.results.toList K E)) (bodyQ Tryz.prog Tryz.f17.results.toList K E)) #[x0, x1, x2, undef, undef, undef, undef, undef, undef, undef, undef, undef, undef, undef, undef, undef, undef, undef, undef, undef, undef, undef, undef, undef, undef, undef, undef, undef, undef, undef, undef, undef, undef, undef, undef, undef, undef, undef, undef, undef, undef, undef, undef, undef, undef, undef, undef, undef, undef, undef, undef] from by kernel_rfl).trans ?_
  rw [q0]
  refine congrArg (nw 36 (Value.cells x1).toList) (funext fun t1 => ?_)
  show den Tryz.prog (sel (bodyOf Tryz.f17) [1]) (bodyQ Tryz.prog Tryz.f17.results.toList K E) #[x0, x1, x2, undef, t1, undef, (.slice none 0 0), (.int .u16 0), undef, undef, undef, undef, undef, undef, undef, undef, undef, undef, undef, undef, undef, undef, undef, undef, undef, undef, undef, undef, undef, undef, undef, undef, undef, undef, undef, undef, undef, undef, undef, undef, undef, undef, undef, undef, undef, undef, undef, undef, undef, undef, undef] = _
  refine (show _ = den Tryz.prog (sel (bodyOf Tryz.f17) [1, 0]) (thenD (den Tryz.prog (sel (bodyOf Tryz.f17) [1, 1]) (bodyQ Tryz.prog Tryz.f17.results.toList K E)) (bodyQ Tryz.prog Tryz.f17.results.toList K E)) #[x0, x1, x2, undef, t1, undef, (.slice none 0 0), (.int .u16 0), undef, undef, undef, undef, undef, undef, undef, undef, undef, undef, undef, undef, undef, undef, undef, undef, undef, undef, undef, undef, undef, undef, undef, undef, undef, undef, undef, undef, undef, undef, undef, undef, undef, undef, undef, undef, undef, undef, undef, undef, undef, undef, undef] from by kernel_rfl).trans ?_
  rw [q1]
  refine congrArg (pv (nilV x0)) (funext fun t2 => congrArg (pv (faV 0 t2)) (funext fun t3 => congrArg (ld false 1 t3) (funext fun t4 => ?_)))
  refine congrArg (fun X => callv Tryz.prog (.func (.func 33) #[] #[]) #[t4, x2] X E) (funext fun t5 => congrArg (pv (exV 0 t5)) (funext fun t6 => congrArg (pv (exV 1 t5)) (funext fun t7 => ?_)))
  show den Tryz.prog (sel (bodyOf Tryz.f17) [1, 1]) (bodyQ Tryz.prog Tryz.f17.results.toList K E) #[x0, x1, x2, undef, t1, undef, (.slice none 0 0), (.int .u16 0), t6, t7, undef, undef, undef, t5, x0, t2, t3, t4, x2, t5, t6, t7, undef, undef, undef, undef, undef, undef, undef, undef, undef, undef, undef, undef, undef, undef, undef, undef, undef, undef, undef, undef, undef, undef, undef, undef, undef, undef, undef, undef, undef] = _
  refine (show _ = den Tryz.prog (sel (bodyOf Tryz.f17) [1, 1, 0]) (thenD (den Tryz.prog (sel (bodyOf Tryz.f17) [1, 1, 1]) (bodyQ Tryz.prog Tryz.f17.results.toList K E)) (bodyQ Tryz.prog Tryz.f17.results.toList K E)) #[x0, x1, x2, undef, t1, undef, (.slice none 0 0), (.int .u16 0), t6, t7, undef, undef, undef, t5, x0, t2, t3, t4, x2, t5, t6, t7, undef, undef, undef, undef, undef, undef, undef, undef, undef, undef, undef, undef, undef, undef, undef, undef, undef, undef, undef, undef, undef, undef, undef, undef, undef, undef, undef, undef, undef] from by kernel_rfl).trans ?_
  rw [q2]
  rfl
theorem t17_1_1_1 (K : Kont) (E : PanK) (x0 x1 x2 x3 x4 x5 x6 x7 x8 x9 x10 x11 x12 x13 x14 x15 x16 x17 x18 x19 x20 x21 x22 x23 x24 x25 x26 x27 x28 x29 x30 x31 x32 x33 x34 x35 x36 x37 x38 x39 x40 x41 x42 x43 x44 x45 x46 x47 x48 x49 x50 : Value)  : den Tryz.prog (sel (bodyOf Tryz.f17) [1, 1, 1]) (bodyQ Tryz.prog Tryz.f17.results.toList K E) #[x0, x1, x2, x3, x4, x5, x6, x7, x8, x9, x10, x11, x12, x13, x14, x15, x16, x17, x18, x19, x20, x21, x22, x23, x24, x25, x26, x27, x28, x29, x30, x31, x32, x33, x34, x35, x36, x37, x38, x39, x40, x41, x42, x43, x44, x45, x46, x47, x48, x49, x50] =
  pv (nilV x0) fun t1 =>
  pv (faV 0 t1) fun t2 =>
  ld false 1 t2 fun t3 =>
  pv (slV 2 t3 none (some x8) none) fun t4 =>
  pv (lenV t4) fun t5 =>
  lp (fun k1 => den Tryz.prog (sel (bodyOf Tryz.f17) [1, 1, 1, 1, 0, 1, 0, 0]) (thenD k1 (blk 0 (thenD (den Tryz.prog (sel (bodyOf Tryz.f17) [1, 1, 1, 1, 1]) (bodyQ Tryz.prog Tryz.f17.results.toList K E)) (bodyQ Tryz.prog Tryz.f17.results.toList K E))))) #[x0, x1, x2, x3, x4, x5, x6, x7, x8, x9, (.slice none 0 0), x11, x12, x13, x14, x15, x16, x17, x18, x19, x20, x21, x22, x23, x24, x0, t1, t2, t3, x8, t4, t5, (.int .i64 0), x33, x34, x35, x36, x37, x38, x39, x40, x41, x42, x43, x44, x45, x46, x47, x48, x49, x50] := by kernel_rfl
def m17_1_1_1_1_0_1_0_0 (x0 x1 x2 x3 x4 x5 x6 x7 x8 x9 x11 x13 x14 x15 x16 x17 x18 x19 x20 x21 x22 x23 x24 x25 x26 x27 x28 x29 x30 x31 x41 x42 x43 x44 x45 x46 x47 x48 x49 x50 : Value) (v10 v32 : Value) (j : Nat → Value) : Env := #[x0, x1, x2, x3, x4, x5, x6, x7, x8, x9, v10, x11, (j 12), x13, x14, x15, x16, x17, x18, x19, x20, x21, x22, x23, x24, x25, x26, x27, x28, x29, x30, x31, v32, (j 33), (j 34), (j 35), (j 36), (j 37), (j 38), (j 39), (j 40), x41, x42, x43, x44, x45, x46, x47, x48, x49, x50]
theorem t17_1_1_1_1_0_1_0_0 (K : Kont) (E : PanK) (k1 : Env → Hp → Prop) (x0 x1 x2 x3 x4 x5 x6 x7 x8 x9 x11 x13 x14 x15 x16 x17 x18 x19 x20 x21 x22 x23 x24 x25 x26 x27 x28 x29 x30 x31 x41 x42 x43 x44 x45 x46 x47 x48 x49 x50 v10 v32 : Value) (j : Nat → Value) : den Tryz.prog (sel (bodyOf Tryz.f17) [1, 1, 1, 1, 0, 1, 0, 0]) (thenD k1 (blk 0 (thenD (den Tryz.prog (sel (bodyOf Tryz.f17) [1, 1, 1, 1, 1]) (bodyQ Tryz.prog Tryz.f17.results.toList K E)) (bodyQ Tryz.prog Tryz.f17.results.toList K E)))) (m17_1_1_1_1_0_1_0_0 x0 x1 x2 x3 x4 x5 x6 x7 x8 x9 x11 x13 x14 x15 x16 x17 x18 x19 x20 x21 x22 x23 x24 x25 x26 x27 x28 x29 x30 x31 x41 x42 x43 x44 x45 x46 x47 x48 x49 x50 v10 v32 j) =
  pv (binV .none .lss v32 x31) fun t1 =>
  cnd t1 (
    pv (iaV none 2 x30 v32) fun t2 =>
    ld true 2 t2 fun t3 =>
    nw 52 [(.int .u32 0), (.slice none 0 0)] fun t4 =>
    st 2 t4 t3 fun _ =>
    pv (faV 1 t4) fun t5 =>
    ld false 1 t5 fun t6 =>
    appX 48 2 32 v10 t6 fun t7 =>
    pv (binV .none .add v32 (.int .i64 1)) fun t8 =>
    k1 (m17_1_1_1_1_0_1_0_0 x0 x1 x2 x3 x4 x5 x6 x7 x8 x9 x11 x13 x14 x15 x16 x17 x18 x19 x20 x21 x22 x23 x24 x25 x26 x27 x28 x29 x30 x31 x41 x42 x43 x44 x45 x46 x47 x48 x49 x50 t7 t8 (jf #[x0, x1, x2, x3, x4, x5, x6, x7, x8, x9, t7, x11, t4, x13, x14, x15, x16, x17, x18, x19, x20, x21, x22, x23, x24, x25, x26, x27, x28, x29, x30, x31, t8, t1, t2, t3, v10, t5, t6, t7, t8, x41, x42, x43, x44, x45, x46, x47, x48, x49, x50]))) (
    den Tryz.prog (sel (bodyOf Tryz.f17) [1, 1, 1, 1, 1]) (bodyQ Tryz.prog Tryz.f17.results.toList K E) #[x0, x1, x2, x3, x4, x5, x6, x7, x8, x9, v10, x11, (j 12), x13, x14, x15, x16, x17, x18, x19, x20, x21, x22, x23, x24, x25, x26, x27, x28, x29, x30, x31, v32, t1, (j 34), (j 35), (j 36), (j 37), (j 38), (j 39), (j 40), x41, x42, x43, x44, x45, x46, x47, x48, x49, x50]) := by kernel_rfl
theorem t17_1_1_1_1_1 (K : Kont) (E : PanK) (x0 x1 x2 x3 x4 x5 x6 x7 x8 x9 x10 x11 x12 x13 x14 x15 x16 x17 x18 x19 x20 x21 x22 x23 x24 x25 x26 x27 x28 x29 x30 x31 x32 x33 x34 x35 x36 x37 x38 x39 x40 x41 x42 x43 x44 x45 x46 x47 x48 x49 x50 : Value)  : den Tryz.prog (sel (bodyOf Tryz.f17) [1, 1, 1, 1, 1]) (bodyQ Tryz.prog Tryz.f17.results.toList K E) #[x0, x1, x2, x3, x4, x5, x6, x7, x8, x9, x10, x11, x12, x13, x14, x15, x16, x17, x18, x19, x20, x21, x22, x23, x24, x25, x26, x27, x28, x29, x30, x31, x32, x33, x34, x35, x36, x37, x38, x39, x40, x41, x42, x43, x44, x45, x46, x47, x48, x49, x50] =
  pv (nilV x0) fun t1 =>
  pv (faV 1 t1) fun t2 =>
  ld false 1 t2 fun t3 =>
  ld true 3 x4 fun t4 =>
  callv Tryz.prog (.func (.func 38) #[] #[]) #[x10] (fun t5 h6 => (ldV h6 true 3 x4 t4) ∧ (ldV h6 false 1 t2 t3) ∧ (
    callv Tryz.prog (.func (.func 37) #[] #[]) #[t3, t5, t4] (fun t7 =>
    pv (exV 0 t7) fun t8 =>
    pv (exV 1 t7) fun t9 =>
    K (.tuple #[t8, t9])) E) h6) E := by kernel_rfl
theorem l17_1_1_1_1_0_1_0_0 {K : Kont} {E : PanK} {σ : Type} {x0 x1 x2 x3 x4 x5 x6 x7 x8 x9 x11 x13 x14 x15 x16 x17 x18 x19 x20 x21 x22 x23 x24 x25 x26 x27 x28 x29 x30 x31 x41 x42 x43 x44 x45 x46 x47 x48 x49 x50 v10 v32 y12 y33 y34 y35 y36 y37 y38 y39 y40 : Value} {h : Hp} (f10 f32 : σ → Value) (I : σ → Hp → Prop) (μ : σ → Nat) (s0 : σ) (e10 : v10 = f10 s0) (e32 : v32 = f32 s0) (h0 : h.wf → ∃ h', h.wk h' ∧ I s0 h')
  (round : ∀ (k1 : Env → Hp → Prop) (s : σ) (j : Nat → Value) (h : Hp), I s h → h.wf → (∀ s' j' h', μ s' < μ s → (h'.wf → ∃ h'', h'.wk h'' ∧ I s' h'') → k1 (m17_1_1_1_1_0_1_0_0 x0 x1 x2 x3 x4 x5 x6 x7 x8 x9 x11 x13 x14 x15 x16 x17 x18 x19 x20 x21 x22 x23 x24 x25 x26 x27 x28 x29 x30 x31 x41 x42 x43 x44 x45 x46 x47 x48 x49 x50 (f10 s') (f32 s') j') h') → (
  pv (binV .none .lss (f32 s) x31) fun t1 =>
  cnd t1 (
    pv (iaV none 2 x30 (f32 s)) fun t2 =>
    ld true 2 t2 fun t3 =>
    nw 52 [(.int .u32 0), (.slice none 0 0)] fun t4 =>
    st 2 t4 t3 fun _ =>
    pv (faV 1 t4) fun t5 =>
    ld false 1 t5 fun t6 =>
    appX 48 2 32 (f10 s) t6 fun t7 =>
    pv (binV .none .add (f32 s) (.int .i64 1)) fun t8 =>
    k1 (m17_1_1_1_1_0_1_0_0 x0 x1 x2 x3 x4 x5 x6 x7 x8 x9 x11 x13 x14 x15 x16 x17 x18 x19 x20 x21 x22 x23 x24 x25 x26 x27 x28 x29 x30 x31 x41 x42 x43 x44 x45 x46 x47 x48 x49 x50 t7 t8 (jf #[x0, x1, x2, x3, x4, x5, x6, x7, x8, x9, t7, x11, t4, x13, x14, x15, x16, x17, x18, x19, x20, x21, x22, x23, x24, x25, x26, x27, x28, x29, x30, x31, t8, t1, t2, t3, (f10 s), t5, t6, t7, t8, x41, x42, x43, x44, x45, x46, x47, x48, x49, x50]))) (
    den Tryz.prog (sel (bodyOf Tryz.f17) [1, 1, 1, 1, 1]) (bodyQ Tryz.prog Tryz.f17.results.toList K E) #[x0, x1, x2, x3, x4, x5, x6, x7, x8, x9, (f10 s), x11, (j 12), x13, x14, x15, x16, x17, x18, x19, x20, x21, x22, x23, x24, x25, x26, x27, x28, x29, x30, x31, (f32 s), t1, (j 34), (j 35), (j 36), (j 37), (j 38), (j 39), (j 40), x41, x42, x43, x44, x45, x46, x47, x48, x49, x50])) h) :
  lp (fun k1 => den Tryz.prog (sel (bodyOf Tryz.f17) [1, 1, 1, 1, 0, 1, 0, 0]) (thenD k1 (blk 0 (thenD (den Tryz.prog (sel (bodyOf Tryz.f17) [1, 1, 1, 1, 1]) (bodyQ Tryz.prog Tryz.f17.results.toList K E)) (bodyQ Tryz.prog Tryz.f17.results.toList K E))))) #[x0, x1, x2, x3, x4, x5, x6, x7, x8, x9, v10, x11, y12, x13, x14, x15, x16, x17, x18, x19, x20, x21, x22, x23, x24, x25, x26, x27, x28, x29, x30, x31, v32, y33, y34, y35, y36, y37, y38, y39, y40, x41, x42, x43, x44, x45, x46, x47, x48, x49, x50] h := by
  subst e10
  subst e32
  have e : (#[x0, x1, x2, x3, x4, x5, x6, x7, x8, x9, (f10 s0), x11, y12, x13, x14, x15, x16, x17, x18, x19, x20, x21, x22, x23, x24, x25, x26, x27, x28, x29, x30, x31, (f32 s0), y33, y34, y35, y36, y37, y38, y39, y40, x41, x42, x43, x44, x45, x46, x47, x48, x49, x50] : Env) = m17_1_1_1_1_0_1_0_0 x0 x1 x2 x3 x4 x5 x6 x7 x8 x9 x11 x13 x14 x15 x16 x17 x18 x19 x20 x21 x22 x23 x24 x25 x26 x27 x28 x29 x30 x31 x41 x42 x43 x44 x45 x46 x47 x48 x49 x50 (f10 s0) (f32 s0) (jf #[x0, x1, x2, x3, x4, x5, x6, x7, x8, x9, (f10 s0), x11, y12, x13, x14, x15, x16, x17, x18, x19, x20, x21, x22, x23, x24, x25, x26, x27, x28, x29, x30, x31, (f32 s0), y33, y34, y35, y36, y37, y38, y39, y40, x41, x42, x43, x44, x45, x46, x47, x48, x49, x50]) := by kernel_rfl
  rw [e]
  exact loop_r (fun s j => m17_1_1_1_1_0_1_0_0 x0 x1 x2 x3 x4 x5 x6 x7 x8 x9 x11 x13 x14 x15 x16 x17 x18 x19 x20 x21 x22 x23 x24 x25 x26 x27 x28 x29 x30 x31 x41 x42 x43 x44 x45 x46 x47 x48 x49 x50 (f10 s) (f32 s) j) I μ (fun k s j h hI hw next => by rw [t17_1_1_1_1_0_1_0_0]; exact round k s j h hI hw next) s0 (jf #[x0, x1, x2, x3, x4, x5, x6, x7, x8, x9, (f10 s0), x11, y12, x13, x14, x15, x16, x17, x18, x19, x20, x21, x22, x23, x24, x25, x26, x27, x28, x29, x30, x31, (f32 s0), y33, y34, y35, y36, y37, y38, y39, y40, x41, x42, x43, x44, x45, x46, x47, x48, x49, x50]) h0
end Go.Proofs.YtgjdjdjhoipfmaaGreatDoor.T
open Go Go.RowKit Go.Proofs.YtgjdjdjhoipfmaaGreatDoor.K Go.Proofs.YtgjdjdjhoipfmaaGreatDoor.T
set_option linter.unusedVariables false
set_option linter.unusedSimpArgs false
namespace Go.Proofs.YtgjdjdjhoipfmaaGreatDoor.A
variable {F F' : Nat → Option (List Value)} {M M' : Nat → Option Chunk} {N N' : Nat} {K : Kont} {E : PanK}
theorem opre_r {B n : Nat} {v : Value} {len : Nat} {rows : List (List Value)} {K : Kont} (hv : own M B 52 2 v len rows.flatten) (hlen : rows.length = len) (hl : ∀ q ∈ rows, q.length = 2) (hn : n ≤ len) (k : ∀ w, own M B 52 2 w n (rows.take n).flatten → K w ⟨F, M, N⟩) :
    pv (slV 2 v none (some (.int .i64 (n : Nat))) none) K ⟨F, M, N⟩ := by
  have hfl : (rows.take n).flatten.length = n * 2 := by
    rw [flatten_len _ (fun q hq => hl q (List.mem_of_mem_take hq)), List.length_take, hlen, Nat.min_eq_left hn]
  rcases hv.2 with ⟨rfl, h0⟩ | ⟨b, c, rest, rfl, h1, h2, h3, h4⟩
  · have hn0 : n = 0 := by omega
    subst hn0
    refine sl_r 0 0 0 (Nat.le_refl _) (Nat.le_refl _) (Nat.le_refl _) ?_
    exact k _ ⟨by simp, .inl ⟨rfl, rfl⟩⟩
  · refine sl_pre n (by omega) ?_
    refine k _ ⟨hfl, .inr ⟨b, c, (rows.drop n).flatten ++ rest, rfl, by omega, h2, h3, ?_⟩⟩
    rw [h4, ← List.append_assoc, ← List.flatten_append, List.take_append_drop]
def upTo (h : List En) (t : Int) : Nat := place h t + (if there h t = true then 1 else 0)
def allAt (h : List En) (t : Int) : List Fc := ((h.take (upTo h t)).map (·.2)).flatten
theorem upTo_le (h : List En) (t : Int) : upTo h t ≤ h.length := by
  have := place_le h t
  unfold upTo
  split
  · rename_i ht
    rcases Nat.lt_or_ge (place h t) h.length with h1 | h1
    · omega
    · rw [there_out (by omega)] at ht; cases ht
  · omega
end Go.Proofs.YtgjdjdjhoipfmaaGreatDoor.A
open Go Go.RowKit Go.Proofs.YtgjdjdjhoipfmaaGreatDoor.K Go.Proofs.YtgjdjdjhoipfmaaGreatDoor.T
set_option linter.unusedVariables false
set_option linter.unusedSimpArgs false
namespace Go.Proofs.YtgjdjdjhoipfmaaGreatDoor.A
variable {F F' : Nat → Option (List Value)} {M M' : Nat → Option Chunk} {N N' : Nat} {K : Kont} {E : PanK}
def allI (h : List En) (i : Nat) : List Fc := ((h.take i).map (·.2)).flatten
theorem allI_succ {h : List En} {i : Nat} (hi : i < h.length) : allI h (i + 1) = allI h i ++ h[i].2 := by
  unfold allI
  rw [List.take_add_one, List.getElem?_eq_getElem hi, Option.toList_some, List.map_append, List.flatten_append]; simp
theorem allI_le (h : List En) (i : Nat) : (allI h i).length ≤ ((h.map (·.2)).flatten).length := by
  have e : h.map (·.2) = (h.take i).map (·.2) ++ (h.drop i).map (·.2) := by rw [← List.map_append, List.take_append_drop]
  rw [e, List.flatten_append, List.length_append]
  unfold allI; omega
set_option maxRecDepth 10000 in
theorem cquery_c {B g : Nat} {hv dv : Value} {cs : List Value} {rows : List (List Value)} {l : List Dm} {h : List En} {t : Int} {m lo hi : List Int} (hC : isCube F M B g hv dv rows l h) (hdl : l.length ≤ 140737488351232) (hl : h.length ≤ 5000) (hT : ((h.map (·.2)).flatten).length ≤ 1000000) (hk : ∀ e ∈ h, ∀ f ∈ e.2, okK f.1) (hq : queryD F cs m lo hi) (hmi : ∀ x ∈ m, i64 x) (hok : ∀ r ∈ tab ((allI h (upTo h t)).map fr1), okK r.1)
    (k : ∀ v' F' N', (Hp.mk F' M N').wf → subF F F' → N ≤ N' → tblD F' v' (runT l (tab ((allI h (upTo h t)).map fr1)) m lo hi) → K (.tuple #[v', .int .u16 ((runE l (tab ((allI h (upTo h t)).map fr1)) m lo hi : Nat) : Int)]) ⟨F', M, N'⟩) :
    callv Tryz.prog (.func (.func 17) #[] #[]) #[.pointer (some ⟨g, 0, none⟩), .agg cs.toArray, .int .u32 t] K E ⟨F, M, N⟩ := by
  refine callv_of_text mixed Tryz.func17 (by kernel_rfl) (t17 _ E _ _ _) (fun hw => ?_)
  have hm : clean M N := hw.m
  have hq' := hq
  obtain ⟨a, b, c, rfl, ha, hb, hc, hml, hlol, hhil⟩ := hq'
  have hgN := hm.lt hC.gg
  have hup := upTo_le h t
  refine nw_r (cs := [a, b, c]) (fun b1 hb1 => ?_)
  have hbox := upd_same M b1 (some (.cells 36 [a, b, c] 3))
  have hg1 := (upd_ne M (b := b1) (k := g) (some (.cells 36 [a, b, c] 3)) (by omega)).trans hC.gg
  have ho1 := hC.oo.box hm hb1 (some (.cells 36 [a, b, c] 3))
  have hM1 : ∀ q, q < N → upd M b1 (some (.cells 36 [a, b, c] 3)) q = M q := fun q hq => upd_ne _ _ (by omega)
  have go : ∀ x : Value, x = .int .i64 (upTo h t : Nat) → ∀ N1, b1 < N1 → clean (upd M b1 (some (.cells 36 [a, b, c] 3))) N1 → ∀ X : (Value → Hp → Prop) → Hp → Prop, True := fun _ _ _ _ _ _ => trivial
  clear go
  try simp only [sS]
  refine ldM (v := hv) ?_ hg1
  refine find_c ho1 hC.rr hC.rs (by omega) (fun N1 hN1 hw1 => ?_)
  have hm1 : clean (upd M b1 (some (.cells 36 [a, b, c] 3))) N1 := hw1.m
  have hb1N : b1 < N1 := hm1.lt hbox
  generalize upd M b1 _ = M1 at *
  obtain ⟨n, hn⟩ : ∃ n, n = upTo h t := ⟨_, rfl⟩
  have hn2 : upTo h t = place h t + (if there h t = true then 1 else 0) := rfl
  cases hth : there h t
  rotate_left
  rw [hth, if_pos rfl] at hn2
  try simp only [sS]
  refine inc_r (by omega) ?_
  rw [← hn2]
  rw [t17_1_1_1]
  rotate_left
  rw [hth, if_neg (by decide), Nat.add_zero] at hn2
  try simp only [sS]
  rw [← hn2]
  rw [t17_1_1_1]
  all_goals
    clear hn2
    rw [← hn] at hok k hup ⊢
    clear hn
    try simp only [sS]
    refine ldM (v := hv) ?_ hg1
    refine opre_r ho1 hC.rr.all.1 hC.rr.len hup (fun w how => ?_)
    obtain ⟨wa, wc, hwf, _⟩ := how.form
    refine pv_r (v := .int .i64 (n : Nat)) (by rw [hwf]; rfl) ?_
    refine l17_1_1_1_1_0_1_0_0 (σ := Nat × Value) (fun s => s.2) (fun s => .int .i64 (s.1 : Nat))
      (fun s h' => ∃ M' N' frs, h' = ⟨F, M', N'⟩ ∧ N1 ≤ N' ∧ (∀ q, q < N1 → M' q = M1 q) ∧ clean M' N' ∧ s.1 ≤ n ∧ own M' N1 48 2 s.2 (allI h s.1).length frs.flatten ∧ rowsF (fctD F) 2 frs (allI h s.1)) (fun s => n - s.1) (0, .slice none 0 0) rfl rfl
      (fun hw2 => ⟨_, wk_refl hw2, M1, N1, [], rfl, Nat.le_refl _, fun _ _ => rfl, hm1, Nat.zero_le _, own.nil, rowsF.nil _ _⟩) (fun kk s j h1 hI hw2 next => ?_)
    obtain ⟨M2, N2, frs, rfl, hN2, hM2, hm2, hi2, hoa, hra⟩ := hI
    have how2 : own M2 B 52 2 w n (rows.take n).flatten := how.keep (fun q e => hM2 q (how.lt hm1 q e)) (Nat.le_refl _)
    refine lss_r (fun hlt => ?_) (fun hge => ?_)
    · have i1 : s.1 < n := by omega
      have i2 : s.1 < h.length := by omega
      try simp only [sS]
      have htk : (h.take n).length = n := by rw [List.length_take]; omega
      refine orow_r (l := h.take n) (by rw [htk]; exact how2) (rows_take hC.rr n) (by decide) (by omega) fun p r _ hR _ hr1 => ?_
      rw [List.getElem_take] at hR
      obtain ⟨fv, rfl, hfv, hfl⟩ := hR
      refine nw_r (fun b4 hb4 => ?_)
      refine stM (cs' := [.int .u32 h[s.1].1, fv]) ?_ (upd_same _ _ _) rfl rfl hr1
      rw [upd_upd]
      try simp only [sS]
      refine ldM (v := fv) ?_
      obtain ⟨frows, hf1, hf2⟩ := hfv
      have e := allI_succ i2
      have hle := allI_le h (s.1 + 1)
      rw [e, List.length_append] at hle
      refine (hoa.box hm2 hb4 _).app (hm2.new hb4 _) (by omega) hf1.sR hf2.f1 (by omega) (by unfold maxLen; omega) (fun w' M3 N3 h4 h5 h6 h7 => ?_)
      refine inc_r (by omega) ?_
      refine next (s.1 + 1, w') _ _ (by simp only; omega) (fun hw4 => ⟨_, wk_refl hw4, M3, N3, frs ++ frows, rfl, by omega, fun q hq => ?_, h7, i1, ?_, ?_⟩)
      · exact ((h5 q (fun e => by have := (hoa.ge q e).1; omega) (by omega)).1).trans ((upd_ne _ _ (by omega)).trans (hM2 q hq))
      · simp only
        rw [e, List.length_append, List.flatten_append]; exact h4
      · simp only
        rw [e]; exact rows_app hra hf2
    · try simp only [sS]
      rw [t17_1_1_1_1_1]
      rw [show s.1 = n by omega] at hoa hra
      have hgq := (hM2 g (by omega)).trans hg1
      have hbq := (hM2 b1 hb1N).trans hbox
      try simp only [sS]
      refine ldM (v := dv) ?_ hgq
      refine ldMa (vs := [a, b, c]) ?_ hbq
      refine callv_go (fun hc' => ⟨_, wk_P (p := fun q => s.2.ownBlock = some q) hc', ?_⟩)
      have hs9 := subF_frzP (p := fun q => s.2.ownBlock = some q) hc'
      have hfa : fctsD (frzP F M2 (fun q => s.2.ownBlock = some q)) s.2 (allI h n) := ⟨frs, hoa.frzP (fun q h => h), hra.mono fun _ _ h => h.mono hs9⟩
      have hnb : ∀ q, q < N1 → ¬ s.2.ownBlock = some q := fun q hq e => by have := (hoa.ge q e).1; omega
      have hg9 := (keepM_in (M := M2) (p := fun q => ¬ s.2.ownBlock = some q) (hnb g (by omega))).trans hgq
      have hb9 := (keepM_in (M := M2) (p := fun q => ¬ s.2.ownBlock = some q) (hnb b1 hb1N)).trans hbq
      have hM9 : ∀ q, q < N → keepM M2 (fun q => ¬ s.2.ownBlock = some q) q = M q := fun q hq => (keepM_in (hnb q (by omega))).trans ((hM2 q (by omega)).trans (hM1 q hq))
      generalize frzP F M2 _ = F9 at *
      generalize keepM M2 _ = M9 at *
      have hal := allI_le h n
      refine make_c hfa (by omega) (fun f hf => ?_) (fun vt F10 N10 hw10 hF10 hN10 ht => ?_)
      · obtain ⟨x, hx, hfx⟩ := List.mem_flatten.1 hf
        obtain ⟨e, he, rfl⟩ := List.mem_map.1 hx
        exact hk e (List.mem_of_mem_take he) f hfx
      refine ⟨ldV_a (row_M hb9) (by exact Nat.le_of_ble_eq_true rfl) rfl, ldV_c (row_M hg9) rfl, ?_⟩
      have F0A := hs9.trans hF10
      have htl := tab_len ((allI h n).map fr1)
      rw [List.length_map] at htl
      refine run_c (hC.dd.mono F0A) hdl ht (by omega) (hq.mono F0A) hmi (fun r hr => (hok r hr).2) (fun _ r hr => (hok r hr).1) (fun v11 F11 N11 hw11 hF11 hN11 h11 => ?_)
      try simp only [sS]
      exact fun hc => ⟨_, frz_wf hm hM9 hc, fun hw' => k _ _ _ hw' ((F0A.trans hF11).trans (subF_frzAll hc)) (by omega) (h11.mono (subF_frzAll hc))⟩
end Go.Proofs.YtgjdjdjhoipfmaaGreatDoor.A
open Go Go.RowKit Go.Proofs.YtgjdjdjhoipfmaaGreatDoor.K Go.Proofs.YtgjdjdjhoipfmaaGreatDoor.T
set_option linter.unusedVariables false
set_option linter.unusedSimpArgs false
namespace Go.Proofs.YtgjdjdjhoipfmaaGreatDoor.A
variable {F F' : Nat → Option (List Value)} {M M' : Nat → Option Chunk} {N N' : Nat} {K : Kont} {E : PanK}
def inR (a b : Int) (f : Fc) : Bool := decide (0 < f.1.length ∧ a ≤ f.1.getD 0 0 ∧ f.1.getD 0 0 < b)
def atT : List En → Int → List Fc
  | [], _ => []
  | e :: h, t => if e.1 = t then e.2 else atT h t
theorem atT_out : ∀ {h : List En} {t : Int}, (∀ e ∈ h, e.1 ≠ t) → atT h t = []
  | [], _, _ => rfl
  | e :: h, t, hn => by
    unfold atT
    rw [if_neg (hn e List.mem_cons_self)]
    exact atT_out fun x hx => hn x (List.mem_cons_of_mem _ hx)
theorem risen_nil : risen [] := List.Pairwise.nil
theorem risen_cons {e : En} {h : List En} : risen (e :: h) ↔ (∀ x ∈ h, e.1 < x.1) ∧ risen h := List.pairwise_cons
def withR : List En → Int → List Fc → List En
  | [], t, fs => [(t, fs)]
  | e :: h, t, fs => if e.1 < t then e :: withR h t fs else if e.1 = t then (t, e.2 ++ fs) :: h else (t, fs) :: e :: h
theorem withR_mem : ∀ {h : List En} {t : Int} {fs : List Fc} {x : En}, x ∈ withR h t fs → x.1 = t ∨ x ∈ h
  | [], t, fs, x, hx => by simp [withR] at hx; exact .inl (by rw [hx])
  | e :: h, t, fs, x, hx => by
    unfold withR at hx
    split at hx
    · rcases List.mem_cons.1 hx with rfl | hx
      · exact .inr List.mem_cons_self
      · exact (withR_mem hx).imp id (List.mem_cons_of_mem _)
    · split at hx
      · rcases List.mem_cons.1 hx with rfl | hx
        · exact .inl rfl
        · exact .inr (List.mem_cons_of_mem _ hx)
      · rcases List.mem_cons.1 hx with rfl | hx
        · exact .inl rfl
        · exact .inr hx
theorem withR_risen : ∀ {h : List En} {t : Int} {fs : List Fc}, risen h → risen (withR h t fs)
  | [], t, fs, _ => risen_cons.2 ⟨by simp, risen_nil⟩
  | e :: h, t, fs, hs => by
    obtain ⟨h1, h2⟩ := risen_cons.1 hs
    unfold withR
    split
    · refine risen_cons.2 ⟨fun x hx => ?_, withR_risen h2⟩
      rcases withR_mem hx with hx | hx
      · omega
      · exact h1 x hx
    · split
      · rename_i he
        exact risen_cons.2 ⟨fun x hx => by have := h1 x hx; simp only; omega, h2⟩
      · refine risen_cons.2 ⟨fun x hx => ?_, hs⟩
        rcases List.mem_cons.1 hx with rfl | hx
        · simp only; omega
        · have := h1 x hx; simp only; omega
theorem withR_at : ∀ {h : List En} {t : Int} {fs : List Fc} (s : Int), risen h → atT (withR h t fs) s = if s = t then atT h t ++ fs else atT h s
  | [], t, fs, s, _ => by
    simp only [withR, atT]
    by_cases h : s = t
    · rw [if_pos h.symm, if_pos h]; rfl
    · rw [if_neg (fun e => h e.symm), if_neg h]
  | e :: h, t, fs, s, hs => by
    obtain ⟨h1, h2⟩ := risen_cons.1 hs
    unfold withR
    split
    · rename_i hlt
      simp only [atT]
      rw [withR_at s h2, if_neg (by omega : ¬ e.1 = t)]
      by_cases hes : e.1 = s
      · rw [if_pos hes, if_neg (by omega), if_pos hes]
      · rw [if_neg hes]
        by_cases hst : s = t
        · rw [if_pos hst, if_pos hst]
        · rw [if_neg hst, if_neg hst, if_neg hes]
    · split
      · rename_i he
        simp only [atT]
        by_cases hst : s = t
        · rw [if_pos hst.symm, if_pos hst, if_pos he]
        · rw [if_neg (fun q => hst q.symm), if_neg hst, if_neg (by omega)]
      · rename_i h3 h4
        have ho : atT (e :: h) t = [] := atT_out fun x hx => by
          rcases List.mem_cons.1 hx with rfl | hx
          · exact h4
          · have := h1 x hx; omega
        rw [ho]
        by_cases hst : s = t
        · subst hst; simp [atT]
        · rw [if_neg hst]
          show (if t = s then fs else atT (e :: h) s) = _
          rw [if_neg (fun q => hst q.symm)]
theorem withR_len : ∀ (h : List En) (t : Int) (fs : List Fc), (withR h t fs).length ≤ h.length + 1
  | [], t, fs => by simp [withR]
  | e :: h, t, fs => by
    unfold withR
    split
    · have := withR_len h t fs; simp only [List.length_cons]; omega
    · split <;> simp
def oldAt (h : List En) (t : Int) : List Fc := if there h t = true then (h.getD (place h t) (0, [])).2 else []
def withH (h : List En) (t : Int) (fs : List Fc) : List En := h.take (place h t) ++ (t, oldAt h t ++ fs) :: h.drop (upTo h t)
theorem place_cons (e : En) (h : List En) (t : Int) : place (e :: h) t = if e.1 < t then place h t + 1 else 0 := rfl
theorem there_cons (e : En) (h : List En) (t : Int) : there (e :: h) t = if e.1 < t then there h t else decide (e.1 = t) := by
  unfold there
  rw [place_cons]
  by_cases h1 : e.1 < t
  · rw [if_pos h1, if_pos h1, List.getElem?_cons_succ]
  · rw [if_neg h1, if_neg h1]; rfl
theorem upTo_cons (e : En) (h : List En) (t : Int) : upTo (e :: h) t = if e.1 < t then upTo h t + 1 else if e.1 = t then 1 else 0 := by
  unfold upTo
  rw [place_cons, there_cons]
  split
  · omega
  · by_cases h : e.1 = t <;> simp [h]
theorem withH_eq : ∀ (h : List En) (t : Int) (fs : List Fc), withH h t fs = withR h t fs
  | [], t, fs => by simp [withH, withR, place, oldAt, there, upTo]
  | e :: h, t, fs => by
    have ih := withH_eq h t fs
    unfold withH oldAt at ih ⊢
    unfold withR
    rw [place_cons, there_cons, upTo_cons]
    by_cases h1 : e.1 < t
    · rw [if_pos h1, if_pos h1, if_pos h1, if_pos h1, ← ih]
      simp
    · rw [if_neg h1, if_neg h1, if_neg h1, if_neg h1]
      by_cases h2 : e.1 = t
      · simp [h2]
      · simp [h2]
theorem withH_new {h : List En} {t : Int} {fs : List Fc} (ht : there h t = false) : withH h t fs = layE h t fs := by
  unfold withH oldAt upTo layE
  rw [ht]; simp
theorem withH_old {h : List En} {t : Int} {fs : List Fc} (ht : there h t = true) (hi : place h t < h.length) : withH h t fs = h.set (place h t) (t, h[place h t].2 ++ fs) := by
  unfold withH oldAt upTo
  rw [ht, if_pos rfl, if_pos rfl, getD_at hi, List.set_eq_take_append_cons_drop, if_pos hi]
theorem there_lt {h : List En} {t : Int} (ht : there h t = true) : place h t < h.length := by
  rcases Nat.lt_or_ge (place h t) h.length with h1 | h1
  · exact h1
  · rw [there_out (by omega)] at ht; cases ht
theorem fm_risen {f : En → Option En} (hf : ∀ e x, f e = some x → x.1 = e.1) {h : List En} (hs : risen h) : risen (h.filterMap f) :=
  List.Pairwise.filterMap f (fun a a' hr b hb b' hb' => by rw [hf a b hb, hf a' b' hb']; exact hr) hs
theorem fm_mem {f : En → Option En} {h : List En} {x : En} (hx : x ∈ h.filterMap f) : ∃ e ∈ h, f e = some x := List.mem_filterMap.1 hx
def entE (a b : Int) (e : En) : Option En := if 0 < (e.2.filter (inR a b)).length then some (e.1, e.2.filter (inR a b)) else none
def entF (a b : Int) (h : List En) : List En := h.filterMap (entE a b)
def outR (a b : Int) (f : Fc) : Bool := !inR a b f
def restE (a b : Int) (e : En) : Option En := if 0 < (e.2.filter (outR a b)).length ∨ e.2.length = 0 then some (e.1, e.2.filter (outR a b)) else none
def restH (a b : Int) (h : List En) : List En := h.filterMap (restE a b)
theorem entE_or (a b : Int) (e : En) : (entE a b e = none ∧ e.2.filter (inR a b) = []) ∨ entE a b e = some (e.1, e.2.filter (inR a b)) := by
  unfold entE
  by_cases h : 0 < (e.2.filter (inR a b)).length
  · rw [if_pos h]; exact .inr rfl
  · rw [if_neg h]; exact .inl ⟨rfl, List.eq_nil_of_length_eq_zero (by omega)⟩
theorem restE_or (a b : Int) (e : En) : (restE a b e = none ∧ e.2.filter (outR a b) = []) ∨ restE a b e = some (e.1, e.2.filter (outR a b)) := by
  unfold restE
  by_cases h : 0 < (e.2.filter (outR a b)).length ∨ e.2.length = 0
  · rw [if_pos h]; exact .inr rfl
  · rw [if_neg h]; exact .inl ⟨rfl, List.eq_nil_of_length_eq_zero (by omega)⟩
theorem or_time {f : En → Option En} {g : List Fc → List Fc} (hf : ∀ e, (f e = none ∧ g e.2 = []) ∨ f e = some (e.1, g e.2)) (e x : En) (h : f e = some x) : x = (e.1, g e.2) := by
  rcases hf e with ⟨h1, _⟩ | h1
  · rw [h1] at h; cases h
  · rw [h1] at h; cases h; rfl
theorem entF_risen {a b : Int} {h : List En} (hs : risen h) : risen (entF a b h) := fm_risen (fun e x hx => by rw [or_time (entE_or a b) e x hx]) hs
theorem restH_risen {a b : Int} {h : List En} (hs : risen h) : risen (restH a b h) := fm_risen (fun e x hx => by rw [or_time (restE_or a b) e x hx]) hs
theorem entF_mem {a b : Int} {h : List En} {x : En} (hx : x ∈ entF a b h) : ∃ e ∈ h, x = (e.1, e.2.filter (inR a b)) ∧ x.2 ≠ [] := by
  obtain ⟨e, he, hf⟩ := fm_mem hx
  refine ⟨e, he, or_time (entE_or a b) e x hf, fun h0 => ?_⟩
  unfold entE at hf
  split at hf
  · cases hf; simp only at h0; rename_i h1; rw [h0] at h1; simp at h1
  · cases hf
theorem restH_mem {a b : Int} {h : List En} {x : En} (hx : x ∈ restH a b h) : ∃ e ∈ h, x = (e.1, e.2.filter (outR a b)) := by
  obtain ⟨e, he, hf⟩ := fm_mem hx
  exact ⟨e, he, or_time (restE_or a b) e x hf⟩
def lay1 (h : List En) (e : En) : List En := if 0 < e.2.length then withR h e.1 e.2 else h
def layAll (h es : List En) : List En := es.foldl lay1 h
theorem lay1_at {h : List En} {e : En} (hs : risen h) (s : Int) : atT (lay1 h e) s = if s = e.1 then atT h s ++ e.2 else atT h s := by
  unfold lay1
  split
  · rw [withR_at s hs]
    by_cases hse : s = e.1
    · rw [if_pos hse, if_pos hse, hse]
    · rw [if_neg hse, if_neg hse]
  · rename_i h0
    rw [List.eq_nil_of_length_eq_zero (by omega : e.2.length = 0)]
    split <;> simp
theorem lay1_risen {h : List En} {e : En} (hs : risen h) : risen (lay1 h e) := by
  unfold lay1; split
  · exact withR_risen hs
  · exact hs
theorem layAll_risen : ∀ {es h : List En}, risen h → risen (layAll h es)
  | [], h, hs => hs
  | e :: es, h, hs => layAll_risen (es := es) (lay1_risen hs)
theorem layAll_at : ∀ {es h : List En} (s : Int), risen h → risen es → atT (layAll h es) s = atT h s ++ atT es s
  | [], h, s, _, _ => by simp [layAll, atT]
  | e :: es, h, s, hs, he => by
    obtain ⟨h1, h2⟩ := risen_cons.1 he
    have := layAll_at (es := es) s (lay1_risen (e := e) hs) h2
    show atT (layAll (lay1 h e) es) s = _
    rw [this, lay1_at hs]
    simp only [atT]
    by_cases hse : s = e.1
    · rw [if_pos hse, if_pos hse.symm, atT_out (h := es) fun x hx => by have := h1 x hx; omega, List.append_nil]
    · rw [if_neg hse, if_neg (fun q => hse q.symm)]
theorem layAll_len : ∀ (es h : List En), (layAll h es).length ≤ h.length + es.length
  | [], h => by simp [layAll]
  | e :: es, h => by
    have h1 := layAll_len es (lay1 h e)
    have h2 : (lay1 h e).length ≤ h.length + 1 := by
      unfold lay1; split
      · exact withR_len _ _ _
      · omega
    show (layAll (lay1 h e) es).length ≤ _
    simp only [List.length_cons]; omega
end Go.Proofs.YtgjdjdjhoipfmaaGreatDoor.A
open Go Go.RowKit Go.Proofs.YtgjdjdjhoipfmaaGreatDoor.K Go.Proofs.YtgjdjdjhoipfmaaGreatDoor.T
set_option linter.unusedVariables false
set_option linter.unusedSimpArgs false
namespace Go.Proofs.YtgjdjdjhoipfmaaGreatDoor.A
variable {F F' : Nat → Option (List Value)} {M M' : Nat → Option Chunk} {N N' : Nat} {K : Kont} {E : PanK}
def rightF (l : List Dm) (a b : Int) : Int → List En → Bool
  | _, [] => true
  | last, e :: es => decide (last < e.1) && fitsF l e.2 && (e.2.all (inR a b) && rightF l a b e.1 es)
def replH (a b : Int) (h es : List En) : List En := layAll (restH a b h) es
def longH (h : List En) : Bool := h.any fun e => decide (200 < e.2.length)
def replE (l : List Dm) (a b : Int) (h es : List En) : Nat := if rightF l a b 0 es = false then 1 else if 5000 < (replH a b h es).length ∨ longH (replH a b h es) = true then 3 else 0
def replF (l : List Dm) (a b : Int) (h es : List En) : List En := if replE l a b h es = 0 then replH a b h es else h
theorem rightF_cons {l : List Dm} {a b last : Int} {e : En} {es : List En} (h : rightF l a b last (e :: es) = true) : last < e.1 ∧ fitsF l e.2 = true ∧ (∀ f ∈ e.2, inR a b f = true) ∧ rightF l a b e.1 es = true := by
  unfold rightF at h
  rw [Bool.and_eq_true, Bool.and_eq_true, Bool.and_eq_true] at h
  exact ⟨of_decide_eq_true h.1.1, h.1.2, List.all_eq_true.1 h.2.1, h.2.2⟩
theorem rightF_all {l : List Dm} {a b : Int} : ∀ {es : List En} {last : Int}, rightF l a b last es = true → risen es ∧ ∀ e ∈ es, last < e.1 ∧ fitsF l e.2 = true ∧ ∀ f ∈ e.2, inR a b f = true
  | [], _, _ => ⟨risen_nil, by simp⟩
  | e :: es, last, h => by
    obtain ⟨h1, h2, h3, h4⟩ := rightF_cons h
    obtain ⟨g1, g2⟩ := rightF_all h4
    refine ⟨risen_cons.2 ⟨fun x hx => (g2 x hx).1, g1⟩, fun x hx => ?_⟩
    rcases List.mem_cons.1 hx with rfl | hx
    · exact ⟨h1, h2, h3⟩
    · obtain ⟨a1, a2, a3⟩ := g2 x hx
      exact ⟨by omega, a2, a3⟩
structure okH (l : List Dm) (n m : Nat) (h : List En) : Prop where
  rs : risen h
  ti : ∀ e ∈ h, 0 < e.1
  fi : ∀ e ∈ h, ∀ f ∈ e.2, inF l f.1 = true
  le : h.length ≤ n
  fl : ∀ e ∈ h, e.2.length ≤ m
theorem okH.nil (l : List Dm) (n m : Nat) : okH l n m [] := ⟨risen_nil, by simp, by simp, Nat.zero_le _, by simp⟩
theorem okH.up {l : List Dm} {n m n' m' : Nat} {h : List En} (k : okH l n m h) (h1 : n ≤ n') (h2 : m ≤ m') : okH l n' m' h := ⟨k.rs, k.ti, k.fi, by have := k.le; omega, fun e he => by have := k.fl e he; omega⟩
theorem withR_all {P : En → Prop} {t : Int} {fs : List Fc} (h0 : P (t, fs)) (ha : ∀ e : En, e.1 = t → P e → P (t, e.2 ++ fs)) : ∀ {h : List En}, (∀ e ∈ h, P e) → ∀ e ∈ withR h t fs, P e
  | [], _, e, he => by simp [withR] at he; rw [he]; exact h0
  | d :: h, hp, e, he => by
    unfold withR at he
    split at he
    · rcases List.mem_cons.1 he with rfl | he
      · exact hp _ List.mem_cons_self
      · exact withR_all h0 ha (fun x hx => hp x (List.mem_cons_of_mem _ hx)) e he
    · split at he
      · rename_i hd
        rcases List.mem_cons.1 he with rfl | he
        · exact ha d hd (hp d List.mem_cons_self)
        · exact hp e (List.mem_cons_of_mem _ he)
      · rcases List.mem_cons.1 he with rfl | he
        · exact h0
        · exact hp e he
theorem okH.withR {l : List Dm} {n m k : Nat} {h : List En} (o : okH l n m h) {t : Int} {fs : List Fc} (ht : 0 < t) (hf : ∀ f ∈ fs, inF l f.1 = true) (hk : fs.length ≤ k) : okH l (n + 1) (m + k) (A.withR h t fs) := by
  refine ⟨withR_risen o.rs, ?_, ?_, by have := withR_len h t fs; have := o.le; omega, ?_⟩
  · exact withR_all (P := fun e => 0 < e.1) ht (fun _ _ _ => ht) o.ti
  · refine withR_all (P := fun e => ∀ f ∈ e.2, inF l f.1 = true) hf (fun e _ he f hx => ?_) o.fi
    rcases List.mem_append.1 hx with hx | hx
    · exact he f hx
    · exact hf f hx
  · intro e he
    have key : ∀ {h : List En}, (∀ e ∈ h, e.2.length ≤ m) → ∀ e ∈ A.withR h t fs, e.2.length ≤ m + k := by
      intro h
      induction h with
      | nil => intro _ e he; simp [A.withR] at he; rw [he]; simp only; omega
      | cons d h ih =>
        intro hp e he
        unfold A.withR at he
        split at he
        · rcases List.mem_cons.1 he with rfl | he
          · have := hp _ List.mem_cons_self; omega
          · exact ih (fun x hx => hp x (List.mem_cons_of_mem _ hx)) e he
        · split at he
          · rcases List.mem_cons.1 he with rfl | he
            · have := hp d List.mem_cons_self; simp only [List.length_append]; omega
            · have := hp e (List.mem_cons_of_mem _ he); omega
          · rcases List.mem_cons.1 he with rfl | he
            · simp only; omega
            · have := hp e he; omega
    exact key o.fl e he
theorem addE_eq {l : List Dm} {h : List En} {t : Int} {fs : List Fc} (e : addE l h t fs = 0) : fitsF l fs = true ∧ t ≠ 0 ∧ there h t = false ∧ h.length < 5000 := by
  unfold addE at e
  split at e
  · omega
  · rename_i h1
    split at e
    · omega
    · rename_i h2
      split at e
      · omega
      · refine ⟨by simpa using h1, fun q => h2 (.inl q), ?_, by omega⟩
        cases h3 : there h t
        · rfl
        · exact absurd (.inr h3) h2
theorem addH_eq {l : List Dm} {h : List En} {t : Int} {fs : List Fc} (e : addE l h t fs = 0) : addH l h t fs = withR h t fs := by
  unfold addH
  rw [if_pos e, ← withH_new (addE_eq e).2.2.1, withH_eq]
theorem withR_out {h : List En} {t : Int} {fs : List Fc} (hs : risen h) (ht : there h t = false) {m : Nat} (hm : ∀ e ∈ h, e.2.length ≤ m) (hk : fs.length ≤ m) : ∀ e ∈ withR h t fs, e.2.length ≤ m := by
  intro e he
  rw [← withH_eq, withH_new ht] at he
  unfold layE at he
  rcases List.mem_append.1 he with he | he
  · exact hm e (List.mem_of_mem_take he)
  · rcases List.mem_cons.1 he with rfl | he
    · exact hk
    · exact hm e (List.mem_of_mem_drop he)
theorem okH.add {l : List Dm} {h : List En} (o : okH l 5000 200 h) {t : Int} (ht : 0 ≤ t) (fs : List Fc) : okH l 5000 200 (addH l h t fs) := by
  by_cases e : addE l h t fs = 0
  · obtain ⟨h1, h2, h3, h4⟩ := addE_eq e
    obtain ⟨f1, f2⟩ := fitsF_of h1
    have w := o.withR (t := t) (by omega) f2 f1
    rw [addH_eq e]
    exact ⟨w.rs, w.ti, w.fi, by have := withR_len h t fs; omega, withR_out o.rs h3 o.fl f1⟩
  · unfold addH; rw [if_neg e]; exact o
theorem okH.rest {l : List Dm} {n m : Nat} {h : List En} (o : okH l n m h) (a b : Int) : okH l n m (restH a b h) := by
  refine ⟨restH_risen o.rs, fun x hx => ?_, fun x hx => ?_, ?_, fun x hx => ?_⟩
  · obtain ⟨e, he, rfl⟩ := restH_mem hx; exact o.ti e he
  · obtain ⟨e, he, rfl⟩ := restH_mem hx; exact fun f hf => o.fi e he f (List.mem_filter.1 hf).1
  · have := List.length_filterMap_le (restE a b) h; have := o.le; unfold restH; omega
  · obtain ⟨e, he, rfl⟩ := restH_mem hx
    have := o.fl e he
    have := List.length_filter_le (outR a b) e.2
    simp only; omega
theorem okH.ent {l : List Dm} {n m : Nat} {h : List En} (o : okH l n m h) (a b : Int) : okH l n m (entF a b h) := by
  refine ⟨entF_risen o.rs, fun x hx => ?_, fun x hx => ?_, ?_, fun x hx => ?_⟩
  · obtain ⟨e, he, rfl, _⟩ := entF_mem hx; exact o.ti e he
  · obtain ⟨e, he, rfl, _⟩ := entF_mem hx; exact fun f hf => o.fi e he f (List.mem_filter.1 hf).1
  · have := List.length_filterMap_le (entE a b) h; have := o.le; unfold entF; omega
  · obtain ⟨e, he, rfl, _⟩ := entF_mem hx
    have := o.fl e he
    have := List.length_filter_le (inR a b) e.2
    simp only; omega
theorem layAll_fi {l : List Dm} : ∀ {es h : List En}, (∀ e ∈ h, 0 < e.1 ∧ ∀ f ∈ e.2, inF l f.1 = true) → (∀ e ∈ es, 0 < e.1 ∧ ∀ f ∈ e.2, inF l f.1 = true) → ∀ e ∈ layAll h es, 0 < e.1 ∧ ∀ f ∈ e.2, inF l f.1 = true
  | [], h, h1, _ => h1
  | d :: es, h, h1, h2 => by
    obtain ⟨d1, d2⟩ := h2 d List.mem_cons_self
    refine layAll_fi (es := es) (h := lay1 h d) ?_ fun x hx => h2 x (List.mem_cons_of_mem _ hx)
    unfold lay1
    split
    · refine withR_all (P := fun e => 0 < e.1 ∧ ∀ f ∈ e.2, inF l f.1 = true) ⟨d1, d2⟩ (fun e _ he => ⟨d1, fun f hx => ?_⟩) h1
      rcases List.mem_append.1 hx with hx | hx
      · exact he.2 f hx
      · exact d2 f hx
    · exact h1
theorem replE_zero {l : List Dm} {a b : Int} {h es : List En} (e : replE l a b h es = 0) : rightF l a b 0 es = true ∧ (replH a b h es).length ≤ 5000 ∧ ∀ x ∈ replH a b h es, x.2.length ≤ 200 := by
  unfold replE at e
  split at e
  · omega
  · rename_i h1
    split at e
    · omega
    · rename_i h2
      refine ⟨by simpa using h1, by omega, fun x hx => ?_⟩
      rcases Nat.lt_or_ge 200 x.2.length with h3 | h3
      · exact absurd (.inr (List.any_eq_true.2 ⟨x, hx, decide_eq_true h3⟩)) h2
      · exact h3
theorem okH.repl {l : List Dm} {h : List En} (o : okH l 5000 200 h) (a b : Int) (es : List En) : okH l 5000 200 (replF l a b h es) := by
  unfold replF
  by_cases e : replE l a b h es = 0
  · rw [if_pos e]
    obtain ⟨h1, h2, h3⟩ := replE_zero e
    obtain ⟨g1, g2⟩ := rightF_all h1
    have hr := o.rest a b
    have hf := layAll_fi (l := l) (h := restH a b h) (es := es) (fun e he => ⟨hr.ti e he, hr.fi e he⟩) (fun e he => ⟨(g2 e he).1, (fitsF_of (g2 e he).2.1).2⟩)
    exact ⟨layAll_risen hr.rs, fun e he => (hf e he).1, fun e he => (hf e he).2, h2, h3⟩
  · rw [if_neg e]; exact o
def allF (h : List En) : List Fc := (h.map (·.2)).flatten
def tillF (h : List En) (t : Int) : List Fc := allF (h.filter fun e => decide (e.1 ≤ t))
theorem upTo_filter : ∀ {h : List En} (t : Int), risen h → h.take (upTo h t) = h.filter fun e => decide (e.1 ≤ t)
  | [], t, _ => by simp
  | e :: h, t, hs => by
    obtain ⟨h1, h2⟩ := risen_cons.1 hs
    rw [upTo_cons]
    have out : t ≤ e.1 → (h.filter fun e => decide (e.1 ≤ t)) = [] := fun hle => List.filter_eq_nil_iff.2 fun x hx => by have := h1 x hx; simp; omega
    by_cases hl : e.1 < t
    · rw [if_pos hl, List.take_succ_cons, upTo_filter t h2, List.filter_cons_of_pos (by simp; omega)]
    · rw [if_neg hl]
      by_cases he : e.1 = t
      · rw [if_pos he, List.filter_cons_of_pos (by simp; omega), out (by omega)]; simp
      · rw [if_neg he, List.filter_cons_of_neg (by simp; omega), out (by omega)]; simp
theorem allI_till {h : List En} (hs : risen h) (t : Int) : allI h (upTo h t) = tillF h t := by
  unfold allI tillF allF
  rw [upTo_filter t hs]
theorem allF_cons (e : En) (h : List En) : allF (e :: h) = e.2 ++ allF h := rfl
theorem atT_of : ∀ {h : List En} {e : En}, risen h → e ∈ h → atT h e.1 = e.2
  | [], _, _, he => by simp at he
  | d :: h, e, hs, he => by
    obtain ⟨h1, h2⟩ := risen_cons.1 hs
    unfold atT
    rcases List.mem_cons.1 he with rfl | he
    · rw [if_pos rfl]
    · have := h1 e he
      rw [if_neg (by omega)]; exact atT_of h2 he
theorem atT_len {m : Nat} : ∀ {h : List En} (s : Int), (∀ e ∈ h, e.2.length ≤ m) → (atT h s).length ≤ m
  | [], s, _ => by simp [atT]
  | d :: h, s, hp => by
    unfold atT
    split
    · exact hp d List.mem_cons_self
    · exact atT_len s fun x hx => hp x (List.mem_cons_of_mem _ hx)
theorem layAll_fl {n k : Nat} {es h : List En} (hs : risen h) (he : risen es) (h1 : ∀ e ∈ h, e.2.length ≤ n) (h2 : ∀ e ∈ es, e.2.length ≤ k) : ∀ e ∈ layAll h es, e.2.length ≤ n + k := fun e hx => by
  have h3 := atT_of (layAll_risen (es := es) hs) hx
  rw [layAll_at _ hs he] at h3
  have h4 := congrArg List.length h3
  rw [List.length_append] at h4
  have h5 := atT_len e.1 h1
  have h6 := atT_len e.1 h2
  omega
theorem rightF_len {l : List Dm} {a b T : Int} : ∀ {es : List En} {last : Int}, rightF l a b last es = true → last < T → (∀ e ∈ es, e.1 < T) → (es.length : Int) + last < T
  | [], last, _, h1, _ => by simp; exact h1
  | e :: es, last, h, h1, h2 => by
    obtain ⟨g1, _, _, g4⟩ := rightF_cons h
    have := rightF_len g4 (h2 e List.mem_cons_self) fun x hx => h2 x (List.mem_cons_of_mem _ hx)
    rw [List.length_cons]; omega
end Go.Proofs.YtgjdjdjhoipfmaaGreatDoor.A
open Go Go.RowKit Go.Proofs.YtgjdjdjhoipfmaaGreatDoor.K Go.Proofs.YtgjdjdjhoipfmaaGreatDoor.T
set_option linter.unusedVariables false
set_option linter.unusedSimpArgs false
namespace Go.Proofs.YtgjdjdjhoipfmaaGreatDoor.A
variable {F F' : Nat → Option (List Value)} {M M' : Nat → Option Chunk} {N N' : Nat} {K : Kont} {E : PanK}
section
variable {h : Hp}
theorem h_fa {b o off : Nat} (k : K (.pointer (some ⟨b, o + off, none⟩)) h) : pv (faV off (.pointer (some ⟨b, o, none⟩))) K h := ⟨_, rfl, k⟩
end
end Go.Proofs.YtgjdjdjhoipfmaaGreatDoor.A
open Go Go.RowKit Go.Proofs.YtgjdjdjhoipfmaaGreatDoor.K
set_option linter.unusedVariables false
set_option maxRecDepth 100000
namespace Go.Proofs.YtgjdjdjhoipfmaaGreatDoor.T
section
variable (K : Kont) (E : PanK) (k1 k2 k3 k4 k5 : Env → Hp → Prop) (x0 x1 x2 x3 x4 x5 x6 x7 x8 x9 x10 x11 x12 x13 x14 x15 x16 x17 x18 x19 x20 x21 x22 x23 x24 x25 x26 x27 x28 x29 x30 x31 x32 x33 x34 x35 x36 x37 x38 x39 x40 x41 x42 x43 x44 x45 x46 x47 x48 x49 x50 x51 x52 x53 x54 x55 x56 x57 x58 x59 x60 x61 x62 x63 x64 x65 x66 x67 x68 x69 x70 x71 x72 x73 x74 x75 x76 x77 x78 x79 x80 x81 x82 x83 x84 x85 x86 x87 x88 v0 v1 v2 v3 v4 v5 v6 v7 v8 v9 v10 v11 v12 v13 v14 v15 v16 v17 v18 v19 v20 v21 v22 v23 v24 v25 v26 v27 v28 v29 v30 v31 v32 v33 v34 v35 v36 v37 v38 v39 v40 v41 v42 v43 v44 v45 v46 v47 v48 v49 v50 v51 v52 v53 v54 v55 v56 v57 v58 v59 v60 v61 v62 v63 v64 v65 v66 v67 v68 v69 v70 v71 v72 v73 v74 v75 v76 v77 v78 v79 v80 v81 v82 v83 v84 v85 v86 v87 v88 : Value) (j : Nat → Value)
abbrev q11 : QD := bodyQ Tryz.prog Tryz.f11.results.toList K E
abbrev d11 (p : List Nat) : QD → Env → Hp → Prop := den Tryz.prog (sel (bodyOf Tryz.f11) p)
theorem t11 : d11 [] (q11 K E) #[U, U, U, U, U, U, U, U, U, U, U, U, U, U, U, U, U, U, U, U, U, U, U, U, U, U, U, U, U, U, U, U, U, U, U, U, U, U, U, U, U, U, U, U, U, U, U, U, U, U, U, U, U, U, U, U, U, U, U, U, U, U, U, U, U, U, U, U, U, U, U, U, U, U, U, U, U, U, U, U, U, U, U, U, U, U, U, U, U] =
  pv (bdC #[(.int .i64 0), (.slice none 0 0)] [(0, 1), (1, 1)] #[(0, (.int .i64 5))]) fun t1 =>
  nws 74 1 (bsC #[(.int .i64 0), (.slice none 0 0)] 2 1 #[(0, t1)]) fun t2 =>
  callv Tryz.prog (.func (.func 13) #[] #[]) #[t2] (fun t3 =>
  pv (binV .ptr .eql t3 (.pointer none)) fun t4 =>
  cnd t4 (
   K (.bool false)) (
   nws 3 1 (bsC #[(.int .i64 0)] 1 1 #[(0, (.int .i64 1))]) fun t5 =>
   pv (bdC #[(.slice none 0 0), (.int .i64 0)] [(0, 1), (1, 1)] #[(0, t5), (1, (.int .i64 5))]) fun t6 =>
   nws 48 1 (bsC #[(.slice none 0 0), (.int .i64 0)] 2 1 #[(0, t6)]) fun t7 =>
   callv Tryz.prog (.func (.func 15) #[] #[]) #[t3, (.int .u32 2), t7] (fun t8 =>
   nws 3 1 (bsC #[(.int .i64 0)] 1 1 #[(0, (.int .i64 1))]) fun t9 =>
   pv (bdC #[(.slice none 0 0), (.int .i64 0)] [(0, 1), (1, 1)] #[(0, t9), (1, (.int .i64 7))]) fun t10 =>
   nws 48 1 (bsC #[(.slice none 0 0), (.int .i64 0)] 2 1 #[(0, t10)]) fun t11 =>
   callv Tryz.prog (.func (.func 15) #[] #[]) #[t3, (.int .u32 1), t11] (fun t12 =>
   nws 3 1 (bsC #[(.int .i64 0)] 1 1 #[(0, (.int .i64 0))]) fun t13 =>
   nws 3 1 (bsC #[(.int .i64 0)] 1 1 #[(0, (.int .i64 0))]) fun t14 =>
   nws 3 1 (bsC #[(.int .i64 0)] 1 1 #[(0, (.int .i64 5))]) fun t15 =>
   pv (bdC #[(.slice none 0 0), (.slice none 0 0), (.slice none 0 0)] [(0, 1), (1, 1), (2, 1)] #[(0, t13), (1, t14), (2, t15)]) fun t16 =>
   nw 36 [(.slice none 0 0), (.slice none 0 0), (.slice none 0 0)] fun t17 =>
   st 3 t17 t16 fun _ =>
   ld true 3 t17 fun t18 =>
   callv Tryz.prog (.func (.func 17) #[] #[]) #[t3, t18, (.int .u32 1)] (fun t19 =>
   pv (exV 0 t19) fun t20 =>
   pv (exV 1 t19) fun t21 =>
   ld true 3 t17 fun t22 =>
   callv Tryz.prog (.func (.func 17) #[] #[]) #[t3, t22, (.int .u32 2)] (fun t23 =>
   pv (exV 0 t23) fun t24 =>
   pv (exV 1 t23) fun t25 =>
   pv (binV .none .eql t8 (.int .u16 0)) fun t26 =>
   gdK t26 true (fun k => k t12) fun t27 =>
   gdK t26 true (fun k => pv (binV .none .eql t27 (.int .u16 0)) k) fun t28 =>
   pv (pickV t26 t28 (.bool false)) fun t29 =>
   gdK t29 true (fun k => k t21) fun t30 =>
   gdK t29 true (fun k => pv (binV .none .eql t30 (.int .u16 0)) k) fun t31 =>
   pv (pickV t29 t31 (.bool false)) fun t32 =>
   gdK t32 true (fun k => k t25) fun t33 =>
   gdK t32 true (fun k => pv (binV .none .eql t33 (.int .u16 0)) k) fun t34 =>
   pv (pickV t32 t34 (.bool false)) fun t35 =>
   gdK t35 true (fun k => k t20) fun t36 =>
   gdK t35 true (fun k => pv (lenV t36) k) fun t37 =>
   gdK t35 true (fun k => pv (binV .none .eql t37 (.int .i64 1)) k) fun t38 =>
   pv (pickV t35 t38 (.bool false)) fun t39 =>
   gdK t39 true (fun k => k t20) fun t40 =>
   gdK t39 true (fun k => pv (iaV none 5 t40 (.int .i64 0)) k) fun t41 =>
   gdK t39 true (fun k => pv (faV 1 t41) k) fun t42 =>
   gdK t39 true (fun k => pv (faV 1 t42) k) fun t43 =>
   gdK t39 true (fun k => ld false 1 t43 k) fun t44 =>
   gdK t39 true (fun k => pv (binV .none .eql t44 (.int .i64 7)) k) fun t45 =>
   pv (pickV t39 t45 (.bool false)) fun t46 =>
   gdK t46 true (fun k => k t24) fun t47 =>
   gdK t46 true (fun k => pv (lenV t47) k) fun t48 =>
   gdK t46 true (fun k => pv (binV .none .eql t48 (.int .i64 1)) k) fun t49 =>
   pv (pickV t46 t49 (.bool false)) fun t50 =>
   gdK t50 true (fun k => k t24) fun t51 =>
   gdK t50 true (fun k => pv (iaV none 5 t51 (.int .i64 0)) k) fun t52 =>
   gdK t50 true (fun k => pv (faV 1 t52) k) fun t53 =>
   gdK t50 true (fun k => pv (faV 1 t53) k) fun t54 =>
   gdK t50 true (fun k => ld false 1 t54 k) fun t55 =>
   gdK t50 true (fun k => pv (binV .none .eql t55 (.int .i64 12)) k) fun t56 =>
   pv (pickV t50 t56 (.bool false)) fun t57 =>
   gdK t57 true (fun k => callv Tryz.prog (.func (.func 13) #[] #[]) #[(.slice none 0 0)] k E) fun t58 =>
   gdK t57 true (fun k => pv (binV .ptr .eql t58 (.pointer none)) k) fun t59 =>
   pv (pickV t57 t59 (.bool false)) fun t60 =>
   gdK t60 true (fun k => k t3) fun t61 =>
   gdK t60 true (fun k => callv Tryz.prog (.func (.func 15) #[] #[]) #[t61, (.int .u32 2), (.slice none 0 0)] k E) fun t62 =>
   gdK t60 true (fun k => pv (binV .none .eql t62 (.int .u16 130)) k) fun t63 =>
   pv (pickV t60 t63 (.bool false)) fun t64 =>
   K t64) E) E) E) E)) E := by kernel_rfl
end
section
variable {K : Kont} {E : PanK} {k1 k2 k3 k4 k5 : Env → Hp → Prop} {σ : Type} {x0 x1 x2 x3 x4 x5 x6 x7 x8 x9 x10 x11 x12 x13 x14 x15 x16 x17 x18 x19 x20 x21 x22 x23 x24 x25 x26 x27 x28 x29 x30 x31 x32 x33 x34 x35 x36 x37 x38 x39 x40 x41 x42 x43 x44 x45 x46 x47 x48 x49 x50 x51 x52 x53 x54 x55 x56 x57 x58 x59 x60 x61 x62 x63 x64 x65 x66 x67 x68 x69 x70 x71 x72 x73 x74 x75 x76 x77 x78 x79 x80 x81 x82 x83 x84 x85 x86 x87 x88 v0 v1 v2 v3 v4 v5 v6 v7 v8 v9 v10 v11 v12 v13 v14 v15 v16 v17 v18 v19 v20 v21 v22 v23 v24 v25 v26 v27 v28 v29 v30 v31 v32 v33 v34 v35 v36 v37 v38 v39 v40 v41 v42 v43 v44 v45 v46 v47 v48 v49 v50 v51 v52 v53 v54 v55 v56 v57 v58 v59 v60 v61 v62 v63 v64 v65 v66 v67 v68 v69 v70 v71 v72 v73 v74 v75 v76 v77 v78 v79 v80 v81 v82 v83 v84 v85 v86 v87 v88 : Value} {h : Hp} {j : Nat → Value}
end
end Go.Proofs.YtgjdjdjhoipfmaaGreatDoor.T
open Go Go.RowKit Go.Proofs.YtgjdjdjhoipfmaaGreatDoor.K Go.Proofs.YtgjdjdjhoipfmaaGreatDoor.T
set_option linter.unusedVariables false
set_option linter.unusedSimpArgs false
namespace Go.Proofs.YtgjdjdjhoipfmaaGreatDoor.A
variable {F F' : Nat → Option (List Value)} {M M' : Nat → Option Chunk} {N N' : Nat} {K : Kont} {E : PanK}
theorem isCube.keep {B g : Nat} {hv dv : Value} {rows : List (List Value)} {l : List Dm} {h : List En} (hC : isCube F M B g hv dv rows l h) (hF : subF F F') (hM : ∀ q, q = g ∨ hv.ownBlock = some q → M' q = M q) : isCube F' M' B g hv dv rows l h :=
  ⟨(hM g (.inl rfl)).trans hC.gg, hC.gB, hC.oo.keep (fun q h => hM q (.inr h)) (Nat.le_refl _), hC.rr.mono fun _ _ h => h.mono hF, hC.vg, hC.dd.mono hF, hC.rs⟩
theorem isCube.lt {B g : Nat} {hv dv : Value} {rows : List (List Value)} {l : List Dm} {h : List En} (hC : isCube F M B g hv dv rows l h) (hm : clean M N) : ∀ q, q = g ∨ hv.ownBlock = some q → B ≤ q ∧ q < N := fun q hq => by
  rcases hq with rfl | hq
  · exact ⟨hC.gB, hm.lt hC.gg⟩
  · exact ⟨(hC.oo.ge q hq).1, hC.oo.lt hm q hq⟩
theorem one_fact {b c : Nat} {x v : Int} (h1 : F b = some [.int .i64 x]) (h2 : F c = some [.slice (some ⟨b, 0, none⟩) 1 1, .int .i64 v]) : fctsD F (.slice (some ⟨c, 0, none⟩) 1 1) [([x], v)] :=
  ⟨[[.slice (some ⟨b, 0, none⟩) 1 1, .int .i64 v]], sF_lit h2 rfl (by decide), fcts_cons (int1 h1) (by simp) (rowsF.nil _ _)⟩
theorem fcts_nil {c : Nat} : fctsD F (.slice none 0 c) [] := ⟨[], sF.nil _ _ _, rowsF.nil _ _⟩
theorem lit1_r {x v : Int} {f : FuncId} {A : Value → Array Value} (hm : clean M N) (k : ∀ w F' N', subF F F' → N ≤ N' → fctsD F' w [([x], v)] → callv Tryz.prog (.func (.func f) #[] #[]) (A w) K E ⟨F', M, N'⟩) :
    nws 3 1 (bsC #[(.int .i64 0)] 1 1 #[(0, (.int .i64 x))]) (fun t5 => pv (bdC #[(.slice none 0 0), (.int .i64 0)] [(0, 1), (1, 1)] #[(0, t5), (1, (.int .i64 v))]) fun t6 => nws 48 1 (bsC #[(.slice none 0 0), (.int .i64 0)] 2 1 #[(0, t6)]) fun t7 => callv Tryz.prog (.func (.func f) #[] #[]) (A t7) K E) ⟨F, M, N⟩ := by
  refine nws_r (cs := [.int .i64 x]) (by kernel_rfl) (fun b5 hb5 => ?_)
  refine pv_r (v := .agg #[.slice (some ⟨b5, 0, none⟩) 1 1, .int .i64 v]) (by kernel_rfl) ?_
  refine nws_r (cs := [.slice (some ⟨b5, 0, none⟩) 1 1, .int .i64 v]) (by kernel_rfl) (fun b7 hb7 => ?_)
  refine callv_go (fun hc => ⟨_, frz_wf hm (fun q hq => (upd_ne _ _ (by omega)).trans (upd_ne _ _ (by omega))) hc, ?_⟩)
  have hs := subF_frzAll (N := N) hc
  have f7 := frz_at (F := F) (N := N) (b := b7) (by omega) (upd_same (upd M b5 (some (.cells 3 [.int .i64 x] [Value.int .i64 x].length))) b7 (some (.cells 48 [.slice (some ⟨b5, 0, none⟩) 1 1, .int .i64 v] [Value.slice (some ⟨b5, 0, none⟩) 1 1, .int .i64 v].length)))
  have f5 := frz_at (F := F) (N := N) (b := b5) (by omega) ((upd_ne _ (b := b7) (some (.cells 48 [.slice (some ⟨b5, 0, none⟩) 1 1, .int .i64 v] [Value.slice (some ⟨b5, 0, none⟩) 1 1, .int .i64 v].length)) (by omega)).trans (upd_same M b5 (some (.cells 3 [.int .i64 x] [Value.int .i64 x].length))))
  exact k _ _ _ hs (by omega) (one_fact f5 f7)
theorem addE_zero {l : List Dm} {h : List En} {t : Int} {fs : List Fc} (h1 : fitsF l fs = true) (h2 : t ≠ 0) (h3 : there h t = false) (h4 : h.length < 5000) : addE l h t fs = 0 := by
  unfold addE
  rw [if_neg (by rw [h1]; decide), if_neg (by rintro (q | q); exact h2 q; rw [h3] at q; cases q), if_neg (by omega)]
theorem known13 : addE [(5, [])] [] 2 [([1], 5)] = 0 ∧ addH [(5, [])] [] 2 [([1], 5)] = [(2, [([1], 5)])] ∧ addE [(5, [])] [(2, [([1], 5)])] 1 [([1], 7)] = 0 ∧ addH [(5, [])] [(2, [([1], 5)])] 1 [([1], 7)] = [(1, [([1], 7)]), (2, [([1], 5)])] ∧ addE [(5, [])] [(1, [([1], 7)]), (2, [([1], 5)])] 2 [] = 130 := by decide +kernel
theorem known13q : allI [(1, [([1], 7)]), (2, [([1], 5)])] (upTo [(1, [([1], 7)]), (2, [([1], 5)])] 1) = [([1], 7)] ∧ allI [(1, [([1], 7)]), (2, [([1], 5)])] (upTo [(1, [([1], 7)]), (2, [([1], 5)])] 2) = [([1], 7), ([1], 5)] ∧ tab ([([1], 7)].map fr1) = [([1], ⟨1, 7, 7, 7⟩)] ∧ tab ([([1], 7), ([1], 5)].map fr1) = [([1], ⟨2, 12, 5, 7⟩)] := by decide +kernel
theorem known13r : runE [(5, [])] [([1], ⟨1, 7, 7, 7⟩)] [0] [0] [5] = 0 ∧ runT [(5, [])] [([1], ⟨1, 7, 7, 7⟩)] [0] [0] [5] = [([1], ⟨1, 7, 7, 7⟩)] ∧ runE [(5, [])] [([1], ⟨2, 12, 5, 7⟩)] [0] [0] [5] = 0 ∧ runT [(5, [])] [([1], ⟨2, 12, 5, 7⟩)] [0] [0] [5] = [([1], ⟨2, 12, 5, 7⟩)] := by decide +kernel
set_option maxRecDepth 10000 in
set_option maxHeartbeats 4000000 in
theorem known13_c (k : ∀ F' N', subF F F' → N ≤ N' → (Hp.mk F' M N').wf → K (.bool true) ⟨F', M, N'⟩) : callv Tryz.prog (.func (.func 11) #[] #[]) #[] K E ⟨F, M, N⟩ := by
  refine callv_of_text mixed Tryz.func11 (by kernel_rfl) (t11 _ E) (fun hw => ?_)
  have hm : clean M N := hw.m
  refine pv_r (v := .agg #[.int .i64 5, .slice none 0 0]) (by kernel_rfl) ?_
  refine nws_r (cs := [.int .i64 5, .slice none 0 0]) (by kernel_rfl) (fun b2 hb2 => ?_)
  refine callv_go (fun hc => ⟨_, frz_wf hm (fun q hq => upd_ne _ _ (by omega)) hc, ?_⟩)
  have hs0 := subF_frzAll (N := N) hc
  have f2 := frz_at (F := F) (N := N) (b := b2) (by omega) (upd_same M b2 (some (.cells 74 [.int .i64 5, .slice none 0 0] [Value.int .i64 5, .slice none 0 0].length)))
  generalize frzAll F _ N = F0 at *
  clear hc
  have hd1 : dimD F0 [.int .i64 5, .slice none 0 0] (5, []) := ⟨_, rfl, sF.nil _ _ _, by decide⟩
  have hd : dimsD F0 (.slice (some ⟨b2, 0, none⟩) 1 1) [(5, [])] := ⟨[[.int .i64 5, .slice none 0 0]], sF_lit f2 rfl (by decide), rowsF_snoc1 (rowsF.nil (dimD F0) 2) hd1.one hd1⟩
  refine new_c hd (by decide) (fun h => absurd h (by decide)) (fun _ g dv F1 M1 N1 hF1 hC1 hM1 hN1 hm1 hw1 => ?_)
  try simp only [sS]
  refine pv_r (v := .bool false) rfl ?_
  try simp only [sS]
  refine lit1_r hm1 (fun w1 F2 N2 hF2 hN2 hf1 => ?_)
  have hC2 := hC1.keep (M' := M1) hF2 (fun _ _ => rfl)
  obtain ⟨e1, e2, e3, e4, e5⟩ := known13
  refine add_to_c hC2 (by omega) (by decide) (by decide) (by decide) hf1 (by decide) (fun hv3 F3 M3 N3 rows3 hF3 hC3 hM3 hN3 hm3 hw3 => ?_)
  rw [e1]
  rw [e2] at hC3
  refine lit1_r hm3 (fun w2 F4 N4 hF4 hN4 hf2 => ?_)
  refine add_to_c (hC3.keep (M' := M3) hF4 (fun _ _ => rfl)) (by omega) (by decide) (by decide) (by decide) hf2 (by decide) (fun hv5 F5 M5 N5 rows5 hF5 hC5 hM5 hN5 hm5 hw5 => ?_)
  rw [e3]
  rw [e4] at hC5
  refine nws_r (cs := [.int .i64 0]) (by kernel_rfl) (fun b13 hb13 => ?_)
  refine nws_r (cs := [.int .i64 0]) (by kernel_rfl) (fun b14 hb14 => ?_)
  refine nws_r (cs := [.int .i64 5]) (by kernel_rfl) (fun b15 hb15 => ?_)
  refine pv_r (v := .agg #[.slice (some ⟨b13, 0, none⟩) 1 1, .slice (some ⟨b14, 0, none⟩) 1 1, .slice (some ⟨b15, 0, none⟩) 1 1]) (by kernel_rfl) ?_
  refine nw_r (fun b17 hb17 => ?_)
  refine stM (cs' := [.slice (some ⟨b13, 0, none⟩) 1 1, .slice (some ⟨b14, 0, none⟩) 1 1, .slice (some ⟨b15, 0, none⟩) 1 1]) ?_
  rw [upd_upd]
  refine ldMa (vs := [.slice (some ⟨b13, 0, none⟩) 1 1, .slice (some ⟨b14, 0, none⟩) 1 1, .slice (some ⟨b15, 0, none⟩) 1 1]) ?_
  generalize hM7 : upd (upd (upd (upd M5 b13 _) b14 _) b15 _) b17 _ = M7
  have g17 : M7 b17 = some (.cells 36 [.slice (some ⟨b13, 0, none⟩) 1 1, .slice (some ⟨b14, 0, none⟩) 1 1, .slice (some ⟨b15, 0, none⟩) 1 1] 3) := by rw [← hM7]; exact upd_same _ _ _
  have g15 : M7 b15 = some (.cells 3 [.int .i64 5] 1) := by rw [← hM7]; exact (upd_ne _ _ (by omega)).trans (upd_same _ _ _)
  have g14 : M7 b14 = some (.cells 3 [.int .i64 0] 1) := by rw [← hM7]; exact (upd_ne _ _ (by omega)).trans ((upd_ne _ _ (by omega)).trans (upd_same _ _ _))
  have g13 : M7 b13 = some (.cells 3 [.int .i64 0] 1) := by rw [← hM7]; exact (upd_ne _ _ (by omega)).trans ((upd_ne _ _ (by omega)).trans ((upd_ne _ _ (by omega)).trans (upd_same _ _ _)))
  have hM75 : ∀ q, q < N5 → M7 q = M5 q := fun q hq => by rw [← hM7]; exact (upd_ne _ _ (by omega)).trans ((upd_ne _ _ (by omega)).trans ((upd_ne _ _ (by omega)).trans (upd_ne _ _ (by omega))))
  clear hM7
  obtain ⟨N7, hN7⟩ : ∃ n, n = b17 + 1 := ⟨_, rfl⟩
  rw [← hN7]
  refine callv_go (fun hc => ⟨_, wk_P (p := fun q => q = b13 ∨ q = b14 ∨ q = b15) hc, ?_⟩)
  have hs8 := subF_frzP (p := fun q => q = b13 ∨ q = b14 ∨ q = b15) hc
  have f13 := frzP_at (F := F5) (p := fun q => q = b13 ∨ q = b14 ∨ q = b15) (.inl rfl) g13
  have f14 := frzP_at (F := F5) (p := fun q => q = b13 ∨ q = b14 ∨ q = b15) (.inr (.inl rfl)) g14
  have f15 := frzP_at (F := F5) (p := fun q => q = b13 ∨ q = b14 ∨ q = b15) (.inr (.inr rfl)) g15
  have g17' : keepM M7 (fun q => ¬ (q = b13 ∨ q = b14 ∨ q = b15)) b17 = _ := (keepM_in (by omega)).trans g17
  have hM85 : ∀ q, q < N5 → keepM M7 (fun q => ¬ (q = b13 ∨ q = b14 ∨ q = b15)) q = M5 q := fun q hq => (keepM_in (by omega)).trans (hM75 q hq)
  generalize frzP F5 M7 _ = F8 at *
  generalize keepM M7 _ = M8 at *
  have hq : queryD F8 [.slice (some ⟨b13, 0, none⟩) 1 1, .slice (some ⟨b14, 0, none⟩) 1 1, .slice (some ⟨b15, 0, none⟩) 1 1] [0] [0] [5] := ⟨_, _, _, rfl, int1 f13, int1 f14, int1 f15, by decide, by decide, by decide⟩
  have hC8 := hC5.keep (M' := M8) hs8 (fun q hq => hM85 q (hC5.lt hm5 q hq).2)
  obtain ⟨a1, a2, a3, a4⟩ := known13q
  obtain ⟨r1, r2, r3, r4⟩ := known13r
  refine cquery_c hC8 (by decide) (by decide) (by decide) (by simp [okK, i64]) hq (by simp [i64]) (by rw [a1, a3]; simp [okK, i64]) (fun u9 F9 N9 hw9 hF9 hN9 h9 => ?_)
  rw [a1, a3, r1]
  rw [a1, a3, r2] at h9
  try simp only [sS]
  refine ldMa (vs := [.slice (some ⟨b13, 0, none⟩) 1 1, .slice (some ⟨b14, 0, none⟩) 1 1, .slice (some ⟨b15, 0, none⟩) 1 1]) ?_ g17'
  refine cquery_c (hC8.keep (M' := M8) hF9 (fun _ _ => rfl)) (by decide) (by decide) (by decide) (by simp [okK, i64]) (hq.mono hF9) (by simp [i64]) (by rw [a2, a4]; simp [okK, i64]) (fun u10 F10 N10 hw10 hF10 hN10 h10 => ?_)
  rw [a2, a4, r3]
  rw [a2, a4, r4] at h10
  obtain ⟨p9, h9a, h9b⟩ := h9.mono hF10
  obtain ⟨p10, h10a, h10b⟩ := h10
  try simp only [sS]
  refine eql_t rfl ?_
  try simp only [sS]
  refine eql_t rfl ?_
  try simp only [sS]
  refine eql_t rfl ?_
  try simp only [sS]
  refine eql_t rfl ?_
  try simp only [sS]
  refine lenF_r h9a (eql_t rfl ?_)
  try simp only [sS]
  refine cf_r 1 (i := 0) (x := .int .i64 7) h9a h9b (by decide) rfl fun p q q' => ?_
  refine eql_t rfl ?_
  try simp only [sS]
  refine lenF_r h10a (eql_t rfl ?_)
  try simp only [sS]
  refine cf_r 1 (i := 0) (x := .int .i64 12) h10a h10b (by decide) rfl fun p q q' => ?_
  refine eql_t rfl ?_
  try simp only [sS]
  refine new_c (l := []) ⟨[], sF.nil _ _ _, rowsF.nil _ _⟩ (by decide) (fun _ N11 hN11 hw11 => ?_) (fun h => absurd h (by decide))
  refine pv_r (v := .bool true) rfl ?_
  try simp only [sS]
  refine add_to_c (hC8.keep (M' := M8) (hF9.trans hF10) (fun _ _ => rfl)) (by omega) (by decide) (by decide) (by decide) fcts_nil (by decide) (fun hv12 F12 M12 N12 rows12 hF12 hC12 hM12 hN12 hm12 hw12 => ?_)
  rw [e5]
  refine eql_t rfl ?_
  try simp only [sS]
  have hgN : N ≤ g := by have := hC1.gB; omega
  have hX : ∀ q, q < N → M12 q = M q := fun q hq => by
    have n5 : hv5.ownBlock ≠ some q := fun e => by have := (hC5.oo.ge q e).1; omega
    have n3 : hv3.ownBlock ≠ some q := fun e => by have := (hC3.oo.ge q e).1; omega
    have := (hM12 q n5 (by omega) (by omega)).1
    rw [this, hM85 q (by omega), (hM5 q n3 (by omega) (by omega)).1, (hM3 q (by simp [Value.ownBlock]) (by omega) (by omega)).1, hM1 q (by omega)]
  refine fun hc => ⟨_, frz_wf hm hX hc, fun hw' => k _ _ ((((((((hs0.trans hF1).trans hF2).trans hF3).trans hF4).trans hF5).trans hs8).trans (hF9.trans hF10)).trans (hF12.trans (subF_frzAll hc))) (by omega) hw'⟩
end Go.Proofs.YtgjdjdjhoipfmaaGreatDoor.A
open Go Go.RowKit Go.Proofs.YtgjdjdjhoipfmaaGreatDoor.K
set_option linter.unusedVariables false
set_option maxRecDepth 100000
namespace Go.Proofs.YtgjdjdjhoipfmaaGreatDoor.T
section
variable (K : Kont) (E : PanK) (k1 k2 k3 k4 k5 : Env → Hp → Prop) (x0 x1 x2 x3 x4 x5 x6 x7 x8 x9 x10 x11 x12 x13 x14 x15 x16 x17 x18 x19 x20 x21 x22 x23 x24 x25 x26 x27 x28 x29 x30 x31 x32 x33 x34 x35 x36 x37 x38 x39 x40 x41 x42 x43 x44 x45 x46 x47 x48 x49 x50 x51 x52 x53 x54 x55 x56 x57 x58 x59 x60 x61 x62 x63 x64 x65 x66 x67 x68 x69 x70 x71 x72 x73 x74 x75 x76 x77 x78 x79 x80 x81 x82 x83 x84 x85 x86 x87 x88 x89 x90 x91 x92 x93 x94 x95 x96 x97 x98 x99 x100 x101 x102 x103 x104 x105 x106 x107 x108 x109 x110 x111 x112 x113 x114 x115 x116 x117 x118 x119 x120 v0 v1 v2 v3 v4 v5 v6 v7 v8 v9 v10 v11 v12 v13 v14 v15 v16 v17 v18 v19 v20 v21 v22 v23 v24 v25 v26 v27 v28 v29 v30 v31 v32 v33 v34 v35 v36 v37 v38 v39 v40 v41 v42 v43 v44 v45 v46 v47 v48 v49 v50 v51 v52 v53 v54 v55 v56 v57 v58 v59 v60 v61 v62 v63 v64 v65 v66 v67 v68 v69 v70 v71 v72 v73 v74 v75 v76 v77 v78 v79 v80 v81 v82 v83 v84 v85 v86 v87 v88 v89 v90 v91 v92 v93 v94 v95 v96 v97 v98 v99 v100 v101 v102 v103 v104 v105 v106 v107 v108 v109 v110 v111 v112 v113 v114 v115 v116 v117 v118 v119 v120 : Value) (j : Nat → Value)
abbrev q3 : QD := bodyQ Tryz.prog Tryz.f3.results.toList K E
abbrev d3 (p : List Nat) : QD → Env → Hp → Prop := den Tryz.prog (sel (bodyOf Tryz.f3) p)
end
section
variable {K : Kont} {E : PanK} {k1 k2 k3 k4 k5 : Env → Hp → Prop} {σ : Type} {x0 x1 x2 x3 x4 x5 x6 x7 x8 x9 x10 x11 x12 x13 x14 x15 x16 x17 x18 x19 x20 x21 x22 x23 x24 x25 x26 x27 x28 x29 x30 x31 x32 x33 x34 x35 x36 x37 x38 x39 x40 x41 x42 x43 x44 x45 x46 x47 x48 x49 x50 x51 x52 x53 x54 x55 x56 x57 x58 x59 x60 x61 x62 x63 x64 x65 x66 x67 x68 x69 x70 x71 x72 x73 x74 x75 x76 x77 x78 x79 x80 x81 x82 x83 x84 x85 x86 x87 x88 x89 x90 x91 x92 x93 x94 x95 x96 x97 x98 x99 x100 x101 x102 x103 x104 x105 x106 x107 x108 x109 x110 x111 x112 x113 x114 x115 x116 x117 x118 x119 x120 v0 v1 v2 v3 v4 v5 v6 v7 v8 v9 v10 v11 v12 v13 v14 v15 v16 v17 v18 v19 v20 v21 v22 v23 v24 v25 v26 v27 v28 v29 v30 v31 v32 v33 v34 v35 v36 v37 v38 v39 v40 v41 v42 v43 v44 v45 v46 v47 v48 v49 v50 v51 v52 v53 v54 v55 v56 v57 v58 v59 v60 v61 v62 v63 v64 v65 v66 v67 v68 v69 v70 v71 v72 v73 v74 v75 v76 v77 v78 v79 v80 v81 v82 v83 v84 v85 v86 v87 v88 v89 v90 v91 v92 v93 v94 v95 v96 v97 v98 v99 v100 v101 v102 v103 v104 v105 v106 v107 v108 v109 v110 v111 v112 v113 v114 v115 v116 v117 v118 v119 v120 : Value} {h : Hp} {j : Nat → Value}
end
end Go.Proofs.YtgjdjdjhoipfmaaGreatDoor.T
open Go Go.RowKit Go.Proofs.YtgjdjdjhoipfmaaGreatDoor.K Go.Proofs.YtgjdjdjhoipfmaaGreatDoor.T
set_option linter.unusedVariables false
set_option linter.unusedSimpArgs false
namespace Go.Proofs.YtgjdjdjhoipfmaaGreatDoor.A
variable {F F' : Nat → Option (List Value)} {M M' : Nat → Option Chunk} {N N' : Nat} {K : Kont} {E : PanK}
theorem runT_len (l : List Dm) (t : List Rw) (m lo hi : List Int) : (runT l t m lo hi).length ≤ t.length := by
  have h1 := rollT_len l (cutF lo hi t) (zeros l.length) m
  have h2 := cutF_len lo hi t
  unfold runT
  split
  · unfold runRows; omega
  · simp
theorem keyOf_in {l : List Dm} (hs : ∀ d ∈ l, 0 < d.1 ∧ d.1 ≤ 1000000) (c : List Int) : inF l (keyOf l c) = true := by
  have hkl := keyOf_len l c
  unfold inF
  rw [decide_eq_true hkl, Bool.true_and, List.all_eq_true]
  intro i hi
  have hi' : i < l.length := List.mem_range.1 hi
  have := keyOf_at (c := c) hs (by omega : i < (keyOf l c).length) hi'
  unfold inP
  rw [getD_at (by omega : i < (keyOf l c).length), getD_at hi']
  exact decide_eq_true this
theorem goodDims_sz {l : List Dm} (h : goodDims l) : ∀ d ∈ l, 0 < d.1 ∧ d.1 ≤ 1000000 := fun d hd => by have := h.2.2 d hd; omega
theorem facts_fit {l : List Dm} (hl : goodDims l) (ks : List (List Int)) (v : List Int) : fitsF l (factsOf l ks v) = true := by
  refine of_fitsF (by rw [factsOf_len]; omega) fun f hf => ?_
  obtain ⟨c, hc⟩ := (factsOf_mem hf).1
  rw [hc]; exact keyOf_in (goodDims_sz hl) c
theorem u32w {x : Int} (h0 : 0 ≤ x) (h1 : x < 4294967296) : IntKind.u32.wrap x = x := by
  unfold IntKind.wrap
  simp [IntKind.bits, IntKind.signed]
  omega
theorem u32_cv {k : IntKind} {x : Int} {h : Hp} (h0 : 0 ≤ x) (h1 : x < 4294967296) (kk : K (.int .u32 x) h) : pv (cvV .u32 (.int k x)) K h := ⟨_, rfl, by rw [u32w h0 h1]; exact kk⟩
theorem u32_add {e : EqK} {a b : Int} {h : Hp} (h0 : 0 ≤ a + b) (h1 : a + b < 4294967296) (kk : K (.int .u32 (a + b)) h) : pv (binV e .add (.int .u32 a) (.int .u32 b)) K h := ⟨_, by rw [inV]; rfl, by rw [u32w h0 h1]; exact kk⟩
theorem ptr_ne {b : Nat} {h : Hp} (k : K (.bool false) h) : pv (binV .ptr .eql (.pointer (some ⟨b, 0, none⟩)) (.pointer none)) K h := ⟨_, rfl, k⟩
end Go.Proofs.YtgjdjdjhoipfmaaGreatDoor.A
open Go Go.RowKit Go.Proofs.YtgjdjdjhoipfmaaGreatDoor.K Go.Proofs.YtgjdjdjhoipfmaaGreatDoor.T
set_option linter.unusedVariables false
set_option linter.unusedSimpArgs false
namespace Go.Proofs.YtgjdjdjhoipfmaaGreatDoor.A
variable {F F' : Nat → Option (List Value)} {M M' : Nat → Option Chunk} {N N' : Nat} {K : Kont} {E : PanK}
end Go.Proofs.YtgjdjdjhoipfmaaGreatDoor.A
