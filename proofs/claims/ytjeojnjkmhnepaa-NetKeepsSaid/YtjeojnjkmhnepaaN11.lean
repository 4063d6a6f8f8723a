import Derived.Test.YtjeojnjkmhnepaaNS
import Derived.Test.YtjeojnjkmhnepaaTN11
open Go Go.RowKit Go.Proofs.Ytjeojnjkmhnepaa.K Go.Proofs.Ytjeojnjkmhnepaa.T
set_option linter.unusedVariables false
set_option linter.unusedSimpArgs false
namespace Go.Proofs.Ytjeojnjkmhnepaa.N
variable {F F' : Nat → Option (List Value)} {M M' : Nat → Option Chunk} {N N' : Nat} {K : Kont} {E : PanK}
theorem take_ml {l : List OP} {i : Nat} {o : OP} (ho : l[i]? = some o) : (l.take (i + 1)).map OP.ml = (l.take i).map OP.ml ++ [⟨o.f, o.t, o.b⟩] := by
  rw [List.take_add_one, ho, List.map_append]; rfl
/-- NetKeeps -/
theorem netKeeps_c {v0 : Value} {l : List OP} (hv : opsF F v0 l)
    (k : ∀ F' M' N', (Hp.mk F' M' N').wf → K (.bool true) ⟨F', M', N'⟩) : call Try.prog 11 #[v0] K E ⟨F, M, N⟩ := by
  refine call_text mixed Try.func11 (by kernel_rfl) (t11 _ E _) (fun hw => ?_)
  obtain ⟨a0, c0, hf0, hc0⟩ := hv.form
  subst hf0
  refine heavy_c hv (fun b hb hw1 => ?_)
  cases b with
  | true =>
    refine gd_tf (gd_tf (pv_r rfl (cnd_t ?_)))
    exact known_c (fun N2 hN2 hw2 hc => ⟨_, wk_refl hc, fun hw' => k _ _ _ hw'⟩)
  | false =>
  have hl := hb rfl
  refine gd_ff ?_
  refine known_c (fun N1 hN1 hw1 => ?_)
  refine gd_ff (pv_r rfl (pv_r rfl (cnd_f ?_)))
  refine new_c hw1.m (fun g N2 h2 hN2 hw2 hg => ?_)
  refine pv_r rfl (cnd_f ?_)
  generalize upd M g (some (.cells 87 [.slice none 0 0] 1)) = M2 at *
  refine l11_1_1_1_1_1_0_1_0_0 (σ := Value × Nat) (fun s => s.1) (fun s => .int .i64 (s.2 : Nat))
    (fun s h => s.2 ≤ l.length ∧ ∃ F' M' N' v rows srows, h = ⟨F', M', N'⟩ ∧ subF F F' ∧ N1 ≤ N' ∧ isNet 87 F' M' N1 g v rows ((l.take s.2).map OP.ml) ∧ sentQ F' M' N1 s.1 srows ((l.take s.2).map OP.ml) ∧ (∀ q, s.1.ownBlock = some q → farN g v q)) (fun s => l.length - s.2) (.slice none 0 0, 0) rfl rfl
    (fun hc => ⟨_, wk_refl hc, Nat.zero_le _, F, M2, N2, _, _, [], rfl, subF.refl _, hN2, h2, ⟨rowsF.nil _ _, .inl ⟨rfl, rfl⟩⟩, fun q hq => by simp [Value.ownBlock] at hq⟩) ?_
  rintro k1 ⟨sv, i⟩ j h ⟨hi, F3, M3, N3, v3, rows3, srows, rfl, hF3, hN3, h3, hs3, hfar3⟩ hw3 next
  simp only at hi h3 hs3 hfar3 ⊢
  refine pv_r rfl ?_
  have hm3 := hw3.m
  obtain ⟨hg3, ho3⟩ := h3.lt hm3
  have hsl3 := hs3.lt hm3
  by_cases hlt : i < l.length
  · obtain ⟨o, ho⟩ : ∃ o, l[i]? = some o := ⟨l[i], by simp [hlt]⟩
    obtain ⟨b, o0, c', cs, vb, e, hF, e0, e1, e2, e3, e4, _, _, hvb, _, _, hbl⟩ := (hv.mono hF3).at ho
    injection e with e _ _
    subst e
    obtain ⟨av, cv, rfl, _⟩ := hvb.form
    refine lss_t (by omega) (cnd_t (iaN_r hlt (pv_r rfl ?_)))
    refine ld_r (ldV_c (row_F hF) e1) (iaN_r hlt (pv_r rfl ?_))
    refine ld_r (ldV_c (row_F hF) e2) (iaN_r hlt (pv_r rfl ?_))
    refine ld_r (ldV_c (row_F hF) e3) ?_
    refine pv_r (v := .agg #[.int .i64 o.f, .int .i64 o.t, .slice av o.b.length cv]) (by kernel_rfl) ?_
    refine nw_r (fun b5 hb5 => ⟨ldV_c (row_F hF) e3, ldV_c (row_F hF) e2, ldV_c (row_F hF) e1, ?_⟩)
    refine stM ?_
    refine ldMa ?_
    generalize hM5 : upd (upd M3 b5 _) b5 _ = M5
    have e5 : M5 b5 = some (.cells 61 [Value.int .i64 o.f, .int .i64 o.t, .slice av o.b.length cv] 3) := by rw [← hM5]; exact upd_same _ _ _
    have ne5 : ∀ q, q ≠ b5 → M5 q = M3 q := fun q hq => by rw [← hM5]; exact (upd_ne _ _ hq).trans (upd_ne _ _ hq)
    refine send_c (h3.keep (subF.refl _) fun q hq => ne5 q (by rcases hq with rfl | hq; omega; have := ho3 q hq; omega)) (by omega) hvb.sR (by omega) (fun h => absurd (by simp; omega) h) (fun _ F4 M4 N4 v4 rows4 hF4 hN4 h4 hfar4 hw4 => ?_)
    refine cnd_t ?_
    have f5 := hfar4 b5 ⟨by omega, fun he => by have := ho3 b5 he; omega⟩ (by omega)
    refine ldMa ?_ (f5.1.trans e5)
    refine nws_r (cs := [.int .i64 o.f, .int .i64 o.t, .slice av o.b.length cv]) (by kernel_rfl) (fun b6 hb6 => ?_)
    have hm4 := hw4.m
    obtain ⟨hg4, ho4⟩ := h4.lt hm4
    have hs4 : sentQ F4 (upd M4 b6 (some (.cells 61 [Value.int .i64 o.f, .int .i64 o.t, .slice av o.b.length cv] 3))) N1 sv srows ((l.take i).map OP.ml) := hs3.keep hF4 fun q hq => by
      have h1 := hsl3 q hq
      exact (upd_ne _ _ (by omega)).trans ((hfar4 q (hfar3 q hq) (by omega)).1.trans (ne5 q (by omega)))
    refine hs4.app (n := 1) (news := [⟨o.f, o.t, o.b⟩]) (r := [[.int .i64 o.f, .int .i64 o.t, .slice av o.b.length cv]]) (fun q hq => (upd_ne _ _ (by omega)).trans (hm4 q (by omega))) (by omega) rfl (by omega)
      ((rowsF.nil _ _).snoc rfl (List.all_eq_true.1 rfl) ⟨_, rfl, hvb.mono hF4, by simp only; omega⟩) ⟨rfl, .inr ⟨b6, 0, 1, _, rfl, .inr ⟨.inr ⟨_, _, upd_same _ _ _⟩, rfl⟩⟩⟩ (by simp; omega) (fun v7 M7 N7 hN7 hM7 hv7 hs7 hm7 => ?_)
    rw [t11_1_1_1_1_1_0_1_0_0_1_1]
    refine inc_r (by omega) ?_
    exact next (v7, i + 1) _ _ (by simp only; omega) (fun hc => ⟨_, wk_refl hc, by simp only; omega, F4, M7, N7, v4, rows4, _, rfl, hF3.trans hF4, by omega, by
      simp only
      rw [take_ml ho]
      refine h4.keep (subF.refl _) fun q hq => ?_
      have hqN : q < N4 := by rcases hq with rfl | hq; exact hg4; exact ho4 q hq
      have hne : sv.ownBlock ≠ some q := fun he => by
        have h1 := (hfar4 q (hfar3 q he) (by have := hsl3 q he; omega)).2
        rcases hq with rfl | hq
        · exact h1.1 rfl
        · exact h1.2 hq
      exact (hM7 q hne (by omega)).trans (upd_ne _ _ (by omega)), by simp only; rw [take_ml ho]; exact hs7, fun q hq => by
      simp only at hq
      rcases (hv7 q hq).1 with h1 | h1
      · exact (hfar4 q (hfar3 q h1) (by have := hsl3 q h1; omega)).2
      · exact ⟨by omega, fun he => by have := ho4 q he; omega⟩⟩)
  obtain rfl : i = l.length := by omega
  refine lss_f (by omega) (cnd_f ?_)
  rw [t11_1_1_1_1_1_1]
  rw [List.take_length] at h3 hs3
  clear next
  obtain ⟨asv, csv, hsv, hscs⟩ := hs3.S.form
  refine l11_1_1_1_1_1_1_0_1_0_0 (σ := Nat) (fun s => .int .i64 (s : Nat))
    (fun s h => s ≤ l.length ∧ ∃ F' M' N' v rows, h = ⟨F', M', N'⟩ ∧ N1 ≤ N' ∧ isNet 87 F' M' N1 g v rows ((l.drop s).map OP.ml) ∧ sentQ F' M' N1 sv srows (l.map OP.ml) ∧ (∀ q, sv.ownBlock = some q → farN g v q)) (fun s => l.length - s) 0 rfl
    (fun hc => ⟨_, wk_refl hc, Nat.zero_le _, F3, M3, N3, v3, rows3, rfl, hN3, h3, hs3, hfar3⟩) ?_
  clear h3 hs3 hfar3 hsl3 ho3 hg3 hm3
  have hlm : (l.map OP.ml).length = l.length := by simp
  rintro k1 i j h ⟨hi, F4, M4, N4, v4, rows4, rfl, hN4, h4, hs4, hfar4⟩ hw4 next
  simp only at hi ⊢
  have hm4 := hw4.m
  have hsl4 := hs4.lt hm4
  refine pv_r (v := .int .i64 (l.length : Nat)) (by rw [hsv, hlm]; rfl) ?_
  by_cases hlt : i < l.length
  · obtain ⟨o, ho⟩ : ∃ o, l[i]? = some o := ⟨l[i], by simp [hlt]⟩
    have hdr : (l.drop i).map OP.ml = o.ml :: (l.drop (i + 1)).map OP.ml := by
      obtain ⟨hlt', rfl⟩ := List.getElem?_eq_some_iff.1 ho
      rw [List.drop_eq_getElem_cons hlt']; rfl
    rw [hdr] at h4
    refine lss_t (by omega) (cnd_t ?_)
    refine take_c h4 (fun h => absurd (by simp) h) (fun j1 m hj1 hm1 M5 N5 bv5 v5 rows5 hbv5 hbl5 hN5 h5 hfar5 hw5 => ?_)
    obtain rfl : j1 = 0 := by omega
    obtain rfl : o.ml = m := by simpa using hm1
    simp only [List.eraseIdx_zero, List.tail_cons] at h5
    obtain ⟨a5, c5, rfl, _⟩ := hbv5.form
    obtain ⟨hg5, ho5⟩ := h5.lt hw5.m
    refine pv_r rfl (pv_r rfl ?_)
    have hm5 := hw5.m
    refine nw_r (fun b6 hb6 => ?_)
    refine stM ?_
    refine pv_r rfl (gd_ff ?_)
    refine ldMa ?_
    refine gd_ff (gd_ff (gd_ff (inc_r (by omega) (gd_ff ?_))))
    have hs5 : sentQ F4 M5 N1 sv srows (l.map OP.ml) := hs4.keep (subF.refl _) fun q hq => (hfar5 q (hfar4 q hq) (hsl4 q hq).1).1
    rcases hs5.oo with ⟨_, h0⟩ | ⟨bs, c5', hsv', hcs', _, _, _⟩
    · rw [h0] at hlm; simp at hlm; omega
    rw [hlm] at hsv' hcs'
    subst hsv'
    refine sl_mid i (i + 1) (by omega) (by omega) (by omega) (gd_ff ?_)
    refine nws_r (cs := [.int .i64 o.ml.f, .int .i64 o.ml.t, .slice a5 o.ml.b.length c5]) (by kernel_rfl) (fun b7 hb7 => gd_ff ?_)
    have hk7 : ∀ (q : Nat) (c : Chunk), M5 q = some c → (upd (upd (upd M5 b6 (some (.cells 61 [Value.int .i64 0, .int .i64 0, .slice none 0 0] 3))) b6 (some (.cells 61 [Value.int .i64 o.ml.f, .int .i64 o.ml.t, .slice a5 o.ml.b.length c5] 3))) b7 (some (.cells 61 [Value.int .i64 o.ml.f, .int .i64 o.ml.t, .slice a5 o.ml.b.length c5] 3))) q = some c := fun q c hq => by
      have : q < N5 := by
        rcases Nat.lt_or_ge q N5 with h | h
        · exact h
        · rw [hm5 q h] at hq; cases hq
      exact (upd_ne _ _ (by omega)).trans ((upd_ne _ _ (by omega)).trans ((upd_ne _ _ (by omega)).trans hq))
    refine same_c (ms := [o.ml]) (msR_one (upd_same _ _ _) hbv5.sR (Nat.le_refl _)) ((hs5.S.keep (subF.refl _) hk7).cut (by rw [List.getElem?_map, ho]; rfl) (by omega)) (by simp) (fun hw7 => gd_ff (pv_r rfl (pv_r rfl (cnd_f (inc_r (by omega) ?_)))))
    refine next (i + 1) _ _ (by omega) (fun hc => ⟨_, wk_refl hc, by omega, F4, _, _, v5, rows5, rfl, by omega, h5.keep (subF.refl _) fun q hq => ?_, hs5.keep (subF.refl _) fun q hq => ?_, fun q hq => (hfar5 q (hfar4 q hq) (hsl4 q hq).1).2⟩)
    · have hqN : q < N5 := by rcases hq with rfl | hq; exact hg5; exact ho5 q hq
      exact (upd_ne _ _ (by omega)).trans ((upd_ne _ _ (by omega)).trans (upd_ne _ _ (by omega)))
    · have := (hsl4 q hq).1
      exact (upd_ne _ _ (by omega)).trans ((upd_ne _ _ (by omega)).trans (upd_ne _ _ (by omega)))
  · refine lss_f (by omega) (cnd_f ?_)
    rw [t11_1_1_1_1_1_1_1]
    have hnil : (l.drop i).map OP.ml = [] := by rw [List.drop_eq_nil_of_le (by omega)]; rfl
    rw [hnil] at h4
    refine take_c h4 (fun _ N5 hN5 hw5 => ?_) (fun j1 m hj1 hm1 => by simp at hm1)
    refine pv_r rfl (pv_r rfl ?_)
    refine nw_r (fun b6 hb6 => ?_)
    refine stM ?_
    refine pv_r rfl (gd_tt (gd_tt (pv_r (v := .int .i64 (l.length : Nat)) (by rw [hsv, hlm]; rfl) (gd_tt (gd_tt (pv_r rfl (gd_tt (eql_t rfl (pv_r rfl fun hc => ?_)))))))))
    exact ⟨_, wk_refl hc, fun hw' => k _ _ _ hw'⟩
theorem NetKeeps_true (v : Value) {y : List (Int × Int × Int × List Int × Int)} (W : World) (hv : rS 5 opK (F0 W) [v] y) :
    Calls Try.prog 11 #[v] W fun e w' => e = .returned (.bool true) ∧ Below W.heap.size W w' :=
  (calls0 (K := fun v => v = .bool true) (netKeeps_c (opsF_of hv) fun _ _ _ _ => rfl)).mono fun e w' ⟨⟨v, he, hv⟩, hb⟩ => ⟨by rw [he, hv], hb⟩
end Go.Proofs.Ytjeojnjkmhnepaa.N
