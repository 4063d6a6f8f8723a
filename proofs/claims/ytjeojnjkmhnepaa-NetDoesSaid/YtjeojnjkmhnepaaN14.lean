import Derived.Test.YtjeojnjkmhnepaaNR3
import Derived.Test.YtjeojnjkmhnepaaTN10
open Go Go.RowKit Go.Proofs.Ytjeojnjkmhnepaa.K Go.Proofs.Ytjeojnjkmhnepaa.T
set_option linter.unusedVariables false
set_option linter.unusedSimpArgs false
namespace Go.Proofs.Ytjeojnjkmhnepaa.N
variable {F F' : Nat → Option (List Value)} {M M' : Nat → Option Chunk} {N N' : Nat} {K : Kont} {E : PanK}
/-- NetDoes -/
theorem netDoes_c {v0 : Value} {l : List OP} (hv : opsF F v0 l)
    (k : ∀ F' M' N', (Hp.mk F' M' N').wf → K (.bool true) ⟨F', M', N'⟩) : call Try.prog 10 #[v0] K E ⟨F, M, N⟩ := by
  refine call_text mixed Try.func10 (by kernel_rfl) (t10 _ E _) (fun hw => ?_)
  obtain ⟨a0, c0, hf0, hc0⟩ := hv.form
  subst hf0
  refine heavy_c hv (fun b hb hw1 => ?_)
  cases b with
  | true =>
    refine gd_tf (gd_tf (pv_r rfl (cnd_t ?_)))
    exact known_c (fun N2 hN2 hw2 hc => ⟨_, wk_refl hc, fun hw' => k _ _ _ hw'⟩)
  | false =>
  have hl := hb rfl
  refine gd_ff ?_
  refine known_c (fun N1 hN1 hw1 => ?_)
  refine gd_ff (pv_r rfl (pv_r rfl (cnd_f ?_)))
  refine new_c hw1.m (fun g N2 h2 hN2 hw2 hg => ?_)
  generalize upd M g (some (.cells 87 [.slice none 0 0] 1)) = M2 at *
  obtain ⟨hg2, ho2⟩ := h2.lt hw2.m
  refine rnew_c hw2.m (fun gr N3 h3 hN3 hw3 hgr => ?_)
  have h2' := h2.keep (M' := upd M2 gr (some (.cells 77 [.slice none 0 0] 1))) (subF.refl _) fun q hq => upd_ne _ _ (by rcases hq with rfl | hq; omega; have := ho2 q hq; omega)
  have h3' : isNet 77 F (upd M2 gr (some (.cells 77 [.slice none 0 0] 1))) N1 gr (.slice none 0 0) [] [] := ⟨upd_same _ _ _, by omega, rowsF.nil _ _, .inl ⟨rfl, rfl⟩⟩
  have hs : sep g (.slice none 0 0) gr (.slice none 0 0) := ⟨⟨by omega, by simp [Value.ownBlock]⟩, fun q hq => by simp [Value.ownBlock] at hq⟩
  refine pv_r rfl (cnd_f ?_)
  generalize upd M2 gr (some (.cells 77 [.slice none 0 0] 1)) = M3 at *
  refine l10_1_1_1_1_1_0_1_0_0 (σ := Nat) (fun s => .int .i64 (s : Nat))
    (fun s h => s ≤ l.length ∧ ∃ F' M' N' v rows vr rrows ms, h = ⟨F', M', N'⟩ ∧ subF F F' ∧ N1 ≤ N' ∧ isNet 87 F' M' N1 g v rows ms ∧ isNet 77 F' M' N1 gr vr rrows ms ∧ sep g v gr vr ∧ ms.length ≤ s ∧ (∀ m ∈ ms, m.b.length ≤ 140737488351232)) (fun s => l.length - s) 0 rfl
    (fun hc => ⟨_, wk_refl hc, Nat.zero_le _, F, M3, N3, _, _, _, _, [], rfl, subF.refl _, by omega, h2', h3', hs, Nat.le_refl _, fun m hm => by cases hm⟩) ?_
  rintro k1 i j h ⟨hi, F4, M4, N4, v4, rows4, vr4, rrows4, ms, rfl, hF4, hN4, h4, hr4, hs4, hms, hbs⟩ hw4 next
  simp only at hi ⊢
  refine pv_r rfl ?_
  by_cases hlt : i < l.length
  · obtain ⟨o, ho⟩ : ∃ o, l[i]? = some o := ⟨l[i], by simp [hlt]⟩
    obtain ⟨b, o0, c', cs, vb, e, hF, _, _, _, _, _, hcut, hcl, hvb, hk, _, hbl⟩ := (hv.mono hF4).at ho
    injection e with e _ _
    subst e
    refine lss_t (by omega) (cnd_t (iaN_r hlt ?_))
    refine ld_r (ldV_a (vs := [.int .u8 o.k, .int .i64 o.f, .int .i64 o.t, vb, .int .i64 o.i]) (row_F hF) hcl hcut) ?_
    refine does_c h4 hr4 hs4 hN4 (by omega) hbs hvb hk hbl (fun ms5 F5 M5 N5 v5 rows5 vr5 rrows5 hF5 hN5 h5 hr5 hs5 hl5 hbs5 hw5 => ?_)
    have hg5 := hr5.gg
    obtain ⟨ar, cr, rfl, _⟩ := hr5.form
    refine pv_r rfl (gd_ff (gd_ff (pv_r rfl (gd_ff (pv_r rfl (gd_ff ?_))))))
    refine ldM ?_
    refine gd_ff ?_
    obtain ⟨hg5', ho5'⟩ := h5.lt hw5.m
    obtain ⟨hgr5, hor5⟩ := hr5.lt hw5.m
    refine all_c h5 (by omega) (fun v6 M6 N6 rows6 hw6 hN6 hM6 ho6 => ?_)
    have hr6 := hr5.keep (M' := M6) (subF.refl _) fun q hq => hM6 q (by rcases hq with rfl | hq; exact hgr5; exact hor5 q hq)
    refine ⟨fun _ => ldV_c (row_M hr6.gg) rfl, gd_ff ?_⟩
    refine same_c ho6.S hr6.S (by omega) (fun hw7 => gd_ff (pv_r rfl (pv_r rfl (cnd_f (inc_r (by omega) ?_)))))
    exact next (i + 1) _ _ (by omega) (fun hc => ⟨_, wk_refl hc, by omega, F5, M6, N6, v5, rows5, _, rrows5, ms5, rfl, hF4.trans hF5, by omega, h5.keep (subF.refl _) fun q hq => hM6 q (by rcases hq with rfl | hq; exact hg5'; exact ho5' q hq), hr6, hs5, by omega, hbs5⟩)
  · refine lss_f (by omega) (cnd_f ?_)
    rw [t10_1_1_1_1_1_1]
    exact fun hc => ⟨_, wk_refl hc, fun hw' => k _ _ _ hw'⟩
theorem NetDoes_true (v : Value) {y : List (Int × Int × Int × List Int × Int)} (W : World) (hv : rS 5 opK (F0 W) [v] y) :
    Calls Try.prog 10 #[v] W fun e w' => e = .returned (.bool true) ∧ Below W.heap.size W w' :=
  (calls0 (K := fun v => v = .bool true) (netDoes_c (opsF_of hv) fun _ _ _ _ => rfl)).mono fun e w' ⟨⟨v, he, hv⟩, hb⟩ => ⟨by rw [he, hv], hb⟩
end Go.Proofs.Ytjeojnjkmhnepaa.N
