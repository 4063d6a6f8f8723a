import Derived.Test.YtjeojnjkmhnepaaN10
import Derived.Test.YtjeojnjkmhnepaaTN13
open Go Go.RowKit Go.Proofs.Ytjeojnjkmhnepaa.K Go.Proofs.Ytjeojnjkmhnepaa.T
set_option linter.unusedVariables false
set_option linter.unusedSimpArgs false
namespace Go.Proofs.Ytjeojnjkmhnepaa.N
variable {F F' : Nat → Option (List Value)} {M M' : Nat → Option Chunk} {N N' : Nat} {K : Kont} {E : PanK}
theorem at_mid {α : Type} (C D : List α) (m : α) : (C ++ m :: D)[C.length]? = some m := by simp
/-- NetTwice -/
theorem netTwice_c {n : Int} {v0 : Value} {l : List OP} (hn : 0 ≤ n ∧ n ≤ 65535) (hv : opsF F v0 l)
    (k : ∀ F' M' N', (Hp.mk F' M' N').wf → K (.bool true) ⟨F', M', N'⟩) : call Try.prog 13 #[v0, .int .u16 n] K E ⟨F, M, N⟩ := by
  refine call_text mixed Try.func13 (by kernel_rfl) (t13 _ E _ _) (fun hw => ?_)
  obtain ⟨a0, c0, hf0, hc0⟩ := hv.form
  subst hf0
  refine heavy_c hv (fun b hb hw1 => ?_)
  cases b with
  | true =>
    refine gd_tf (gd_tf (gd_tf (pv_r rfl (gd_tf (gd_tf (pv_r rfl (cnd_t ?_)))))))
    exact known_c (fun N2 hN2 hw2 hc => ⟨_, wk_refl hc, fun hw' => k _ _ _ hw'⟩)
  | false =>
  have hl := hb rfl
  refine gd_ff (gd_ff (pv_r rfl (gd_ff ?_)))
  refine eql_r (fun h0 => ?_) (fun h0 => ?_)
  · refine pv_r rfl (gd_tf (gd_tf (pv_r rfl (cnd_t ?_))))
    exact known_c (fun N2 hN2 hw2 hc => ⟨_, wk_refl hc, fun hw' => k _ _ _ hw'⟩)
  refine pv_r rfl (gd_ff ?_)
  refine known_c (fun N1 hN1 hw1 => ?_)
  refine gd_ff (pv_r rfl (pv_r rfl (cnd_f ?_)))
  refine new_c hw1.m (fun g N2 h2 hN2 hw2 hg => ?_)
  refine pv_r rfl (cnd_f ?_)
  generalize upd M g (some (.cells 87 [.slice none 0 0] 1)) = M2 at *
  refine l13_1_1_1_1_0_1_0_0 (σ := Nat) (fun s => .int .i64 (s : Nat))
    (fun s h => s ≤ l.length ∧ ∃ F' M' N' v rows, h = ⟨F', M', N'⟩ ∧ subF F F' ∧ N1 ≤ N' ∧ isNet 87 F' M' N1 g v rows ((l.take s).map OP.ml)) (fun s => l.length - s) 0 rfl
    (fun hc => ⟨_, wk_refl hc, Nat.zero_le _, F, M2, N2, _, _, rfl, subF.refl _, hN2, h2⟩) ?_
  rintro k1 i j h ⟨hi, F3, M3, N3, v3, rows3, rfl, hF3, hN3, h3⟩ hw3 next
  simp only at hi ⊢
  refine pv_r rfl ?_
  by_cases hlt : i < l.length
  · obtain ⟨o, ho⟩ : ∃ o, l[i]? = some o := ⟨l[i], by simp [hlt]⟩
    obtain ⟨b, o0, c', cs, vb, e, hF, e0, e1, e2, e3, e4, _, _, hvb, _, _, hbl⟩ := (hv.mono hF3).at ho
    injection e with e _ _
    subst e
    obtain ⟨av, cv, rfl, _⟩ := hvb.form
    refine lss_t (by omega) (cnd_t (iaN_r hlt (pv_r rfl ?_)))
    refine ld_r (ldV_c (row_F hF) e1) (iaN_r hlt (pv_r rfl ?_))
    refine ld_r (ldV_c (row_F hF) e2) (iaN_r hlt (pv_r rfl ?_))
    refine ld_r (ldV_c (row_F hF) e3) ?_
    refine pv_r (v := .agg #[.int .i64 o.f, .int .i64 o.t, .slice av o.b.length cv]) (by kernel_rfl) ?_
    refine send_c h3 hN3 hvb.sR (by omega) (fun h => absurd (by simp; omega) h) (fun _ F4 M4 N4 v4 rows4 hF4 hN4 h4 hfar4 hw4 => ?_)
    refine inc_r (by omega) ?_
    exact next (i + 1) _ _ (by omega) (fun hc => ⟨_, wk_refl hc, by omega, F4, M4, N4, v4, rows4, rfl, hF3.trans hF4, by omega, by
      have : (l.take (i + 1)).map OP.ml = (l.take i).map OP.ml ++ [⟨o.f, o.t, o.b⟩] := by rw [List.take_add_one, ho, List.map_append]; rfl
      rw [this]; exact h4⟩)
  obtain rfl : i = l.length := by omega
  refine lss_f (by omega) (cnd_f ?_)
  rw [t13_1_1_1_1_1]
  rw [List.take_length] at h3
  refine cv_r (by omega) (by omega) (pv_r rfl (rem_r (by omega) ?_))
  obtain ⟨q, hq, hql⟩ : ∃ q : Nat, n.tmod (l.length : Nat) = q ∧ q < l.length := by
    refine ⟨(n % (l.length : Nat)).toNat, ?_, ?_⟩
    · rw [Int.tmod_eq_emod_of_nonneg hn.1]
      have := Int.emod_nonneg n (b := (l.length : Nat)) (by omega)
      omega
    · have h1 := Int.emod_nonneg n (b := (l.length : Nat)) (by omega)
      have h2 := Int.emod_lt_of_pos n (b := (l.length : Nat)) (by omega)
      omega
  rw [hq]
  have hlm : (l.map OP.ml).length = l.length := by simp
  refine twice_c h3 hN3 (fun h => absurd (by omega) h) (fun C D m hms hi' _ F4 M4 N4 v4 rows4 hF4 hN4 h4 hfar4 hw4 => ?_)
  obtain rfl : q = C.length := by omega
  have hlen : (l.map OP.ml).length = C.length + (D.length + 1) := by rw [hms]; simp
  obtain ⟨o, ho⟩ : ∃ o, l[C.length]? = some o := ⟨l[C.length], by simp [hql]⟩
  have hm : o.ml = m := by
    have h1 : (l.map OP.ml)[C.length]? = some m := by rw [hms]; exact at_mid C D m
    rw [List.getElem?_map, ho] at h1
    simpa using h1
  refine take_c h4 (fun h => absurd (by simp; omega) h) (fun j1 m1 hj1 hm1 M5 N5 bv5 v5 rows5 hbv5 hbl5 hN5 h5 hfar5 hw5 => ?_)
  obtain rfl : j1 = C.length := by omega
  obtain rfl : m = m1 := by rw [at_mid] at hm1; exact Option.some.inj hm1
  rw [erase_at] at h5
  obtain ⟨a5, c5, rfl, _⟩ := hbv5.form
  obtain ⟨hg5, ho5⟩ := h5.lt hw5.m
  refine pv_r rfl (pv_r rfl ?_)
  have hm5 := hw5.m
  refine nw_r (fun b6 hb6 => ?_)
  refine stM ?_
  have h6 := h5.keep (M' := upd (upd M5 b6 (some (.cells 61 [Value.int .i64 0, .int .i64 0, .slice none 0 0] 3))) b6 (some (.cells 61 [Value.int .i64 m.f, .int .i64 m.t, .slice a5 m.b.length c5] 3))) (subF.refl _) (fun k hk => by
    have : k ≠ b6 := by rcases hk with rfl | hk; omega; have := ho5 k hk; omega
    exact (upd_ne _ _ this).trans (upd_ne _ _ this))
  refine take_c h6 (fun h => absurd (by simp; omega) h) (fun j2 m2 hj2 hm2 M7 N7 bv7 v7 rows7 hbv7 hbl7 hN7 h7 hfar7 hw7 => ?_)
  obtain rfl : j2 = C.length := by omega
  obtain rfl : m = m2 := by rw [at_mid] at hm2; exact Option.some.inj hm2
  rw [erase_at] at h7
  obtain ⟨a7, c7, rfl, _⟩ := hbv7.form
  obtain ⟨hg7, ho7⟩ := h7.lt hw7.m
  have e6 : M7 b6 = some (.cells 61 [Value.int .i64 m.f, .int .i64 m.t, .slice a5 m.b.length c5] 3) := (hfar7 b6 ⟨by omega, fun he => by have := ho5 b6 he; omega⟩ (by omega)).1.trans (upd_same _ _ _)
  refine pv_r rfl (pv_r rfl ?_)
  have hm7 := hw7.m
  refine nw_r (fun b8 hb8 => ?_)
  refine stM ?_
  have hb68 : b6 < N7 := by
    rcases Nat.lt_or_ge b6 N7 with h | h
    · exact h
    · rw [hm7 b6 h] at e6; cases e6
  refine gd_tt (pv_r rfl (gd_tt (pv_r rfl (gd_tt (pv_r rfl (gd_tt ?_))))))
  refine ldM ?_
  refine gd_tt (pv_r rfl (gd_tt ?_))
  refine ldM ?_
  refine gd_tt (eql_t rfl (pv_r rfl (gd_tt (pv_r rfl (gd_tt ?_)))))
  refine ldM ?_
  refine gd_tt (pv_r rfl (gd_tt ?_))
  refine ldM ?_
  refine gd_tt (eql_t rfl (pv_r rfl (gd_tt (pv_r rfl (gd_tt ?_)))))
  refine ldM ?_
  refine gd_tt (bs_r hbv5.read ?_)
  refine gd_tt (pv_r rfl (gd_tt ?_))
  refine ldM ?_
  refine gd_tt (bs_r hbv7.read ?_)
  refine gd_tt (streq_r (pv_r rfl (gd_tt (pv_r rfl (gd_tt ?_)))))
  refine ldM ?_
  refine gd_tt (bs_r hbv5.read ?_)
  obtain ⟨b, o0, c', cs, vb, e, hF, e0, e1, e2, e3, e4, _, _, hvb, _, _, hbl⟩ := (hv.mono (hF3.trans hF4)).at ho
  injection e with e _ _
  subst e
  refine gd_tt (gd_tt (gd_tt (iaN_r hql (gd_tt (pv_r rfl (gd_tt ?_))))))
  refine ld_r (ldV_c (row_F hF) e3) ?_
  have hob : o.b = m.b := by rw [← hm]; rfl
  rw [hob] at hvb
  refine gd_tt (bs_r hvb.read ?_)
  refine gd_tt (streq_r (pv_r rfl (gd_tt (gd_tt (gd_tt (pv_r rfl (gd_tt ?_)))))))
  refine sub_r (by omega) (by omega) (gd_tt ?_)
  obtain ⟨hg7, ho7⟩ := h7.lt hw7.m
  refine all_c (h7.keep (M' := upd (upd M7 b8 (some (.cells 61 [Value.int .i64 0, .int .i64 0, .slice none 0 0] 3))) b8 (some (.cells 61 [Value.int .i64 m.f, .int .i64 m.t, .slice a7 m.b.length c7] 3))) (subF.refl _) (fun k hk => by
    have : k ≠ b8 := by rcases hk with rfl | hk; omega; have := ho7 k hk; omega
    exact (upd_ne _ _ this).trans (upd_ne _ _ this))) (by simp; omega) (fun v9 M9 N9 rows9 hw9 hN9 hM9 ho9 => ?_)
  have e9 : M9 b8 = some (.cells 61 [Value.int .i64 m.f, .int .i64 m.t, .slice a7 m.b.length c7] 3) := (hM9 b8 (by omega)).trans (upd_same _ _ _)
  have e96 : M9 b6 = some (.cells 61 [Value.int .i64 m.f, .int .i64 m.t, .slice a5 m.b.length c5] 3) := (hM9 b6 (by omega)).trans ((upd_ne _ _ (by omega)).trans ((upd_ne _ _ (by omega)).trans e6))
  refine ⟨fun _ => ldV_c (row_M e9) rfl, fun _ => ldV_c (row_M e96) rfl, ?_⟩
  obtain ⟨a9, c9, rfl⟩ : ∃ a c, v9 = .slice a (C ++ D).length c := (ho9.ownS.2.elim (fun h => ⟨none, 0, by rw [h.2]; exact h.1⟩) fun ⟨b, c, h1, _⟩ => ⟨_, c, h1⟩)
  refine gd_tt (pv_r rfl (gd_tt ?_))
  refine eql_t (by simp; omega) (pv_r rfl fun hc => ⟨_, wk_refl hc, fun hw' => k _ _ _ hw'⟩)
theorem NetTwice_true (v : Value) (n : Int) {y : List (Int × Int × Int × List Int × Int)} (W : World) (hv : rS 5 opK (F0 W) [v] y) (hn : (Lit.int .u16 n).wf = true) :
    Calls Try.prog 13 #[v, .int .u16 n] W fun e w' => e = .returned (.bool true) ∧ Below W.heap.size W w' :=
  (calls0 (K := fun v => v = .bool true) (netTwice_c (wf_u16 hn) (opsF_of hv) fun _ _ _ _ => rfl)).mono fun e w' ⟨⟨v, he, hv⟩, hb⟩ => ⟨by rw [he, hv], hb⟩
end Go.Proofs.Ytjeojnjkmhnepaa.N
