import Derived.Test.YtjeojnjkmhnepaaN8
import Derived.Test.YtjeojnjkmhnepaaTN9
import Derived.Laws.BitsLemmas
import Derived.Test.YtjeojnjkmhnepaaK17
open Go Go.RowKit Go.Proofs.Ytjeojnjkmhnepaa.K Go.Proofs.Ytjeojnjkmhnepaa.T
set_option linter.unusedVariables false
set_option linter.unusedSimpArgs false
namespace Go.Proofs.Ytjeojnjkmhnepaa.N
variable {F F' : Nat → Option (List Value)} {M M' : Nat → Option Chunk} {N N' : Nat} {K : Kont} {E : PanK}
theorem cv_r {k : IntKind} {a : Int} {h : Hp} (h0 : -9223372036854775808 ≤ a) (h1 : a ≤ 9223372036854775807) (kk : K (.int .i64 a) h) : pv (cvV .i64 (.int k a)) K h :=
  ⟨.int .i64 (IntKind.i64.wrap a), rfl, by rw [wrap_in h0 h1]; exact kk⟩
theorem rem_r {k : IntKind} {e : EqK} {a b : Int} {h : Hp} (hb : b ≠ 0) (kk : K (.int k (a.tmod b)) h) : pv (binV e .rem (.int k a) (.int k b)) K h :=
  ⟨.int k (a.tmod b), by simp [binV, intV, hb], kk⟩
theorem splice_set {l : List Int} {k : IntKind} {o : Nat} {x : Int} (ho : o < l.length) : splice (l.map (.int k)) o [.int k x] = (l.set o x).map (Value.int k) := by
  rw [List.map_set, List.set_eq_take_append_cons_drop, if_pos (by simpa using ho)]
  simp [splice]
/-- A row's element that nobody turns. -/
theorem ldF {sz m i : Nat} {v u : Value} {cells : List Value} (h : sF F sz v m cells) (hz : 0 < sz) (hi : i < m) {j : Nat} (hj : j < sz) (hu : cells[i * sz + j]? = some u) (k : K u ⟨F, M, N⟩) :
    ∃ b o c, v = .slice (some ⟨b, o, none⟩) m c ∧ ld false 1 (.pointer (some ⟨b, o + i * sz + j, none⟩)) K ⟨F, M, N⟩ := by
  obtain ⟨b, o, c, e, cs, hF, hl, hr⟩ := h.at hz hi
  refine ⟨b, o, c, e, ld_r (ldV_c (row_F hF) ?_) k⟩
  have : i * sz + j < m * sz := by
    have : i * sz + sz ≤ m * sz := by rw [← Nat.succ_mul]; exact Nat.mul_le_mul_right _ hi
    omega
  rw [← hu, ← hr _ this, Nat.add_assoc]
/-- NetRoom -/
theorem netRoom_c {n : Int} {v1 : Value} {ps : List Int} (hn : 0 ≤ n ∧ n ≤ 255) (hp : ∀ p ∈ ps, 0 ≤ p ∧ p ≤ 255) (hv : sF F 1 v1 ps.length (ps.map (.int .u8)))
    (k : ∀ F' M' N', (Hp.mk F' M' N').wf → K (.bool true) ⟨F', M', N'⟩) : call Try.prog 9 #[.int .u8 n, v1] K E ⟨F, M, N⟩ := by
  refine call_text mixed Try.func9 (by kernel_rfl) (t9 _ E _ _) (fun hw => ?_)
  have hm := hw.m
  refine new_c hm (fun g N1 h1 hN1 hw1 hg => ?_)
  generalize upd M g (some (.cells 87 [.slice none 0 0] 1)) = M1 at *
  have hm1 := hw1.m
  obtain ⟨a1, c1, hv1, hac⟩ := hv.form
  refine pv_r rfl (gd_ff ?_)
  subst hv1
  refine gd_ff (pv_r rfl (gd_ff ?_))
  refine gtr_r (fun hbig => ?_) (fun hsm => ?_)
  · refine pv_r rfl (cnd_t (pv_r rfl (gd_tt ?_)))
    refine known_c (fun N2 hN2 hw2 => ?_)
    exact pv_r rfl fun hc => ⟨_, wk_refl hc, fun hw' => k _ _ _ hw'⟩
  refine pv_r rfl (cnd_f (rem_r (by decide) ?_))
  obtain ⟨many, hmany, hlt⟩ : ∃ many : Nat, n.tmod 60 = many ∧ many < 60 := ⟨(n % 60).toNat, by rw [Int.tmod_eq_emod_of_nonneg hn.1]; omega, by omega⟩
  rw [hmany]
  refine cv_r (by omega) (by omega) ?_
  refine l9_1_1_1_1_0_1_0_0 (σ := Nat) (fun s => .int .i64 (s : Nat))
    (fun s h => s ≤ many ∧ ∃ F' M' N' v rows, h = ⟨F', M', N'⟩ ∧ subF F F' ∧ N ≤ N' ∧ isNet 87 F' M' N g v rows ((List.range s).map fun i => ⟨(i : Nat), 0, []⟩)) (fun s => many - s) 0 rfl
    (fun hc => ⟨_, wk_refl hc, Nat.zero_le _, F, M1, N1, _, _, rfl, subF.refl _, hN1, h1⟩) ?_
  rintro k1 i j h ⟨hi, F2, M2, N2, v2, rows2, rfl, hF2, hN2, h2⟩ hw2 next
  simp only at hi ⊢
  by_cases hlt2 : i < many
  · refine lss_t (by omega) (cnd_t ?_)
    refine pv_r (v := .agg #[.int .i64 (i : Nat), .int .i64 0, .slice none 0 0]) (by kernel_rfl) ?_
    refine send_c (l := []) h2 hN2 (sF.sR (sF.nil _ _ _)) (by simp) (fun h => absurd (by simp; omega) h) (fun _ F3 M3 N3 v3 rows3 hF3 hN3 h3 hfar3 hw3 => ?_)
    refine pv_r rfl (cnd_f (inc_r (by omega) ?_))
    exact next (i + 1) _ _ (by omega) (fun hc => ⟨_, wk_refl hc, by omega, F3, M3, N3, v3, rows3, rfl, hF2.trans hF3, by omega, by rw [List.range_succ, List.map_append]; exact h3⟩)
  obtain rfl : i = many := by omega
  refine lss_f (by omega) (cnd_f ?_)
  rw [t9_1_1_1_1_1]
  refine ⟨_, 60, _, 60, rfl, rfl, Nat.le_refl _, by omega, by decide, fun b8 hb8 => ?_⟩
  have hm2 := hw2.m
  obtain ⟨hg2, ho2⟩ := h2.lt hm2
  have hb8' : N2 ≤ b8 := hb8
  refine l9_1_1_1_1_1_1_0_1_0_0 (σ := Nat) (fun s => .int .i64 (s : Nat))
    (fun s h => s ≤ ps.length ∧ ∃ F' M' N' v rows ms L, h = ⟨F', M', N'⟩ ∧ subF F F' ∧ N ≤ N' ∧ isNet 87 F' M' N g v rows ms ∧ farN g v b8 ∧ M' b8 = some (.cells 3 (L.map (Value.int .i64)) 60) ∧ L.length = 60 ∧
      (∀ m ∈ ms, 0 ≤ m.f ∧ m.f < i ∧ L[m.f.toNat]? = some 0) ∧ (ms.map ML.f).Nodup ∧ ms.length ≤ i) (fun s => ps.length - s) 0 rfl
    (fun hc => ⟨_, wk_refl hc, Nat.zero_le _, F2, upd M2 b8 (some (.cells 3 ((List.replicate 60 (0 : Int)).map (Value.int .i64)) 60)), b8 + 1, v2, rows2, _, List.replicate 60 0, rfl, hF2, by omega,
      h2.keep (subF.refl _) (fun k hk => upd_ne _ _ (by rcases hk with rfl | hk; omega; have := ho2 k hk; omega)), ⟨by omega, fun he => by have := ho2 _ he; omega⟩, upd_same _ _ _, rfl, ?_, ?_, by simp⟩) ?_
  · intro m hmm
    obtain ⟨q, hq, rfl⟩ := List.mem_map.1 hmm
    have := List.mem_range.1 hq
    refine ⟨by simp, by simp; omega, ?_⟩
    simp only [Int.toNat_natCast]
    rw [List.getElem?_replicate, if_pos (by omega)]
  · rw [List.map_map]
    refine List.Pairwise.map _ (fun a b (h : a ≠ b) => ?_) List.nodup_range
    simp only [Function.comp_apply]
    omega
  clear next h1 h2 hm1 hm2 hg2 ho2
  rintro k2 s j2 h ⟨hs, F4, M4, N4, v4, rows4, ms, L, rfl, hF4, hN4, h4, hfb, hMb, hL, hms, hnd, hmi⟩ hw4 next
  simp only at hs ⊢
  refine pv_r rfl ?_
  by_cases hlt3 : s < ps.length
  · refine lss_t (by omega) (cnd_t ?_)
    refine all_c h4 (by omega) (fun v5 M5 N5 rows5 hw5 hN5 hM5 ho5 => ?_)
    obtain ⟨hg4, ho4⟩ := h4.lt hw4.m
    have hb4 : b8 < N4 := by
      rcases Nat.lt_or_ge b8 N4 with h | h
      · exact h
      · rw [hw4.m b8 h] at hMb; cases hMb
    have h5 : isNet 87 F4 M5 N g v4 rows4 ms := h4.keep (subF.refl _) fun k hk => hM5 k (by rcases hk with rfl | hk; exact hg4; exact ho4 k hk)
    obtain ⟨a5, c5, rfl, _⟩ : ∃ a c, v5 = .slice a ms.length c ∧ ms.length ≤ c := (ho5.ownS.2.elim (fun h => ⟨none, 0, by rw [h.2]; exact h.1, by rw [h.2]; exact Nat.le_refl _⟩) fun ⟨b, c, h1, h2, _⟩ => ⟨_, c, h1, h2⟩)
    refine pv_r rfl ?_
    obtain ⟨p, hps⟩ : ∃ p, ps[s]? = some p := ⟨ps[s], by simp [hlt3]⟩
    have hpr := hp p (List.mem_of_getElem? hps)
    have hsF := hv.mono hF4
    obtain ⟨b1, o1, c1', e1, csF, hFb, hFl, hFr⟩ := hsF.at (by omega) hlt3
    injection e1 with ea _ ec
    subst ea
    have hrd : csF[o1 + s * 1]? = some (.int .u8 p) := by rw [hFr _ (by omega), List.getElem?_map, Nat.mul_one, hps]; rfl
    refine iaN_r hlt3 ?_
    refine ld_r (ldV_c (row_F hFb) hrd) ?_
    refine cv_r (by omega) (by omega) ?_
    refine take_c h5 (fun hno N6 hN6 hw6 => ?_) (fun q m hq hmq M6 N6 bv6 v6 rows6 hbv6 hbl6 hN6 h6 hfar6 hw6 => ?_)
    · refine pv_r rfl (pv_r rfl ?_)
      have hm := hw6.m
      refine nw_r (fun b9 hb9 => ?_)
      refine stM ?_
      refine iaN_r hlt3 ?_
      refine ld_r (ldV_c (row_F hFb) hrd) ?_
      refine cv_r (by omega) (by omega) ?_
      refine lss_f (by omega) ?_
      refine pv_r rfl (cnd_f (cnd_f ?_))
      rw [t9_1_1_1_1_1_1_0_1_0_0_1_1]
      refine inc_r (by omega) ?_
      refine next (s + 1) _ _ (by omega) (fun hc => ⟨⟨F4, M5, b9 + 1⟩, wk_end hc, by omega, F4, M5, b9 + 1, v4, rows4, ms, L, rfl, hF4, by omega, h5, hfb, (hM5 _ hb4).trans hMb, hL, hms, hnd, hmi⟩)
    · obtain ⟨a6, c6, rfl, _⟩ := hbv6.form
      refine pv_r rfl (pv_r rfl ?_)
      have hm6 := hw6.m
      obtain ⟨hg6, ho6⟩ := h6.lt hm6
      obtain ⟨e6, hfb6⟩ := hfar6 b8 hfb (by omega)
      have hMb6 := e6.trans ((hM5 _ hb4).trans hMb)
      refine nw_r (fun b9 hb9 => ?_)
      refine stM ?_
      refine iaN_r hlt3 ?_
      refine ld_r (ldV_c (row_F hFb) hrd) ?_
      refine cv_r (by omega) (by omega) ?_
      have hql : q < ms.length := (List.getElem?_eq_some_iff.1 hmq).1
      refine lss_t (by omega) ?_
      refine pv_r rfl (cnd_f (cnd_t ?_))
      obtain ⟨hf0, hfi, hL0⟩ := hms m (List.mem_of_getElem? hmq)
      refine pv_r rfl ?_
      refine ldM ?_
      refine lss_f (by omega) ?_
      refine gd_ff (pv_r rfl (gd_ff ?_))
      refine ldM ?_
      refine gd_ff (gd_ff (gd_ff (geq_f (by omega) ?_)))
      refine pv_r rfl (gd_ff (gd_ff (pv_r rfl (gd_ff ?_))))
      refine ldM ?_
      refine gd_ff (ia_r hf0 (by omega) (gd_ff ?_))
      have hMb9 : (upd (upd M6 b9 (some (.cells 61 [Value.int .i64 0, .int .i64 0, .slice none 0 0] 3))) b9 (some (.cells 61 [Value.int .i64 m.f, .int .i64 m.t, .slice a6 m.b.length c6] 3))) b8 = some (.cells 3 (L.map (Value.int .i64)) 60) := (upd_ne _ _ (by omega)).trans ((upd_ne _ _ (by omega)).trans hMb6)
      refine ldM (v := .int .i64 0) ?_ hMb9 (by simp [hL0])
      refine gd_ff (gtr_f (by decide) (pv_r rfl (cnd_f (pv_r rfl ?_))))
      refine ldM ?_
      refine ia_r hf0 (by omega) ?_
      refine stM (cs' := (L.set m.f.toNat 1).map (Value.int .i64)) ?_ hMb9 (by rw [Nat.zero_add, Nat.mul_one]; exact splice_set (by omega)) rfl (hl := by rw [List.length_map]; omega)
      rw [t9_1_1_1_1_1_1_0_1_0_0_1_1]
      refine inc_r (by omega) ?_
      obtain ⟨C, D, hCD, hCq⟩ := split_at hmq
      have hel : ms.eraseIdx q = C ++ D := by rw [hCD, ← hCq]; exact erase_at C D m
      rw [hel] at h6
      have hnd2 : ((m :: (C ++ D)).map ML.f).Nodup := by
        rw [hCD] at hnd
        exact ((List.perm_middle.map ML.f).nodup_iff).1 hnd
      rw [List.map_cons, List.nodup_cons] at hnd2
      have hlen : ms.length = C.length + D.length + 1 := by rw [hCD]; simp; omega
      refine next (s + 1) _ _ (by omega) (fun hc => ⟨_, wk_refl hc, by omega, F4, _, _, _, rows6, C ++ D, L.set m.f.toNat 1, rfl, hF4, by omega,
        h6.keep (subF.refl _) (fun k hk => ?_), hfb6, upd_same _ _ _, by simp [hL], fun m' hm' => ?_, hnd2.2, by simp; omega⟩)
      · have h8 : k ≠ b8 := by rcases hk with rfl | hk; exact fun he => hfb6.1 he.symm; exact fun he => hfb6.2 (by rw [← he]; exact hk)
        have h9 : k ≠ b9 := by rcases hk with rfl | hk; omega; have := ho6 k hk; omega
        exact (upd_ne _ _ h8).trans ((upd_ne _ _ h9).trans (upd_ne _ _ h9))
      · obtain ⟨g0, gi, gL⟩ := hms m' (by rw [hCD]; rcases List.mem_append.1 hm' with h | h; exact List.mem_append.2 (.inl h); exact List.mem_append.2 (.inr (List.mem_cons_of_mem _ h)))
        refine ⟨g0, gi, ?_⟩
        have hne : m.f ≠ m'.f := fun he => hnd2.1 (by rw [he]; exact List.mem_map_of_mem hm')
        rw [List.getElem?_set_ne (by omega)]
        exact gL
  · refine lss_f (by omega) (cnd_f ?_)
    rw [t9_1_1_1_1_1_1_1]
    refine known_c (fun N5 hN5 hw5 => ?_)
    refine gd_tt (gd_tt ?_)
    refine twice_c h4 (by omega) (fun _ N6 hN6 hw6 => ?_) (fun C D m _ hi _ => absurd hi (by omega))
    refine gd_tt (pv_r rfl (pv_r rfl (gd_tt (gd_tt (gd_tt ?_)))))
    refine late_c h4 (by omega) (by omega) (fun _ N7 hN7 hw7 => ?_) (fun C D m hCD hi => ?_)
    · refine gd_tt (pv_r rfl (pv_r rfl fun hc => ?_))
      exact ⟨_, wk_refl hc, fun hw' => k _ _ _ hw'⟩
    · have : ms.length = C.length + (D.length + 1) := by rw [hCD]; simp
      omega
theorem wf_u8 {n : Int} (h : (Lit.int .u8 n).wf = true) : 0 ≤ n ∧ n ≤ 255 := by
  simp [Lit.wf, IntKind.min, IntKind.max, IntKind.bits, IntKind.signed] at h
  omega
theorem NetRoom_true (n : Int) (v : Value) {y : List Int} (W : World) (hn : (Lit.int .u8 n).wf = true) (hv : rS 1 (rI .u8) (F0 W) [v] y) :
    Calls Try.prog 9 #[.int .u8 n, v] W fun e w' => e = .returned (.bool true) ∧ Below W.heap.size W w' := by
  obtain ⟨h1, h2, h3⟩ := rS_ints hv
  refine (calls0 (K := fun v => v = .bool true) (netRoom_c (wf_u8 hn) (fun p hp => wf_u8 (h2 p hp)) h1 fun _ _ _ _ => rfl)).mono fun e w' ⟨⟨v, he, hv⟩, hb⟩ => ⟨by rw [he, hv], hb⟩
end Go.Proofs.Ytjeojnjkmhnepaa.N
