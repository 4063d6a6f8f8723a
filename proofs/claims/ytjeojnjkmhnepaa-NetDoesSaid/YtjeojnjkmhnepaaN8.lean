import Derived.Test.YtjeojnjkmhnepaaN7
open Go Go.RowKit Go.Proofs.Ytjeojnjkmhnepaa.K Go.Proofs.Ytjeojnjkmhnepaa.T
set_option linter.unusedVariables false
set_option linter.unusedSimpArgs false
namespace Go.Proofs.Ytjeojnjkmhnepaa.N
variable {F F' : Nat → Option (List Value)} {M M' : Nat → Option Chunk} {N N' : Nat} {K : Kont} {E : PanK}
theorem mk_r {b n c tot : Nat} {e : TypeId} {cs : List Value} (k : K (.slice (some ⟨b, 0, none⟩) n c) ⟨upd F b (some cs), upd M b none, N⟩) (hM : M b = some (.cells e cs tot) := by exact upd_same _ _ _) : mk (.slice (some ⟨b, 0, none⟩) n c) K ⟨F, M, N⟩ :=
  ⟨b, n, c, e, cs, tot, rfl, hM, k⟩
/-- Back to what was known. -/
theorem wk_old (hw : (Hp.mk F M N).wf) (hc : (Hp.mk F' M' N').wf) (hF : subF F F') (hM : ∀ k, k < N → M' k = M k) : (Hp.mk F' M' N').wk ⟨F, M, N'⟩ :=
  ⟨rfl, fun b c h => (hM b (by
    rcases Nat.lt_or_ge b N with hb | hb
    · exact hb
    · have := hw.m b hb; rw [show M b = some c from h] at this; cases this)).trans h, fun b cs h => .inl (hF b cs h), hw.d⟩
/-- What the net does not reach. -/
def farA (M M' : Nat → Option Chunk) (g : Nat) (v : Value) (N : Nat) : Prop := ∀ k, k < N → M' k = M k ∧ farN g v k
theorem farA.step {M1 M2 : Nat → Option Chunk} {g N1 : Nat} {v v' : Value} (h : farA M M1 g v N) (hN : N ≤ N1) (h' : ∀ k, farN g v k → k < N1 → M2 k = M1 k ∧ farN g v' k) : farA M M2 g v' N := fun k hk => by
  obtain ⟨h1, h2⟩ := h k hk
  obtain ⟨h3, h4⟩ := h' k h2 (by omega)
  exact ⟨h3.trans h1, h4⟩
theorem farA.cut {M1 M2 : Nat → Option Chunk} {g N1 : Nat} {v : Value} (h : farA M M1 g v N) (hN : N ≤ N1) (h' : ∀ k, k < N1 → M2 k = M1 k) : farA M M2 g v N := fun k hk => ⟨(h' k (by omega)).trans (h k hk).1, (h k hk).2⟩
theorem isNet.far {ty : TypeId} {B g : Nat} {v : Value} {rows : List (List Value)} {ms : List ML} (h : isNet ty F M B g v rows ms) : ∀ k, k < B → farN g v k := fun k hk => by
  refine ⟨by have := h.gB; omega, fun he => ?_⟩
  rcases h.oo with ⟨rfl, _⟩ | ⟨b, c, rest, rfl, _, _, _, h5, _⟩
  · simp [Value.ownBlock] at he
  · simp [Value.ownBlock] at he; omega
/-- known -/
theorem known_c (k : ∀ N', N ≤ N' → (Hp.mk F M N').wf → K (.bool true) ⟨F, M, N'⟩) : callv Try.prog (.func (.func 31) #[] #[]) #[] K E ⟨F, M, N⟩ := by
  refine callv_of_text mixed Try.func31 (by kernel_rfl) (t31 _ E) (fun hw => ?_)
  have hm := hw.m
  refine new_c hm (fun g N1 h1 hN1 hw1 hg => ?_)
  have a1 : farA M (upd M g (some (.cells 87 [.slice none 0 0] 1))) g (.slice none 0 0) N := fun k hk => ⟨upd_ne _ _ (by omega), h1.far k hk⟩
  generalize hM1 : upd M g (some (.cells 87 [.slice none 0 0] 1)) = M1 at *
  have hm1 := hw1.m
  obtain ⟨hg1, ho1⟩ := h1.lt hm1
  refine pv_r rfl (cnd_f ?_)
  refine nws_r (cs := [.int .u8 97]) (by kernel_rfl) (fun b1 hb1 => ?_)
  refine mk_r ?_
  refine pv_r (v := .agg #[.int .i64 1, .int .i64 0, .slice (some ⟨b1, 0, none⟩) 1 1]) (by kernel_rfl) ?_
  have hF1 : subF F (upd F b1 (some [.int .u8 97])) := subF.upd (hw1.f _ hb1)
  refine send_c (l := [97]) (h1.keep hF1 fun k hk => (upd_ne _ _ (by rcases hk with rfl | hk; omega; have := ho1 k hk; omega)).trans (upd_ne _ _ (by rcases hk with rfl | hk; omega; have := ho1 k hk; omega))) (by omega) (sF.sR (sF_fresh rfl (Nat.le_refl _))) (by simp) (fun h => absurd (by simp : ([] : List ML).length < 2000) h) (fun _ F2 M2 N2 v2 rows2 hF2 hN2 h2 hfar2 hw2 => ?_)
  have a2 := (a1.cut hN1 fun k hk => (upd_ne _ _ (by omega)).trans (upd_ne _ _ (by omega))).step (by omega) hfar2
  have hF2 := hF1.trans hF2
  obtain ⟨hg2, ho2⟩ := h2.lt hw2.m
  refine nws_r (cs := [.int .u8 98]) (by kernel_rfl) (fun b2 hb2 => ?_)
  refine mk_r ?_
  refine pv_r (v := .agg #[.int .i64 2, .int .i64 0, .slice (some ⟨b2, 0, none⟩) 1 1]) (by kernel_rfl) ?_
  have hF3 : subF F2 (upd F2 b2 (some [.int .u8 98])) := subF.upd (hw2.f _ hb2)
  refine send_c (l := [98]) (h2.keep hF3 fun k hk => (upd_ne _ _ (by rcases hk with rfl | hk; omega; have := ho2 k hk; omega)).trans (upd_ne _ _ (by rcases hk with rfl | hk; omega; have := ho2 k hk; omega))) (by omega) (sF.sR (sF_fresh rfl (Nat.le_refl _))) (by simp) (fun h => absurd (by simp) h) (fun _ F3 M3 N3 v3 rows3 hF3' hN3 h3 hfar3 hw3 => ?_)
  have a3 := (a2.cut (N1 := N2) (by omega) fun k hk => (upd_ne _ _ (by omega)).trans (upd_ne _ _ (by omega))).step (by omega) hfar3
  have hF3 := (hF2.trans hF3).trans hF3'
  refine late_c h3 (by omega) (by simp) (fun h => absurd (by simp) h) (fun C D m hms hi F4 M4 N4 v4 rows4 hF4 hN4 h4 hfar4 hw4 => ?_)
  have a4 := a3.step (by omega) hfar4
  have hF4 := hF3.trans hF4
  cases C with
  | cons _ _ => simp at hi; omega
  | nil =>
  simp only [List.nil_append, List.cons_append, List.cons.injEq] at hms
  obtain ⟨rfl, rfl⟩ := hms
  simp only [List.nil_append, List.cons_append] at h4
  refine twice_c h4 (by omega) (fun h => absurd (by simp) h) (fun C D m hms hi _ F5 M5 N5 v5 rows5 hF5 hN5 h5 hfar5 hw5 => ?_)
  have a5 := a4.step (by omega) hfar5
  have hF5 := hF4.trans hF5
  cases C with
  | nil => simp at hi
  | cons x C =>
  cases C with
  | cons _ _ => simp at hi; omega
  | nil =>
  simp only [List.nil_append, List.cons_append, List.cons.injEq] at hms
  obtain ⟨rfl, rfl, rfl⟩ := hms
  simp only [List.nil_append, List.cons_append] at h5
  refine all_c h5 (by simp) (fun v6 M6 N6 rows6 hw6 hN6 hM6 ho6 => ?_)
  have a6 := a5.cut (N1 := N5) (by omega) hM6
  obtain ⟨hg5, ho5⟩ := h5.lt hw5.m
  have h6 : isNet 87 F5 M6 N g v5 rows5 _ := h5.keep (subF.refl _) fun k hk => hM6 k (by rcases hk with rfl | hk; exact hg5; exact ho5 k hk)
  refine take_c h6 (fun h => absurd (by simp) h) (fun j m hj hmj M7 N7 bv7 v7 rows7 hbv7 hbl7 hN7 h7 hfar7 hw7 => ?_)
  have a7 := a6.step (by omega) hfar7
  obtain rfl : j = 0 := by omega
  simp at hmj
  subst hmj
  rcases ho6.oo with ⟨_, e2⟩ | ⟨b6, c6, rfl, hc6, _, hB6, hMb6⟩
  · cases e2
  have hb6N : b6 < N6 := by
    rcases Nat.lt_or_ge b6 N6 with h | h
    · exact h
    · rw [hw6.m b6 h] at hMb6; cases hMb6
  have far6 : ∀ b, N5 ≤ b → b < N6 → M7 b = M6 b := fun b h1 h2 => (hfar7 b ⟨by omega, fun he => by have := ho5 b he; omega⟩ h2).1
  have hrows := ho6.rr.all.1
  match rows6, hrows, ho6, hMb6 with
  | [r0, r1, r2], _, ho6, hMb6 =>
  obtain ⟨w0, rfl, hw0, _⟩ := ho6.rr.all.2 0 r0 _ rfl rfl
  obtain ⟨w1, rfl, hw1', _⟩ := ho6.rr.all.2 1 r1 _ rfl rfl
  obtain ⟨w2, rfl, hw2', _⟩ := ho6.rr.all.2 2 r2 _ rfl rfl
  have hMb7 := (far6 b6 hB6 hb6N).trans hMb6
  obtain ⟨a7', c7, rfl, _⟩ := hbv7.form
  refine pv_r rfl (pv_r rfl ?_)
  refine nw_r (fun b8 hb8 => ?_)
  refine stM ?_
  refine gd_tt (pv_r rfl (gd_tt (gd_tt (pv_r rfl (gd_tt (pv_r rfl (pv_r rfl ?_)))))))
  refine gd_tt (gd_tt (pv_r rfl (gd_tt (pv_r rfl (gd_tt ?_)))))
  refine ldM (v := w0) ?_ (by rw [upd_ne _ _ (by omega), upd_ne _ _ (by omega)]; exact hMb7) rfl
  refine gd_tt ?_
  have hw0' : sR F5 M7 1 w0 1 (bc [98]) := (hw0.keep (Nat.le_refl _) fun b c hb hM => (far6 b hb (by
    rcases Nat.lt_or_ge b N6 with h | h
    · exact h
    · rw [hw6.m b h] at hM; cases hM)).trans hM).sR
  refine ⟨_, ⟨1, [98], (hw0'.keep (subF.refl _) fun b c _ hM => ?_).read, rfl⟩, ?_⟩
  · have hne : b ≠ b8 := fun he => by rw [he, hw7.m b8 hb8] at hM; cases hM
    exact (upd_ne _ _ hne).trans ((upd_ne _ _ hne).trans hM)
  refine gd_tt (pv_r (v := .bool true) (by kernel_rfl) (pv_r rfl ?_))
  refine gd_tt (gd_tt (pv_r rfl (gd_tt (pv_r rfl (gd_tt ?_)))))
  refine ldM (v := .int .i64 1) ?_ (by rw [upd_ne _ _ (by omega), upd_ne _ _ (by omega)]; exact hMb7) rfl
  refine gd_tt (pv_r rfl (pv_r rfl (gd_tt (pv_r rfl (gd_tt (pv_r rfl (gd_tt ?_)))))))
  refine ldM ?_
  refine gd_tt (pv_r rfl (pv_r rfl fun hc => ?_))
  exact ⟨_, wk_old hw hc hF5 fun k hk => (upd_ne _ _ (by omega)).trans ((upd_ne _ _ (by omega)).trans (a7 k hk).1), fun hw' => k _ (by omega) hw'⟩
end Go.Proofs.Ytjeojnjkmhnepaa.N
