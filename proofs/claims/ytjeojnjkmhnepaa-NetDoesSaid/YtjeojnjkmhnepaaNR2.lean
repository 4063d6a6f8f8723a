import Derived.Test.YtjeojnjkmhnepaaNR1
open Go Go.RowKit Go.Proofs.Ytjeojnjkmhnepaa.K Go.Proofs.Ytjeojnjkmhnepaa.T
set_option linter.unusedVariables false
set_option linter.unusedSimpArgs false
namespace Go.Proofs.Ytjeojnjkmhnepaa.N
variable {F F' : Nat → Option (List Value)} {M M' : Nat → Option Chunk} {N N' : Nat} {K : Kont} {E : PanK}
/-- A mail is put behind a network's row: the new row, and what it leaves. -/
theorem isNet.app {B g : Nat} {v x : Value} {rows : List (List Value)} {ms : List ML} {m : ML} {r : List Value} (h : isNet 77 F M B g v rows ms) (hm : ∀ k, N ≤ k → M k = none) (hB : B ≤ N) (hlen : ms.length ≤ 2000) (hr : mailR F r m) (hx : sRead ⟨F, M, N⟩ 3 x 1 r)
    (k : ∀ v' M' N', N ≤ N' → (∀ q, v.ownBlock ≠ some q → q < N → M' q = M q) → (∀ q, farN g v q → q < N → farN g v' q) → (∃ a c, v' = .slice a (ms.length + 1) c) → isNet 77 F (upd M' g (some (.cells 77 [v'] 1))) B g v' (rows ++ [r]) (ms ++ [m]) → K v' ⟨F, M', N'⟩) : appX 61 3 40 v x K ⟨F, M, N⟩ := by
  obtain ⟨hgN, hoN⟩ := h.lt hm
  refine app_r (m := 1) (news := r) h.ownS hx hr.one.2 (by omega) (by simp [maxLen]; omega) (by omega) (fun b c hb hc hcm => ?_)
  have hbg : b ≠ g := by
    rcases hb with hb | hb
    · omega
    · rintro rfl
      rcases h.oo with ⟨e, _⟩ | ⟨b', c'', rest, e, _, _, h4, _, _⟩
      · rw [e] at hb; simp [Value.ownBlock] at hb
      · rw [e] at hb; simp [Value.ownBlock] at hb; exact h4 hb
  have hBb : B ≤ b := by
    rcases hb with hb | hb
    · omega
    · rcases h.oo with ⟨e, _⟩ | ⟨b', c'', rest, e, _, _, _, h5, _⟩
      · rw [e] at hb; simp [Value.ownBlock] at hb
      · rw [e] at hb; simp [Value.ownBlock] at hb; omega
  refine k _ _ _ (Nat.le_max_left _ _) (fun q hq hqN => ?_) (fun q hq hqN => ?_) ⟨_, _, rfl⟩ ⟨upd_same _ _ _, h.gB, h.rr.snoc hr.one.1 hr.one.2 hr, .inr ⟨b, c, [], by simp, by simpa using hc, hcm, hbg, hBb, ?_⟩⟩
  · rw [upd_ne _ _ (fun e => by subst e; rcases hb with hb | hb; omega; exact hq hb), forget_ne _ hq]
  · refine ⟨hq.1, fun he => ?_⟩
    simp [Value.ownBlock] at he
    subst he
    rcases hb with hb | hb
    · omega
    · exact hq.2 hb
  · rw [upd_ne _ _ hbg, upd_same, List.append_nil, List.flatten_append, List.flatten_cons, List.flatten_nil, List.append_nil]
/-- (*Net).Send of the reference -/
theorem rsend_c {B g : Nat} {v : Value} {rows : List (List Value)} {ms : List ML} {f t : Int} {bv : Value} {l : List Int} (h : isNet 77 F M B g v rows ms) (hB : B ≤ N) (hv : sF F 1 bv l.length (bc l)) (hl : l.length ≤ 140737488351232)
    (k0 : ¬ ms.length < 2000 → ∀ N', N ≤ N' → (Hp.mk F M N').wf → K (.bool false) ⟨F, M, N'⟩)
    (k1 : ms.length < 2000 → ∀ F' M' N' v' rows', subF F F' → N ≤ N' → isNet 77 F' M' B g v' rows' (ms ++ [⟨f, t, l⟩]) → (∀ k, farN g v k → k < N → M' k = M k ∧ farN g v' k) → (Hp.mk F' M' N').wf → K (.bool true) ⟨F', M', N'⟩) :
    callv Try.prog (.func (.func 55) #[] #[]) #[.pointer (some ⟨g, 0, none⟩), .agg #[.int .i64 f, .int .i64 t, bv]] K E ⟨F, M, N⟩ := by
  refine callv_of_text mixed Try.func55 (by kernel_rfl) (t55 _ E _ _) (fun hw => ?_)
  have hm := hw.m
  obtain ⟨hgN, hoN⟩ := h.lt hm
  have hg := h.gg
  obtain ⟨a, c, rfl, hac⟩ := h.form
  obtain ⟨ab, cb, rfl, _⟩ := hv.form
  refine nw_r (cs := [.int .i64 f, .int .i64 t, .slice ab l.length cb]) (fun b1 hb1 => ?_)
  refine pv_r rfl (pv_r rfl (ldM ?_))
  refine pv_r rfl (geq_r (fun h1 => ?_) (fun h1 => ?_))
  · refine cnd_t fun hc => ⟨⟨F, M, b1 + 1⟩, wk_end hc, fun hw' => k0 (by omega) _ (by omega) hw'⟩
  refine cnd_f (pv_r rfl (pv_r rfl (ldM ?_)))
  refine ldMa ?_
  generalize hM1 : upd M b1 _ = M1
  have e0 : ∀ q, q ≠ b1 → M1 q = M q := fun q hq => by rw [← hM1]; exact upd_ne _ _ hq
  have hm1 : ∀ q, b1 + 1 ≤ q → M1 q = none := fun q hq => (e0 q (by omega)).trans (hm q (by omega))
  refine rcopy_f hm1 hv.sR hl (fun v' F' N' hw1 hF hN hv' => ?_)
  obtain ⟨a', c', rfl, hc'⟩ := hv'.form
  have hread : ∀ (X : Nat → Option Chunk) (n : Nat), X g = some (.cells 77 [.slice a ms.length c] 1) → ldV ⟨F', X, n⟩ false 1 (.pointer (some ⟨g, 0 + 0, none⟩)) (.slice a ms.length c) := fun X n hX => ldV_c (row_M hX) rfl
  refine ⟨hread _ _ ((e0 g (by omega)).trans hg), ?_⟩
  refine nws_r (cs := [.int .i64 f, .int .i64 t, .slice a' l.length c']) (by kernel_rfl) (fun b2 h2 => ?_)
  refine ⟨hread _ _ ((upd_ne _ _ (by omega)).trans ((e0 g (by omega)).trans hg)), ?_⟩
  refine isNet.app (r := [.int .i64 f, .int .i64 t, .slice a' l.length c']) (m := ⟨f, t, l⟩) (h.keep hF (fun k hk => (upd_ne _ _ (by rcases hk with rfl | hk; omega; have := hoN k hk; omega)).trans (e0 k (by rcases hk with rfl | hk; omega; have := hoN k hk; omega)))) (fun q hq => (upd_ne _ _ (by omega)).trans (hm1 q (by omega))) (by omega) (by omega) ⟨_, rfl, hv', by simp only; omega⟩ ⟨rfl, .inr ⟨b2, 0, 1, _, rfl, .inr ⟨.inr ⟨_, _, upd_same _ _ _⟩, rfl⟩⟩⟩ (fun v3 M3 N3 hN3 hM3 hfar3 ⟨a3, c3, e3⟩ h3 => ?_)
  subst e3
  have hgo : (Value.slice a ms.length c).ownBlock ≠ some g := fun he => by
    rcases h.oo with ⟨e, _⟩ | ⟨b', c'', rest, e, _, _, h4, _, _⟩
    · rw [e] at he; simp [Value.ownBlock] at he
    · rw [e] at he; simp [Value.ownBlock] at he; exact h4 he
  refine pv_r rfl (pv_r rfl (stM ?_ ((hM3 g hgo (by omega)).trans ((upd_ne _ _ (by omega)).trans ((e0 g (by omega)).trans hg)))))
  intro hc
  refine ⟨_, wk_refl hc, fun hw' => k1 (by omega) _ _ _ _ _ hF (by omega) h3 (fun q hq hqN => ⟨?_, hfar3 q hq (by omega)⟩) hw'⟩
  exact (upd_ne _ _ hq.1).trans ((hM3 q hq.2 (by omega)).trans ((upd_ne _ _ (by omega)).trans (e0 q (by omega))))
/-- (*Net).Late of the reference -/
theorem rlate_c {B g : Nat} {v : Value} {rows : List (List Value)} {ms : List ML} {i : Int} (h : isNet 77 F M B g v rows ms) (hB : B ≤ N) (hlen : ms.length ≤ 2000)
    (k0 : ¬ (0 ≤ i ∧ i < ms.length) → ∀ N', N ≤ N' → (Hp.mk F M N').wf → K (.bool false) ⟨F, M, N'⟩)
    (k1 : ∀ (C D : List ML) m, ms = C ++ m :: D → i = C.length → ∀ F' M' N' v' rows', subF F F' → N ≤ N' → isNet 77 F' M' B g v' rows' (C ++ D ++ [m]) → (∀ k, farN g v k → k < N → M' k = M k ∧ farN g v' k) → (Hp.mk F' M' N').wf → K (.bool true) ⟨F', M', N'⟩) :
    callv Try.prog (.func (.func 54) #[] #[]) #[.pointer (some ⟨g, 0, none⟩), .int .i64 i] K E ⟨F, M, N⟩ := by
  refine callv_of_text mixed Try.func54 (by kernel_rfl) (t54 _ E _ _) (fun hw => ?_)
  have hm := hw.m
  obtain ⟨hgN, hoN⟩ := h.lt hm
  refine rtake_c h hB hlen (fun hr N1 hN1 hw1 => ?_) (fun j m hij hmj M1 N1 bv v1 rows1 hbv hbl hN1 h1 hfar hw1 => ?_)
  · have hm := hw1.m
    refine pv_r rfl (pv_r rfl ?_)
    refine nw_r (fun b hb => ?_)
    refine stM ?_
    refine cnd_f ?_
    rw [t54_1_1_1]
    exact fun hc => ⟨⟨F, M, b + 1⟩, wk_end hc, fun hw' => k0 hr _ (by omega) hw'⟩
  · obtain ⟨a', c', rfl, hc'⟩ := hbv.form
    obtain ⟨C, D, hCD, hCj⟩ := split_at hmj
    have hel : ms.eraseIdx j = C ++ D := by rw [hCD, ← hCj]; exact erase_at C D m
    rw [hel] at h1
    have hm1 := hw1.m
    obtain ⟨hgN1, hoN1⟩ := h1.lt hm1
    have hlen2 : ms.length = C.length + (D.length + 1) := by rw [hCD]; simp
    have hg1 := h1.gg
    obtain ⟨a1, c1, rfl, _⟩ := h1.form
    refine pv_r rfl (pv_r rfl ?_)
    refine nw_r (fun b hb => ?_)
    refine stM ?_
    refine cnd_t (pv_r rfl (pv_r rfl (ldM ?_)))
    refine ldMa ?_
    refine nws_r (cs := [.int .i64 m.f, .int .i64 m.t, .slice a' m.b.length c']) (by kernel_rfl) (fun b2 h2 => ?_)
    refine ⟨ldV_c (row_M ((upd_ne _ _ (by omega)).trans ((upd_ne _ _ (by omega)).trans ((upd_ne _ _ (by omega)).trans hg1)))) rfl, ?_⟩
    have ke : ∀ q, q < N1 → (upd (upd (upd M1 b (some (.cells 61 [Value.int .i64 0, .int .i64 0, .slice none 0 0] 3))) b (some (.cells 61 [Value.int .i64 m.f, .int .i64 m.t, .slice a' m.b.length c'] 3))) b2 (some (.cells 61 [Value.int .i64 m.f, .int .i64 m.t, .slice a' m.b.length c'] 3))) q = M1 q := fun q hq => (upd_ne _ _ (by omega)).trans ((upd_ne _ _ (by omega)).trans (upd_ne _ _ (by omega)))
    refine isNet.app (r := [.int .i64 m.f, .int .i64 m.t, .slice a' m.b.length c']) (m := m) (h1.keep (subF.refl _) (fun k hk => ke k (by rcases hk with rfl | hk; omega; have := hoN1 k hk; omega))) (fun q hq => (upd_ne _ _ (by omega)).trans ((upd_ne _ _ (by omega)).trans ((upd_ne _ _ (by omega)).trans (hm1 q (by omega))))) (by omega) (by simp; omega) ⟨_, rfl, hbv, hbl⟩ ⟨rfl, .inr ⟨b2, 0, 1, _, rfl, .inr ⟨.inr ⟨_, _, upd_same _ _ _⟩, rfl⟩⟩⟩ (fun v3 M3 N3 hN3 hM3 hfar3 ⟨a3, c3, e3⟩ h3 => ?_)
    subst e3
    have hgo : (Value.slice a1 (C ++ D).length c1).ownBlock ≠ some g := fun he => by
      rcases h1.oo with ⟨e, _⟩ | ⟨b', c'', rest, e, _, _, h4, _, _⟩
      · rw [e] at he; simp [Value.ownBlock] at he
      · rw [e] at he; simp [Value.ownBlock] at he; exact h4 he
    refine pv_r rfl (pv_r rfl (stM ?_ ((hM3 g hgo (by omega)).trans ((ke g hgN1).trans hg1))))
    rw [t54_1_1_1]
    refine fun hc => ⟨_, wk_refl hc, fun hw' => k1 C D m hCD (by omega) _ _ _ _ _ (subF.refl _) (by omega) h3 (fun q hq hqN => ?_) hw'⟩
    obtain ⟨e1, hk1⟩ := hfar q hq hqN
    exact ⟨(upd_ne _ _ hq.1).trans ((hM3 q hk1.2 (by omega)).trans ((ke q (by omega)).trans e1)), hfar3 q hk1 (by omega)⟩
/-- (*Net).Twice of the reference -/
theorem rtwice_c {B g : Nat} {v : Value} {rows : List (List Value)} {ms : List ML} {i : Int} (h : isNet 77 F M B g v rows ms) (hB : B ≤ N) (hlen : ms.length ≤ 2000) (hbs : ∀ m ∈ ms, m.b.length ≤ 140737488351232)
    (k0 : ¬ ((0 ≤ i ∧ i < ms.length) ∧ ms.length < 2000) → ∀ N', N ≤ N' → (Hp.mk F M N').wf → K (.bool false) ⟨F, M, N'⟩)
    (k1 : ∀ (C D : List ML) m, ms = C ++ m :: D → i = C.length → ms.length < 2000 → ∀ F' M' N' v' rows', subF F F' → N ≤ N' → isNet 77 F' M' B g v' rows' (C ++ m :: m :: D) → (∀ k, farN g v k → k < N → M' k = M k ∧ farN g v' k) → (Hp.mk F' M' N').wf → K (.bool true) ⟨F', M', N'⟩) :
    callv Try.prog (.func (.func 53) #[] #[]) #[.pointer (some ⟨g, 0, none⟩), .int .i64 i] K E ⟨F, M, N⟩ := by
  refine callv_of_text mixed Try.func53 (by kernel_rfl) (t53 _ E _ _) (fun hw => ?_)
  have hm := hw.m
  obtain ⟨hgN, hoN⟩ := h.lt hm
  have hg := h.gg
  obtain ⟨a, c, hvf, hac⟩ := h.form
  subst hvf
  refine lss_r (fun h0 => ?_) (fun h0 => ?_)
  · refine gd_tf (gd_tf (gd_tf (gd_tf (gd_tf (gd_tf (gd_tf (pv_r rfl (gd_tf (gd_tf (gd_tf (gd_tf (gd_tf (gd_tf (pv_r rfl (cnd_t fun hc => ?_)))))))))))))))
    exact ⟨_, wk_refl hc, fun hw' => k0 (by omega) _ (Nat.le_refl _) hw'⟩
  refine gd_ff (gd_ff (gd_ff (pv_r rfl (gd_ff (pv_r rfl (gd_ff ?_))))))
  refine ldM ?_
  refine gd_ff (pv_r rfl (gd_ff (geq_r (fun h1 => ?_) (fun h1 => ?_))))
  · refine pv_r rfl (gd_tf (gd_tf (gd_tf (gd_tf (gd_tf (gd_tf (pv_r rfl (cnd_t fun hc => ?_))))))))
    exact ⟨_, wk_refl hc, fun hw' => k0 (by omega) _ (Nat.le_refl _) hw'⟩
  refine pv_r rfl (gd_ff (gd_ff (pv_r rfl (gd_ff (pv_r rfl (gd_ff ?_))))))
  refine ldM ?_
  refine gd_ff (pv_r rfl (gd_ff (geq_r (fun h2 => ?_) (fun h2 => ?_))))
  · refine pv_r rfl (cnd_t fun hc => ?_)
    exact ⟨_, wk_refl hc, fun hw' => k0 (by omega) _ (Nat.le_refl _) hw'⟩
  obtain ⟨j, rfl⟩ : ∃ j : Nat, i = j := ⟨i.toNat, by omega⟩
  have hj : j < ms.length := by omega
  obtain ⟨m, hmj⟩ : ∃ m, ms[j]? = some m := ⟨ms[j], by simp [hj]⟩
  obtain ⟨r, hrj, ⟨bv, rfl, hbv, hbl⟩, hcut, hcl, _⟩ := h.rr.get hmj
  obtain ⟨abv, cbv, rfl, _⟩ := hbv.form
  rcases h.oo with ⟨_, e2⟩ | ⟨b, c', rest, e, hc, hcm, hbg, hBb, hMb⟩
  · subst e2; simp at hj
  injection e with e1 e2 e3
  subst e1; subst e3
  have hbN : b < N := hoN b rfl
  obtain ⟨C, D, hCD, hCj⟩ := split_at hmj
  have hlen2 : ms.length = C.length + (D.length + 1) := by rw [hCD]; simp
  have hCt : ms.take j = C := by rw [hCD, ← hCj]; simp
  have hDd : ms.drop j = m :: D := by rw [hCD, ← hCj]; simp
  refine pv_r rfl (cnd_f (pv_r rfl (pv_r rfl ?_)))
  refine ldM ?_
  refine sl_pre j (by omega) ?_
  refine sentQ.app0 (n := j) (news := C) (r := rows.take j) (B := B) (⟨rowsF.nil _ _, .inl ⟨rfl, rfl⟩⟩ : sentQ F M B (.slice none 0 0) [] []) hm (by omega) hCj (by have := rowsF.take h.rr j; rw [hCt] at this; exact this)
    (h.pre (fun q hq => rfl) (by omega)) (by simp; omega) (fun v3 M3 N3 hN3 hM3 hv3 hs3 hm3 => ?_)
  have k3 : ∀ q, q < N → M3 q = M q := fun q hq => hM3 q (by simp [Value.ownBlock]) hq
  have n3 : ∀ q, v3.ownBlock = some q → N ≤ q := fun q hq => by
    rcases (hv3 q hq).1 with h | h
    · simp [Value.ownBlock] at h
    · exact h
  refine pv_r rfl (pv_r rfl (ldM ?_ ((k3 g (by omega)).trans hg) rfl))
  refine iaN_r hj ?_
  refine ldMa (vs := [.int .i64 m.f, .int .i64 m.t, .slice abv m.b.length cbv]) ?_ ((k3 b hbN).trans hMb) ?_ ?_
  rotate_left
  · rw [Nat.zero_add, List.drop_append_of_le_length (by omega), List.take_append_of_le_length (by rw [List.length_drop]; omega)]; exact hcut
  · rw [List.length_append]; omega
  refine rcopy_f hm3 hbv.sR (hbs m (List.mem_of_getElem? hmj)) (fun v4 F4 N4 hw4 hF4 hN4 hv4 => ?_)
  obtain ⟨a4, c4, rfl, _⟩ := hv4.form
  refine nws_r (cs := [.int .i64 m.f, .int .i64 m.t, .slice a4 m.b.length c4]) (by kernel_rfl) (fun b5 hb5 => ?_)
  have hs5 : sentQ F4 (upd M3 b5 (some (.cells 61 [Value.int .i64 m.f, .int .i64 m.t, .slice a4 m.b.length c4] 3))) B v3 _ _ := hs3.keep hF4 fun q hq => upd_ne _ _ (by have := (hv3 q hq).2; omega)
  refine hs5.app (n := 1) (news := [m]) (r := [[.int .i64 m.f, .int .i64 m.t, .slice a4 m.b.length c4]]) (fun q hq => (upd_ne _ _ (by omega)).trans (hm3 q (by omega))) (by omega) rfl (by omega)
      ((rowsF.nil _ _).snoc rfl (List.all_eq_true.1 rfl) ⟨_, rfl, hv4, hbl⟩) ⟨rfl, .inr ⟨b5, 0, 1, _, rfl, .inr ⟨.inr ⟨_, _, upd_same _ _ _⟩, rfl⟩⟩⟩ (by simp; omega) (fun v6 M6 N6 hN6 hM6 hv6 hs6 hm6 => ?_)
  have k6 : ∀ q, q < N → M6 q = M q := fun q hq => (hM6 q (fun he => by have := n3 q he; omega) (by omega)).trans ((upd_ne _ _ (by omega)).trans (k3 q hq))
  have n6 : ∀ q, v6.ownBlock = some q → N ≤ q := fun q hq => by
    rcases (hv6 q hq).1 with h | h
    · exact n3 q h
    · omega
  refine pv_r rfl (pv_r rfl (ldM ?_ ((k6 g (by omega)).trans hg) rfl))
  refine sl_suf j (by omega) (by omega) ?_
  have h6 := h.keep hF4 fun q hq => k6 q (by rcases hq with rfl | hq; exact hgN; exact hoN q hq)
  refine hs6.app0 (n := ms.length - j) (news := m :: D) (r := rows.drop j) hm6 (by omega) (by simp; omega) (by have := rowsF.drop h6.rr j; rw [hDd] at this; exact this)
    (h6.suf (fun q hq => rfl) (by omega)) (by simp; omega) (fun v7 M7 N7 hN7 hM7 hv7 hs7 hm7 => ?_)
  have k7 : ∀ q, q < N → M7 q = M q := fun q hq => (hM7 q (fun he => by have := n6 q he; omega) (by omega)).trans (k6 q hq)
  have n7 : ∀ q, v7.ownBlock = some q → N ≤ q := fun q hq => by
    rcases (hv7 q hq).1 with h | h
    · exact n6 q h
    · omega
  have hvf : ∃ a c, v7 = .slice a ([] ++ C ++ [m] ++ m :: D).length c := by
    rcases hs7.oo with ⟨e, e'⟩ | ⟨b, c, e, _⟩
    · simp at e'
    · exact ⟨_, _, e⟩
  obtain ⟨a7, c7, rfl⟩ := hvf
  refine pv_r rfl (pv_r rfl (stM ?_ ((k7 g (by omega)).trans hg)))
  refine fun hc => ⟨_, wk_refl hc, fun hw' => k1 C D m hCD (by omega) (by omega) _ _ _ (.slice a7 ([] ++ C ++ [m] ++ m :: D).length c7) ([] ++ rows.take j ++ [[.int .i64 m.f, .int .i64 m.t, .slice a4 m.b.length c4]] ++ rows.drop j) hF4 (by omega) ?_ (fun q hq hqN => ?_) hw'⟩
  · have := sentQ.net (ty := 77) (g := g) hs7 (fun q hq => by have := n7 q hq; omega) h.gB rfl
    have e : [] ++ C ++ [m] ++ m :: D = C ++ m :: m :: D := by simp
    rw [← e]
    exact this
  · exact ⟨(upd_ne _ _ hq.1).trans (k7 q hqN), hq.1, fun he => by have := n7 q he; omega⟩
end Go.Proofs.Ytjeojnjkmhnepaa.N
