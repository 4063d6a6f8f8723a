import Derived.Test.YtjeojnjkmhnepaaN5
open Go Go.RowKit Go.Proofs.Ytjeojnjkmhnepaa.K Go.Proofs.Ytjeojnjkmhnepaa.T
set_option linter.unusedVariables false
set_option linter.unusedSimpArgs false
namespace Go.Proofs.Ytjeojnjkmhnepaa.N
variable {F F' : Nat → Option (List Value)} {M M' : Nat → Option Chunk} {N N' : Nat} {K : Kont} {E : PanK}
theorem all2.dup {α β : Type} {R : α → β → Prop} {A B : List α} {C D : List β} {x : α} {y : β} (h : all2 R (A ++ B) (C ++ D)) (hl : A.length = C.length) (hr : R x y) : all2 R (A ++ x :: B) (C ++ y :: D) := by
  have h1 := h.1
  simp at h1
  refine ⟨by simp; omega, fun i u v hu hv => ?_⟩
  rcases Nat.lt_or_ge i A.length with hi | hi
  · rw [List.getElem?_append_left hi] at hu
    rw [List.getElem?_append_left (by omega)] at hv
    exact h.2 i u v (by rw [List.getElem?_append_left hi]; exact hu) (by rw [List.getElem?_append_left (by omega)]; exact hv)
  · rw [List.getElem?_append_right hi] at hu
    rw [List.getElem?_append_right (by omega)] at hv
    obtain ⟨q, rfl⟩ : ∃ q, i = A.length + q := ⟨i - A.length, by omega⟩
    rw [show A.length + q - A.length = q by omega] at hu
    rw [show A.length + q - C.length = q by omega] at hv
    cases q with
    | zero => simp at hu hv; subst hu; subst hv; exact hr
    | succ q =>
      simp at hu hv
      exact h.2 (A.length + q) u v (by rw [List.getElem?_append_right (by omega)]; simpa using hu) (by rw [List.getElem?_append_right (by omega)]; rw [show A.length + q - C.length = q by omega]; exact hv)
/-- (*Net).Twice -/
theorem twice_c {B g : Nat} {v : Value} {rows : List (List Value)} {ms : List ML} {i : Int} (h : isNet 87 F M B g v rows ms) (hB : B ≤ N)
    (k0 : ¬ ((0 ≤ i ∧ i < ms.length) ∧ ms.length < 2000) → ∀ N', N ≤ N' → (Hp.mk F M N').wf → K (.bool false) ⟨F, M, N'⟩)
    (k1 : ∀ (C D : List ML) m, ms = C ++ m :: D → i = C.length → ms.length < 2000 → ∀ F' M' N' v' rows', subF F F' → N ≤ N' → isNet 87 F' M' B g v' rows' (C ++ m :: m :: D) → (∀ k, farN g v k → k < N → M' k = M k ∧ farN g v' k) → (Hp.mk F' M' N').wf → K (.bool true) ⟨F', M', N'⟩) :
    callv Try.prog (.func (.func 35) #[] #[]) #[.pointer (some ⟨g, 0, none⟩), .int .i64 i] K E ⟨F, M, N⟩ := by
  refine callv_of_text mixed Try.func35 (by kernel_rfl) (t35 _ E _ _) (fun hw => ?_)
  have hm := hw.m
  obtain ⟨hgN, hoN⟩ := h.lt hm
  refine has_c h ?_
  by_cases hr : 0 ≤ i ∧ i < ms.length
  · rw [decide_eq_true hr]
    refine pv_r rfl (gd_ff (gd_ff ?_))
    refine room_c h ?_
    by_cases hlen : ms.length < 2000
    · rw [decide_eq_true (by omega : ((ms.length : Int) < 2000))]
      refine gd_ff (pv_r rfl (pv_r rfl (cnd_f ?_)))
      obtain ⟨j, rfl⟩ : ∃ j : Nat, i = j := ⟨i.toNat, by omega⟩
      have hj : j < ms.length := by omega
      rcases h.oo with ⟨_, e2⟩ | ⟨b, c, rest, rfl, hc, hcm, hbg, hBb, hMb⟩
      · subst e2; simp at hj
      have hbN := hoN b rfl
      have hg := h.gg
      refine pv_r rfl (pv_r rfl ?_)
      refine ldM ?_
      refine pv_r rfl (pv_r rfl ?_)
      refine ldM ?_
      refine iaN_r hj ?_
      obtain ⟨m, hmj⟩ : ∃ m, ms[j]? = some m := ⟨ms[j], by simp [hj]⟩
      obtain ⟨r, hrj, ⟨bv, rfl, hbv, hbl⟩, hcut, hcl, _⟩ := h.rr.get hmj
      refine ldMa (vs := [.int .i64 m.f, .int .i64 m.t, bv]) ?_ hMb ?_ ?_
      rotate_left
      · rw [Nat.zero_add, List.drop_append_of_le_length (by omega), List.take_append_of_le_length (by rw [List.length_drop]; omega)]; exact hcut
      · rw [List.length_append]; omega
      refine nclone_f hm hbv.sR hbl (fun v' F' N' hw1 hF hN hv' => ?_)
      obtain ⟨a', c', rfl, hc'⟩ := hv'.form
      have hread : ∀ (X : Nat → Option Chunk) (n : Nat), X g = some (.cells 87 [.slice (some ⟨b, 0, none⟩) ms.length c] 1) → ldV ⟨F', X, n⟩ false 1 (.pointer (some ⟨g, 0 + 0, none⟩)) (.slice (some ⟨b, 0, none⟩) ms.length c) := fun X n hX => ldV_c (row_M hX) rfl
      refine ⟨hread _ _ hg, ?_⟩
      refine nws_r (cs := [.int .i64 m.f, .int .i64 m.t, .slice a' m.b.length c']) (by kernel_rfl) (fun b2 h2 => ?_)
      refine ⟨hread _ _ ((upd_ne _ _ (by omega)).trans hg), ?_⟩
      have hr1 : mailR F' [.int .i64 m.f, .int .i64 m.t, .slice a' m.b.length c'] m := ⟨_, rfl, hv', hbl⟩
      obtain ⟨A, Bs, hAB, hAj⟩ := split_at hrj
      obtain ⟨C, D, hCD, hCj⟩ := split_at hmj
      have hrows : rows = A ++ ([.int .i64 m.f, .int .i64 m.t, bv] :: Bs) := hAB
      have hll : rows.length = ms.length := h.rr.all.1
      have e1 : (j : Int) = (A.length : Nat) := by omega
      rw [e1]
      refine insert_c (A := A) (B := [.int .i64 m.f, .int .i64 m.t, bv] :: Bs) (rest := rest) ((upd_ne _ _ (by omega)).trans (by rw [← hrows]; exact hMb)) (upd_same _ _ _) (by omega) (by rw [← hrows]; exact h.rr.len) (by rw [← hrows]; exact h.rr.one) rfl hr1.one.2 (by rw [← hrows]; exact hll) hc hcm (by omega) (by omega) (fun rest' b' c2 N2 X hb' hX hXb hc2 hc2m hN2 hw2 => ?_)
      have hb'g : b' ≠ g := by rcases hb' with rfl | hb'; exact hbg; omega
      have hXg : X g = some (.cells 87 [.slice (some ⟨b, 0, none⟩) ms.length c] 1) := (hX g (fun e => hbg e.symm) (by omega)).trans ((upd_ne _ _ (by omega)).trans hg)
      refine pv_r rfl (pv_r rfl ?_)
      refine stM fun hcw => ?_
      refine ⟨_, wk_refl hcw, fun hw' => k1 C D m hCD (by omega) hlen F' _ _ (.slice (some ⟨b', 0, none⟩) (ms.length + 1) c2) (A ++ [.int .i64 m.f, .int .i64 m.t, .slice a' m.b.length c'] :: [.int .i64 m.f, .int .i64 m.t, bv] :: Bs) hF (by omega) ⟨upd_same _ _ _, h.gB, ?_, .inr ⟨b', c2, rest', ?_, ?_, hc2m, hb'g, ?_, ?_⟩⟩ ?_ hw'⟩
      · have ha : all2 (mailR F') (A ++ [.int .i64 m.f, .int .i64 m.t, bv] :: Bs) (C ++ m :: D) := by
          rw [← hrows, ← hCD]; exact h.rr.all.mono fun r x hr => hr.mono hF
        have hd := all2.dup ha (by omega) hr1
        refine ⟨fun r hr => ?_, fun r hr => ?_, hd⟩
        · simp only [List.mem_append, List.mem_cons] at hr
          rcases hr with hr | rfl | rfl | hr
          · exact h.rr.len r (by rw [hrows]; simp [hr])
          · rfl
          · rfl
          · exact h.rr.len r (by rw [hrows]; simp [hr])
        · simp only [List.mem_append, List.mem_cons] at hr
          rcases hr with hr | rfl | rfl | hr
          · exact h.rr.one r (by rw [hrows]; simp [hr])
          · exact hr1.one.2
          · exact h.rr.one _ (by rw [hrows]; simp)
          · exact h.rr.one r (by rw [hrows]; simp [hr])
      · have : (C ++ m :: m :: D).length = ms.length + 1 := by rw [hCD]; simp; omega
        rw [this]
      · have : (C ++ m :: m :: D).length = ms.length + 1 := by rw [hCD]; simp; omega
        omega
      · rcases hb' with rfl | hb'; exact hBb; omega
      · exact (upd_ne _ _ hb'g).trans hXb
      · intro k hk hkN
        have hkb : k ≠ b := fun e => hk.2 (by rw [e]; rfl)
        refine ⟨(upd_ne _ _ hk.1).trans ((hX k hkb (by omega)).trans (upd_ne _ _ (by omega))), hk.1, fun he => ?_⟩
        simp [Value.ownBlock] at he
        rcases hb' with e | hb'
        · exact hkb (by omega)
        · omega
    · rw [decide_eq_false (by omega : ¬ ((ms.length : Int) < 2000))]
      refine gd_ff (pv_r rfl (pv_r rfl (cnd_t fun hc => ?_)))
      exact ⟨_, wk_refl hc, fun hw' => k0 (fun q => hlen q.2) _ (Nat.le_refl _) hw'⟩
  · rw [decide_eq_false hr]
    refine pv_r rfl (gd_tf (gd_tf (gd_tf (pv_r rfl (cnd_t fun hc => ?_)))))
    exact ⟨_, wk_refl hc, fun hw' => k0 (fun q => hr q.1) _ (Nat.le_refl _) hw'⟩
end Go.Proofs.Ytjeojnjkmhnepaa.N
