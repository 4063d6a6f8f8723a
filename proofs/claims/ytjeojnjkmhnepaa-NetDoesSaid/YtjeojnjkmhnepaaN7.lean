import Derived.Test.YtjeojnjkmhnepaaN6
open Go Go.RowKit Go.Proofs.Ytjeojnjkmhnepaa.K Go.Proofs.Ytjeojnjkmhnepaa.T
set_option linter.unusedVariables false
set_option linter.unusedSimpArgs false
namespace Go.Proofs.Ytjeojnjkmhnepaa.N
variable {F F' : Nat → Option (List Value)} {M M' : Nat → Option Chunk} {N N' : Nat} {K : Kont} {E : PanK}
/-- (*Net).Late -/
theorem late_c {B g : Nat} {v : Value} {rows : List (List Value)} {ms : List ML} {i : Int} (h : isNet 87 F M B g v rows ms) (hB : B ≤ N) (hlen : ms.length ≤ 2000)
    (k0 : ¬ (0 ≤ i ∧ i < ms.length) → ∀ N', N ≤ N' → (Hp.mk F M N').wf → K (.bool false) ⟨F, M, N'⟩)
    (k1 : ∀ (C D : List ML) m, ms = C ++ m :: D → i = C.length → ∀ F' M' N' v' rows', subF F F' → N ≤ N' → isNet 87 F' M' B g v' rows' (C ++ D ++ [m]) → (∀ k, farN g v k → k < N → M' k = M k ∧ farN g v' k) → (Hp.mk F' M' N').wf → K (.bool true) ⟨F', M', N'⟩) :
    callv Try.prog (.func (.func 36) #[] #[]) #[.pointer (some ⟨g, 0, none⟩), .int .i64 i] K E ⟨F, M, N⟩ := by
  refine callv_of_text mixed Try.func36 (by kernel_rfl) (t36 _ E _ _) (fun hw => ?_)
  have hm := hw.m
  obtain ⟨hgN, hoN⟩ := h.lt hm
  refine take_c h (fun hr N1 hN1 hw1 => ?_) (fun j m hij hmj M1 N1 bv v1 rows1 hbv hbl hN1 h1 hfar hw1 => ?_)
  · have hm := hw1.m
    refine pv_r rfl (pv_r rfl ?_)
    refine nw_r (fun b hb => ?_)
    refine stM ?_
    refine gd_ft (gd_ft (gd_ft (pv_r rfl fun hc => ?_)))
    exact ⟨_, wk_end hc, fun hw' => k0 hr _ (by omega) hw'⟩
  · obtain ⟨a', c', rfl, hc'⟩ := hbv.form
    obtain ⟨C, D, hCD, hCj⟩ := split_at hmj
    obtain ⟨hgN1, hoN1⟩ := h1.lt hw1.m
    refine pv_r rfl (pv_r rfl ?_)
    refine nw_r (fun b hb => ?_)
    refine stM ?_
    refine gd_tt (gd_tt ?_)
    refine ldMa ?_
    refine gd_tt ?_
    have far1 : ∀ k, (k = g ∨ v1.ownBlock = some k) → k ≠ b := fun k hk => by rcases hk with rfl | hk; omega; have := hoN1 k hk; omega
    have hel : ms.eraseIdx j = C ++ D := by rw [hCD, ← hCj]; exact erase_at C D m
    refine send_c (h1.keep (subF.refl _) (fun k hk => (upd_ne _ _ (far1 k hk)).trans (upd_ne _ _ (far1 k hk)))) (by omega) hbv.sR hbl (fun hno => ?_) (fun _ F2 M2 N2 v2 rows2 hF2 hN2 h2 hfar2 hw2 => ?_)
    · rw [hel] at hno
      have : ms.length = C.length + (D.length + 1) := by rw [hCD]; simp
      simp at hno
      omega
    · refine pv_r rfl fun hc => ⟨_, wk_refl hc, fun hw' => ?_⟩
      rw [hel] at h2
      refine k1 C D m hCD (by omega) _ _ _ v2 rows2 hF2 (by omega) h2 (fun k hk hkN => ?_) hw'
      obtain ⟨e1, hk1⟩ := hfar k hk hkN
      obtain ⟨e2, hk2⟩ := hfar2 k hk1 (by omega)
      exact ⟨e2.trans ((upd_ne _ _ (by omega)).trans ((upd_ne _ _ (by omega)).trans e1)), hk2⟩
end Go.Proofs.Ytjeojnjkmhnepaa.N
