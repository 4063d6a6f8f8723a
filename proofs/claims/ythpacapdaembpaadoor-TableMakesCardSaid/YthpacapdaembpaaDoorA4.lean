import Derived.Test.YthpacapdaembpaaDoorA3
open Go Go.RowKit Go.Proofs.YthpacapdaembpaaDoor.K Go.Proofs.YthpacapdaembpaaDoor.T
set_option linter.unusedVariables false
set_option linter.unusedSimpArgs false
namespace Go.Proofs.YthpacapdaembpaaDoor.A
variable {F F' : Nat → Option (List Value)} {M M' : Nat → Option Chunk} {N N' : Nat} {K : Kont} {E : PanK}
/-- The numbers' cells. -/
def ic (l : List Int) : List Value := l.map (.int .i64)
/-- slices.Clone of numbers, that nobody turns any more: without numbers it may be none at all. -/
theorem clone_f {v : Value} {l : List Int} (hm0 : ∀ q, N ≤ q → M q = none) (hv : sR F M 1 v l.length (ic l)) (hl : l.length ≤ 10000000000000)
    (k : ∀ v' F' N', (Hp.mk F' M N').wf → subF F F' → N ≤ N' → sF F' 1 v' l.length (ic l) → K v' ⟨F', M, N'⟩) : callv Tryd.prog (.func (.func 76) #[] #[]) #[v] K E ⟨F, M, N⟩ := by
  refine callv_of_text mixed Tryd.func76 (by kernel_rfl) (t76 _ E _) (fun hw => ?_)
  obtain ⟨a, c, rfl, hc⟩ := hv.form
  cases a with
  | none =>
    have h0 : l.length = 0 := by rcases hv.2 with ⟨a', c', h1, h2⟩ | ⟨b, o, c', cs, h1, _⟩; exact h2; simp at h1
    have hl0 : l = [] := List.eq_nil_of_length_eq_zero h0
    refine pv_r rfl (cnd_t fun hc => ⟨_, wk_refl hc, fun hw' => k _ F N hw' (subF.refl _) (Nat.le_refl _) ?_⟩)
    rw [hl0]; exact sF.nil _ _ _
  | some ad =>
    refine pv_r rfl (cnd_f ?_)
    refine nws_r (cs := []) (by kernel_rfl) (fun b0 hb0 => ?_)
    refine app_r0 (n := 0) (cs := []) (m := l.length) (news := ic l) (ownS_new (upd_same _ _ _) rfl) (hv.new hw.m hb0).read (ints_one _) (by omega) (by simp [maxLen]; omega) (fun h => by cases h) (fun _ b c' hb hmc hcm hc => ?_)
    have hb' : N ≤ b := by rcases hb with h | h; omega; simp [Value.ownBlock] at h; omega
    rw [Nat.zero_add] at hmc
    refine ⟨⟨upd F b (some (ic l)), M, max (b0 + 1) (b + 1)⟩, wk_frz (M0 := M) hc ?_ (hm0 b hb') (upd_same _ _ _), fun hw' => k _ _ _ hw' (subF.upd (hw.f b hb')) (by omega) ?_⟩
    · intro q c hq
      have hqN : q < N := by
        rcases Nat.lt_or_ge q N with h | h
        · exact h
        · rw [hm0 q h] at hq; cases hq
      exact (upd_ne _ _ (by omega)).trans ((forget_ne _ (by simp [Value.ownBlock]; omega)).trans ((upd_ne _ _ (by omega)).trans hq))
    · rw [Nat.zero_add]
      exact sF_fresh (by simp [ic]) hmc
end Go.Proofs.YthpacapdaembpaaDoor.A
