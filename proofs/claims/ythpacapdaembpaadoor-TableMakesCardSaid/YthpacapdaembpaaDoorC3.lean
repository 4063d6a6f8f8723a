import Derived.Test.YthpacapdaembpaaDoorC2
open Go Go.RowKit Go.Proofs.YthpacapdaembpaaDoor.K Go.Proofs.YthpacapdaembpaaDoor.T
set_option linter.unusedVariables false
set_option linter.unusedSimpArgs false
namespace Go.Proofs.YthpacapdaembpaaDoor.A
variable {F F' : Nat → Option (List Value)} {M M' : Nat → Option Chunk} {N N' : Nat} {K : Kont} {E : PanK}
theorem isp_c {h : Hp} (k : K (.bool false) h) : callv Tryd.prog (.func (.func 129) #[] #[]) #[.int .i64 36] K E h := by
  obtain ⟨F, M, N⟩ := h
  refine callv_of_text mixed Tryd.func129 (by kernel_rfl) (t129 _ E _) (fun hw => ?_)
  refine sub_r (by decide) (by decide) ?_
  refine pv_r (v := .int .i64 32) (by kernel_rfl) ?_
  refine eql_f (by decide) fun hc => ?_
  exact ⟨_, wk_refl hc, fun _ => k⟩
/-- formatBits, at base 36. -/
theorem fb_c {B n u : Nat} {v : Value} {cs : List Value} (h : own M B 5 1 v n cs) (hm : clean M N) (hB : B ≤ N) (hu : u < 18446744073709551616) (hn : n ≤ 1099511627776)
    (k : ∀ v' M' N', own M' B 5 1 v' (n + (num u).length) (cs ++ bts (num u)) → fr M M' N v v' → N ≤ N' → clean M' N' → (Hp.mk F M' N').wf → K (.tuple #[v', .string ⟨#[]⟩]) ⟨F, M', N'⟩) :
    callv Tryd.prog (.func (.func 125) #[] #[]) #[v, .int .u64 (u : Nat), .int .i64 36, .bool false, .bool true] K E ⟨F, M, N⟩ := by
  refine callv_of_text mixed Tryd.func125 (by kernel_rfl) (t125 _ E _ _ _ _ _) (fun hw => ?_)
  refine lss_f (by decide) (gd_ff (gd_ff (eql_f (by decide) (pv_r (v := .bool false) rfl ?_))))
  refine gd_ff (gd_ff (gtr_f (by decide) (pv_r (v := .bool false) rfl ?_)))
  refine cnd_f ?_
  rw [t125_1_1]
  refine nw_r (fun b hb => ?_)
  refine cnd_f ?_
  rw [t125_1_1_1_1_1]
  refine isp_c ?_
  refine cnd_f ?_
  refine pv_r (v := .int .u64 36) (by kernel_rfl) ?_
  refine l125_1_1_1_1_1_0_1_1_1_0_0_0 (σ := Nat × List Int) (fun s => .int .u64 (s.1 : Nat)) (fun s => .int .i64 ((65 - s.2.length : Nat) : Int))
    (fun s h => ∃ l N', h = ⟨F, upd M b (some (.cells 162 l 65)), N'⟩ ∧ b < N' ∧ fbS u s l) (fun s => s.1) (u, []) rfl rfl (fun hw1 => ⟨_, wk_refl hw1, _, _, rfl, Nat.lt_succ_self _, ⟨rfl, by simp, rfl, hu, hu⟩⟩) (fun k1 s j h1 hI hw1 next => ?_)
  obtain ⟨l, N1, rfl, hbN, hs⟩ := hI
  have hl := hs.len
  have hsh := hs.short
  have hlt := hs.lt
  refine geq_r (fun hq => ?_) (fun hq => ?_)
  · refine cnd_t ?_
    refine sub_n (b := 1) (by omega) (by omega) ?_
    refine uquo (b := 36) (by decide) hlt ?_
    refine umul (b := 36) (by omega) ?_
    refine usub (by omega) hlt ?_
    rw [show s.1 - s.1 / 36 * 36 = s.1 % 36 by omega, show 65 - s.2.length - 1 = 65 - (s.2.length + 1) by omega]
    refine pv_r (ix_dig (Nat.mod_lt _ (by decide))) ?_
    refine iaA (by omega) ?_
    refine stM (cs' := l.set (65 - (s.2.length + 1)) (.int .u8 (dig (s.1 % 36)))) ?_ (upd_same _ _ _) (by rw [Nat.zero_add, Nat.mul_one]; exact splice_one (by omega) _) rfl (List.all_eq_true.1 rfl) (by omega)
    refine next (s.1 / 36, dig (s.1 % 36) :: s.2) _ _ (by simp only; omega) (fun hw2 => ⟨_, wk_refl hw2, _, _, by rw [upd_upd], hbN, ⟨by simpa using hl, ?_, ?_, hu, by simp only; omega⟩⟩)
    · rw [hs.num]
      simp only
      rw [num, dif_neg (by omega)]; simp
    · have h1 := hs.tail
      simp only [List.length_cons]
      rw [drop_set (by omega), show 65 - (s.2.length + 1) + 1 = 65 - s.2.length by omega, h1]; rfl
  · refine cnd_f ?_
    rw [t125_1_1_1_1_1_0_1_1_1_1]
    refine sub_n (b := 1) (by omega) (by omega) ?_
    rw [show 65 - s.2.length - 1 = 65 - (s.2.length + 1) by omega]
    refine pv_r (ix_dig (by omega)) ?_
    refine iaA (by omega) ?_
    refine stM (cs' := l.set (65 - (s.2.length + 1)) (.int .u8 (dig s.1))) ?_ (upd_same _ _ _) (by rw [Nat.zero_add, Nat.mul_one]; exact splice_one (by omega) _) rfl (List.all_eq_true.1 rfl) (by omega)
    rw [upd_upd]
    rw [t125_1_1_1_1_1_1]
    refine cnd_f ?_
    rw [t125_1_1_1_1_1_1_1]
    refine cnd_t ?_
    have hnum : num u = dig s.1 :: s.2 := by rw [hs.num, num, dif_pos (by omega)]; rfl
    have hnl : (num u).length = s.2.length + 1 := by rw [hnum]; rfl
    refine sl_suf (65 - (s.2.length + 1)) (by omega) (by omega) ?_
    rw [if_neg (by omega)]
    have hx : sR F (upd M b (some (.cells 162 (l.set (65 - (s.2.length + 1)) (.int .u8 (dig s.1))) 65))) 1 (.slice (some ⟨b, 0 + (65 - (s.2.length + 1)) * 1, none⟩) (65 - (65 - (s.2.length + 1))) (65 - (65 - (s.2.length + 1)))) (num u).length (bts (num u)) := by
      refine ⟨by simp [bts], .inr ⟨b, _, _, _, by rw [show 65 - (65 - (s.2.length + 1)) = (num u).length by omega], Nat.le_refl _, .inr ⟨_, _, upd_same _ _ _⟩, ?_⟩⟩
      rw [show 0 + (65 - (s.2.length + 1)) * 1 = 65 - (s.2.length + 1) by omega, drop_set (by omega), show 65 - (s.2.length + 1) + 1 = 65 - s.2.length by omega, hs.tail, hnum, List.take_of_length_le (by simp [bts])]
      rfl
    have hbne : v.ownBlock ≠ some b := fun e => by have := h.lt hm b e; omega
    have hk1 : own (upd M b (some (.cells 162 (l.set (65 - (s.2.length + 1)) (.int .u8 (dig s.1))) 65))) B 5 1 v n cs := h.keep (fun q hq => upd_ne _ _ (fun e => hbne (e ▸ hq))) (Nat.le_refl _)
    refine hk1.app (N := N1) (hm.set' hb hbN) (by omega) hx (fun c hc => by obtain ⟨x, _, rfl⟩ := List.mem_map.1 hc; rfl) (by simp [hnl]; omega) (by simp [maxLen]; omega) (fun v' M' N' hv' hfr hN' hm' hc => ?_)
    exact ⟨_, wk_drop hc (keepM_sub _ (keepV N v')), fun hw' => k v' _ N' hv'.trim (fr_keep fun q hq hqN => ⟨((hfr q hq (by omega)).1).trans (upd_ne _ _ (by omega)), (hfr q hq (by omega)).2⟩) (by omega) (keepM_clean hm') hw'⟩
end Go.Proofs.YthpacapdaembpaaDoor.A
