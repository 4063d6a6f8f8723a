import Derived.Test.YtjeojnjkmhnepaaN4
import Derived.Lib.Overlaps
import Derived.Laws.Externs
open Go Go.RowKit Go.Proofs.Ytjeojnjkmhnepaa.K Go.Proofs.Ytjeojnjkmhnepaa.T
set_option linter.unusedVariables false
set_option linter.unusedSimpArgs false
namespace Go.Proofs.Ytjeojnjkmhnepaa.N
variable {F F' : Nat → Option (List Value)} {M M' : Nat → Option Chunk} {N N' : Nat} {K : Kont} {E : PanK}
theorem sz61 : ∀ w, (Go.sizeOf 61).run Try.prog w = .ok 3 w := fun w => run_sizeOf' (i := (Try.prog.info? 61).getD default) (by kernel_rfl) w
/-- slices.overlaps at two rows of the call's own. -/
theorem overlaps_c {b o l c b2 l2 c2 : Nat} {e e2 : TypeId} {cs cs2 : List Value} {tot tot2 : Nat} (h1 : M b2 = some (.cells e2 cs2 tot2)) (h2 : M b = some (.cells e cs tot)) (hne : b2 ≠ b) (ht : 0 < tot) (k : K (.bool false) ⟨F, M, N⟩) :
    callv Try.prog (.func (.func 57) #[] #[]) #[.slice (some ⟨b2, 0, none⟩) l2 c2, .slice (some ⟨b, o, none⟩) l c] K E ⟨F, M, N⟩ := by
  refine .inr fun w0 w r => ⟨.bool false, w, ⟨F, M, N⟩, ?_, r, k⟩
  obtain ⟨_, _, _, arr2, a1, a2, _⟩ := r.cl b2 e2 cs2 tot2 h1
  obtain ⟨_, _, _, arr, a3, a4, _⟩ := r.cl b e cs tot h2
  rw [run_callFunc_extern Try.func57 (by kernel_rfl) (by kernel_rfl) (by kernel_rfl) (e := Extern.SlicesOverlaps.overlaps #[62, 62] #[4]) (by kernel_rfl)]
  have := Lib.run_overlaps_apart (P := Try.prog) w 62 4 61 Try.underlying62 3 sz61 ⟨b2, 0, none⟩ ⟨b, o, none⟩ l2 c2 l c hne e2 e arr2.size arr.size (by simp [World.shape?, a1]) (by simp [World.shape?, a3]) (by omega) (by simp [World.frozen?, a1]) (by simp [World.frozen?, a1])
  have h3 : appA (appA #[] #[.slice (some ⟨b2, 0, none⟩) l2 c2, .slice (some ⟨b, o, none⟩) l c]) #[] = #[Value.slice (some ⟨b2, 0, none⟩) l2 c2, .slice (some ⟨b, o, none⟩) l c] := rfl
  rw [h3, this]
  rfl
theorem cut3 {α : Type} (L : List α) (n : Nat) (h : n ≤ L.length) : ∃ X Y, L = X ++ Y ∧ X.length = n := ⟨L.take n, L.drop n, (List.take_append_drop n L).symm, by simp; omega⟩
/-- slices.Insert(s, i, x), i below the length -/
theorem insert_c {b b2 n c : Nat} {A B : List (List Value)} {r rest : List Value} (hM : M b = some (.cells 61 ((A ++ B).flatten ++ rest) (c * 3))) (hM2 : M b2 = some (.cells 61 r 3)) (hne : b2 ≠ b) (hl : ∀ r ∈ A ++ B, r.length = 3) (h1 : ∀ r ∈ A ++ B, ∀ c ∈ r, c.oneCell' = true)
    (hr : r.length = 3) (hr1 : ∀ c ∈ r, c.oneCell' = true) (hn : (A ++ B).length = n) (hc : n ≤ c) (hcm : c ≤ maxLen) (hi : A.length < n) (hn2 : n < 100000)
    (k : ∀ rest' b' c' N' X, (b' = b ∨ N ≤ b') → (∀ k, k ≠ b → k < N → X k = M k) → X b' = some (.cells 61 ((A ++ r :: B).flatten ++ rest') (c' * 3)) → n + 1 ≤ c' → c' ≤ maxLen → N ≤ N' → (Hp.mk F X N').wf → K (.slice (some ⟨b', 0, none⟩) (n + 1) c') ⟨F, X, N'⟩) :
    callv Try.prog (.func (.func 51) #[] #[]) #[.slice (some ⟨b, 0, none⟩) n c, .int .i64 (A.length : Nat), .slice (some ⟨b2, 0, none⟩) 1 1] K E ⟨F, M, N⟩ := by
  refine callv_reveal hM rfl (by kernel_rfl) (fun ext hext => ?_)
  obtain ⟨R, hR⟩ : ∃ R, R = rest ++ ext := ⟨_, rfl⟩
  rw [List.append_assoc, ← hR] at hext
  obtain ⟨M1, hM1⟩ : ∃ M1, M1 = upd M b (some (.cells 61 ((A ++ B).flatten ++ R) (c * 3))) := ⟨_, rfl⟩
  rw [show (Hp.mk F M N).set b (.cells 61 ((A ++ B).flatten ++ rest ++ ext) (c * 3)) = ⟨F, M1, N⟩ by rw [hM1, hR, ← List.append_assoc]; rfl]
  clear hM
  have hM : M1 b = some (.cells 61 ((A ++ B).flatten ++ R) (c * 3)) := by rw [hM1, upd_same]
  have hM2' : M1 b2 = some (.cells 61 r 3) := by rw [hM1, upd_ne _ _ hne]; exact hM2
  have hMo : ∀ k, k ≠ b → M1 k = M k := fun k hk => by rw [hM1, upd_ne _ _ hk]
  clear hM1
  refine call_text mixed Try.func51 (by kernel_rfl) (t51 _ E _ _ _) (fun hw => ?_)
  have hA : A.flatten.length = A.length * 3 := flatten_len _ (fun r hr => hl r (by simp [hr]))
  have hB : B.flatten.length = B.length * 3 := flatten_len _ (fun r hr => hl r (by simp [hr]))
  have hBl : B.length = n - A.length := by simp at hn; omega
  rw [List.flatten_append] at hM hext
  simp only [List.length_append, hA, hB] at hext
  have hm := hw.m
  have key : ∀ b, M1 b ≠ none → b < N := fun q hq => by
    rcases Nat.lt_or_ge q N with h | h
    · exact h
    · exact absurd (hm q h) hq
  have hbN := key b (by rw [hM]; simp)
  have hb2N := key b2 (by rw [hM2']; simp)
  have h1B : ∀ c ∈ B.flatten, c.oneCell' = true := fun c hc => by
    obtain ⟨q, hq, hc⟩ := List.mem_flatten.1 hc
    exact h1 q (by simp [hq]) c hc
  refine sl_suf A.length (by omega) hc ?_
  refine pv_r rfl (eql_f (by omega) (cnd_f ?_))
  refine pv_r rfl (eql_f (by omega) (cnd_f ?_))
  refine inc_r (by omega) (pv_r rfl ?_)
  by_cases hgt : n + 1 > c
  · refine gtr_t (by omega) (cnd_t ?_)
    refine sl_pre A.length (by omega) ?_
    refine inc_r (by omega) ?_
    refine sub_r (by omega) (by omega) ?_
    have e0 : ((n + 1 : Nat) : Int) - (A.length : Nat) = ((n + 1 - A.length : Nat) : Int) := by omega
    rw [e0]
    refine ⟨b, A.length, c, _, _, n + 1 - A.length, .i64, rfl, rfl, hM, by simp [hA], by omega, by omega, by omega, by simp [maxLen]; omega, fun b' c' hb' hc' hcm' => ?_⟩
    have e1 : A.length + (n + 1 - A.length) = n + 1 := by omega
    rw [e1] at hc' ⊢
    rw [show (A.flatten ++ B.flatten ++ R).take (A.length * 3) = A.flatten by rw [← hA, List.append_assoc]; exact List.take_left]
    have hb'b : b' ≠ b := by simp only at hb'; omega
    have hb'2 : b' ≠ b2 := by simp only at hb'; omega
    have hZ : ((List.replicate (n + 1 - A.length) [Value.int .i64 0, .int .i64 0, .slice none 0 0]).flatten).length = 3 + B.length * 3 := by
      rw [flatten_len (sz := 3) _ (fun r hr => by rw [(List.mem_replicate.1 hr).2]; rfl), List.length_replicate]; omega
    obtain ⟨Z1, Z2, hZe, hZ1⟩ := cut3 _ 3 (by rw [hZ]; omega)
    rw [hZe] at hZ ⊢
    simp only [List.length_append, hZ1] at hZ
    show pv _ _ (Hp.mk F (upd M1 b' (some (.cells 61 (A.flatten ++ (Z1 ++ Z2)) (c' * 3)))) (b' + 1))
    refine sl_suf A.length (by omega) hc' ?_
    rw [if_neg (by omega)]
    refine ⟨b', _, _, _, 61, _, _, 1, r, rfl, upd_same _ _ _, ⟨by rw [hr], .inr ⟨b2, 0, 1, r, rfl, .inr ⟨.inr ⟨_, _, (upd_ne _ _ (Ne.symm hb'2)).trans hM2'⟩, by rw [List.drop_zero, List.take_of_length_le (by omega)]⟩⟩⟩, fun c hc => hr1 c (List.mem_of_mem_take hc), by simp [hA, hZ1]; omega, ?_⟩
    have em : min 1 (n + 1 - A.length) = 1 := by omega
    rw [em, List.take_of_length_le (by omega : r.length ≤ 1 * 3)]
    have es1 : splice (A.flatten ++ (Z1 ++ Z2)) (0 + A.length * 3) r = A.flatten ++ r ++ Z2 := by
      rw [← List.append_assoc, Nat.zero_add, ← hA, splice_at _ _ _ _ (by omega)]
    rw [es1]
    refine inc_r (by omega) ?_
    refine sl_suf (A.length + 1) (by omega) hc' ?_
    rw [if_neg (by omega)]
    refine sl_suf A.length (by omega) hc ?_
    rw [if_neg (by omega)]
    refine ⟨b', _, _, _, 61, _, _, n - A.length, B.flatten, rfl, upd_same _ _ _, ⟨by rw [hB, hBl], .inr ⟨b, _, _, _, rfl, .inr ⟨.inr ⟨_, _, (upd_ne _ _ (Ne.symm hb'b)).trans ((upd_ne _ _ (Ne.symm hb'b)).trans hM)⟩, ?_⟩⟩⟩, fun c hc => h1B c (List.mem_of_mem_take hc), ?_, fun hc2 => ?_⟩
    · rw [Nat.zero_add, ← hA, List.append_assoc, List.drop_left, ← hBl, ← hB, List.take_left]
    · simp [hA, hr]; omega
    have em2 : min (n - A.length) (n + 1 - (A.length + 1)) = B.length := by omega
    rw [em2] at hc2 ⊢
    have es2 : splice (A.flatten ++ r ++ Z2) (0 + (A.length + 1) * 3) (B.flatten.take (B.length * 3)) = A.flatten ++ r ++ B.flatten := by
      have : 0 + (A.length + 1) * 3 = (A.flatten ++ r).length := by simp [hA, hr]; omega
      rw [List.take_of_length_le (by omega), this]
      have h := splice_at (A.flatten ++ r) Z2 B.flatten [] (by omega)
      simpa using h
    rw [es2] at hc2 ⊢
    refine ⟨_, wk_refl hc2, fun hw' => k [] b' c' _ _ (.inr hb') (fun q hq hqN => ?_) ?_ hc' hcm' ?_ hw'⟩
    · simp only at hb'
      exact (upd_ne _ _ (by omega)).trans ((upd_ne _ _ (by omega)).trans ((upd_ne _ _ (by omega)).trans (hMo q hq)))
    · show upd _ _ _ _ = _
      rw [upd_same]; simp
    · simp only at hb'; show N ≤ b' + 1; omega
  · refine gtr_f (by omega) (cnd_f ?_)
    refine inc_r (by omega) ?_
    refine sl_pre (n + 1) (by omega) ?_
    refine inc_r (by omega) ?_
    refine sl_suf (A.length + 1) (by omega) (by omega) ?_
    rw [if_neg (by omega)]
    refine overlaps_c hM2' hM hne (by omega) ?_
    refine pv_r rfl (cnd_t ?_)
    refine inc_r (by omega) ?_
    refine sl_suf (A.length + 1) (by omega) (by omega) ?_
    rw [if_neg (by omega)]
    refine sl_suf A.length (by omega) (by omega) ?_
    rw [if_neg (by omega)]
    obtain ⟨X, Y, hXY, hX⟩ := cut3 (B.flatten ++ R) 3 (by simp [hB]; omega)
    obtain ⟨Y1, R1, hY, hY1⟩ := cut3 Y (B.length * 3) (by have := congrArg List.length hXY; simp [hX, hB] at this; omega)
    subst hY
    have hcs : A.flatten ++ B.flatten ++ R = A.flatten ++ X ++ Y1 ++ R1 := by rw [List.append_assoc, hXY]; simp
    have em : min (n + 1 - A.length) (n + 1 - (A.length + 1)) = B.length := by omega
    have hnews : ((B.flatten ++ R).take ((n + 1 - A.length) * 3)).take (B.length * 3) = B.flatten := by
      rw [List.take_take, Nat.min_eq_left (by omega), ← hB, List.take_left]
    refine ⟨b, _, _, _, 61, _, _, n + 1 - A.length, (B.flatten ++ R).take ((n + 1 - A.length) * 3), rfl, hM, ⟨?_, .inr ⟨b, _, _, _, rfl, .inr ⟨.inr ⟨_, _, hM⟩, ?_⟩⟩⟩, ?_, ?_, ?_⟩
    · rw [List.length_take, List.length_append, hB]; omega
    · rw [Nat.zero_add, ← hA, List.append_assoc, List.drop_left]
    · rw [em, hnews]; exact h1B
    · simp [hA, hB]; omega
    rw [em, hnews]
    have es1 : splice (A.flatten ++ B.flatten ++ R) (0 + (A.length + 1) * 3) B.flatten = A.flatten ++ X ++ B.flatten ++ R1 := by
      have : 0 + (A.length + 1) * 3 = (A.flatten ++ X).length := by simp [hA, hX]; omega
      rw [hcs, this, splice_at _ _ _ _ (by omega)]
    rw [es1]
    refine sl_suf A.length (by omega) (by omega) ?_
    rw [if_neg (by omega)]
    refine ⟨b, _, _, _, 61, _, _, 1, r, rfl, upd_same _ _ _, ⟨by rw [hr], .inr ⟨b2, 0, 1, r, rfl, .inr ⟨.inr ⟨_, _, (upd_ne _ _ hne).trans hM2'⟩, by rw [List.drop_zero, List.take_of_length_le (by omega)]⟩⟩⟩, fun c hc => hr1 c (List.mem_of_mem_take hc), by simp [hA, hB, hX]; omega, fun hc2 => ?_⟩
    have em2 : min 1 (n + 1 - A.length) = 1 := by omega
    rw [em2, List.take_of_length_le (by omega : r.length ≤ 1 * 3)] at hc2 ⊢
    have es2 : splice (A.flatten ++ X ++ B.flatten ++ R1) (0 + A.length * 3) r = A.flatten ++ r ++ B.flatten ++ R1 := by
      have h := splice_at A.flatten X r (B.flatten ++ R1) (by omega)
      rw [Nat.zero_add, ← hA]
      simpa using h
    rw [es2] at hc2 ⊢
    refine ⟨_, wk_refl hc2, fun hw' => k R1 b c _ _ (.inl rfl) (fun q hq hqN => ?_) ?_ (by omega) hcm (Nat.le_refl _) hw'⟩
    · exact (upd_ne _ _ hq).trans ((upd_ne _ _ hq).trans (hMo q hq))
    · show upd _ _ _ _ = _
      rw [upd_same]; simp
end Go.Proofs.Ytjeojnjkmhnepaa.N
