import Derived.Test.YtjeojnjkmhnepaaN2
open Go Go.RowKit Go.Proofs.Ytjeojnjkmhnepaa.K Go.Proofs.Ytjeojnjkmhnepaa.T
set_option linter.unusedVariables false
set_option linter.unusedSimpArgs false
namespace Go.Proofs.Ytjeojnjkmhnepaa.N
variable {F F' : Nat → Option (List Value)} {M M' : Nat → Option Chunk} {N N' : Nat} {K : Kont} {E : PanK}
theorem isNet.go {ty : TypeId} {B g : Nat} {v : Value} {rows : List (List Value)} {ms : List ML} (h : isNet ty F M B g v rows ms) : v.ownBlock ≠ some g := fun he => by
  rcases h.oo with ⟨e, _⟩ | ⟨b', c'', rest, e, _, _, h4, _, _⟩
  · rw [e] at he; simp [Value.ownBlock] at he
  · rw [e] at he; simp [Value.ownBlock] at he; exact h4 he
theorem split_at {α : Type} {l : List α} {i : Nat} {x : α} (h : l[i]? = some x) : ∃ A B, l = A ++ x :: B ∧ A.length = i := by
  obtain ⟨hlt, rfl⟩ := List.getElem?_eq_some_iff.1 h
  exact ⟨l.take i, l.drop (i + 1), by rw [← List.drop_eq_getElem_cons hlt, List.take_append_drop], by simp; omega⟩
theorem erase_at {α : Type} (A B : List α) (x : α) : (A ++ x :: B).eraseIdx A.length = A ++ B := by
  rw [List.eraseIdx_append_of_length_le (Nat.le_refl _)]; simp
/-- slices.Delete(s, i, i + 1) -/
theorem delete_c {b n c i : Nat} {rows : List (List Value)} {rest : List Value} (hM : M b = some (.cells 61 (rows.flatten ++ rest) (c * 3))) (hl : ∀ r ∈ rows, r.length = 3) (h1 : ∀ r ∈ rows, ∀ c ∈ r, c.oneCell' = true) (hn : rows.length = n) (hc : n ≤ c) (hi : i < n)
    (k : ∀ rest' N' X, (∀ k, k ≠ b → k < N → X k = M k) → X b = some (.cells 61 ((rows.eraseIdx i).flatten ++ rest') (c * 3)) → N ≤ N' → (Hp.mk F X N').wf → K (.slice (some ⟨b, 0, none⟩) (n - 1) c) ⟨F, X, N'⟩) :
    callv Try.prog (.func (.func 50) #[] #[]) #[.slice (some ⟨b, 0, none⟩) n c, .int .i64 (i : Nat), .int .i64 (i + 1 : Nat)] K E ⟨F, M, N⟩ := by
  refine callv_of_text mixed Try.func50 (by kernel_rfl) (t50 _ E _ _ _) (fun hw => ?_)
  refine pv_r rfl ?_
  refine sl_r i (i + 1) n (by omega) (by omega) (by omega) ?_
  refine eql_f (by omega) (cnd_f ?_)
  refine pv_r rfl ?_
  refine sl_pre i (by omega) ?_
  refine sl_suf (i + 1) (by omega) hc ?_
  -- the rows ahead, the row, the rows behind
  obtain ⟨r, hr⟩ : ∃ r, rows[i]? = some r := ⟨rows[i]'(by omega), by simp [hn, hi]⟩
  obtain ⟨A, B, rfl, rfl⟩ := split_at hr
  have hA : A.flatten.length = A.length * 3 := flatten_len _ (fun r hr => hl r (by simp [hr]))
  have hB : B.flatten.length = B.length * 3 := flatten_len _ (fun r hr => hl r (by simp [hr]))
  have hr3 : r.length = 3 := hl r (by simp)
  have hBn : B.length = n - (A.length + 1) := by simp at hn; omega
  have hfl : (A ++ r :: B).flatten ++ rest = A.flatten ++ (r ++ B.flatten) ++ rest := by simp
  rw [hfl] at hM
  rw [erase_at] at k
  have hlen : (A.flatten ++ (r ++ B.flatten) ++ rest).length = A.length * 3 + (3 + B.length * 3) + rest.length := by simp [hA, hB, hr3]; omega
  -- what is taken up
  refine .inr ⟨b, A.length, c, _, B.length, B.flatten, rfl, hM, ⟨by rw [hB], .inr ⟨b, (if c = A.length + 1 then 0 else 0 + (A.length + 1) * 3), c - (A.length + 1), A.flatten ++ (r ++ B.flatten) ++ rest, ?_, ?_⟩⟩, fun c hc => ?_, by omega, by rw [hlen]; omega, ?_⟩
  · rw [hBn]; split <;> rfl
  · by_cases hz : B.length = 0
    · exact .inl hz
    · right
      refine ⟨.inr ⟨_, _, hM⟩, ?_⟩
      rw [if_neg (by omega)]
      have e : A.flatten ++ (r ++ B.flatten) ++ rest = (A.flatten ++ r) ++ (B.flatten ++ rest) := by simp
      rw [e, show 0 + (A.length + 1) * 3 = (A.flatten ++ r).length by simp [hA, hr3]; omega, List.drop_left, ← hB, List.take_left]
  · obtain ⟨q, hq, hc⟩ := List.mem_flatten.1 hc
    exact h1 q (by simp [hq]) c hc
  · have hn1 : A.length + B.length = n - 1 := by omega
    rw [hn1]
    -- the first store: B goes ahead
    obtain ⟨D, hD, hDl⟩ : ∃ D, splice (A.flatten ++ (r ++ B.flatten) ++ rest) (A.length * 3) B.flatten = A.flatten ++ B.flatten ++ D ∧ 3 ≤ D.length := by
      refine ⟨((r ++ B.flatten).drop B.flatten.length) ++ rest, ?_, by simp [hr3]⟩
      rw [← hA]
      have e : A.flatten ++ (r ++ B.flatten) ++ rest = A.flatten ++ (r ++ B.flatten).take B.flatten.length ++ ((r ++ B.flatten).drop B.flatten.length ++ rest) := by
        rw [List.append_assoc A.flatten ((r ++ B.flatten).take _), ← List.append_assoc ((r ++ B.flatten).take _), List.take_append_drop, List.append_assoc]
      rw [e, splice_at _ _ _ _ (by simp)]
    rw [hD]
    refine pv_r rfl ?_
    refine sl_mid (n - 1) n (by omega) hc (by omega) ?_
    refine .inr ⟨b, _, _, _, 61, _, _, rfl, by omega, upd_same _ _ _, List.all_eq_true.1 rfl, ?_, fun hc' => ?_⟩
    · simp [hA, hB]; omega
    · refine ⟨_, wk_refl hc', fun hw' => k ([Value.int .i64 0, .int .i64 0, .slice none 0 0] ++ D.drop 3) _ _ (fun q hq hqN => ?_) ?_ ?_ hw'⟩
      · simp only [Hp.set]; rw [upd_ne _ _ hq, upd_ne _ _ hq]
      · simp only [Hp.set]; rw [upd_same]
        have e1 : n - (n - 1) = 1 := by omega
        have e2 : 0 + (n - 1) * 3 = (A.flatten ++ B.flatten).length := by simp [hA, hB]; omega
        have e3 : A.flatten ++ B.flatten ++ D = A.flatten ++ B.flatten ++ D.take 3 ++ D.drop 3 := by rw [List.append_assoc (A.flatten ++ B.flatten), List.take_append_drop]
        rw [e1, e2, e3, splice_at _ _ _ _ (by simp; omega)]
        simp
      · exact Nat.le_refl _
/-- (*Net).Take -/
theorem take_c {B g : Nat} {v : Value} {rows : List (List Value)} {ms : List ML} {i : Int} (h : isNet 87 F M B g v rows ms)
    (k0 : ¬ (0 ≤ i ∧ i < ms.length) → ∀ N', N ≤ N' → (Hp.mk F M N').wf → K (.tuple #[.agg #[.int .i64 0, .int .i64 0, .slice none 0 0], .bool false]) ⟨F, M, N'⟩)
    (k1 : ∀ (j : Nat) m, i = j → ms[j]? = some m → ∀ M' N' bv v' rows', sF F 1 bv m.b.length (bc m.b) → m.b.length ≤ 140737488355328 → N ≤ N' → isNet 87 F M' B g v' rows' (ms.eraseIdx j) → (∀ k, farN g v k → k < N → M' k = M k ∧ farN g v' k) → (Hp.mk F M' N').wf → K (.tuple #[.agg #[.int .i64 m.f, .int .i64 m.t, bv], .bool true]) ⟨F, M', N'⟩) :
    callv Try.prog (.func (.func 34) #[] #[]) #[.pointer (some ⟨g, 0, none⟩), .int .i64 i] K E ⟨F, M, N⟩ := by
  refine callv_of_text mixed Try.func34 (by kernel_rfl) (t34 _ E _ _) (fun hw => ?_)
  have hm := hw.m
  obtain ⟨hgN, hoN⟩ := h.lt hm
  refine nw_r (fun b1 h1 => ?_)
  have far1 : ∀ k, (k = g ∨ v.ownBlock = some k) → k ≠ b1 := fun k hk => by rcases hk with rfl | hk; omega; have := hoN k hk; omega
  refine has_c (h.keep (subF.refl _) (fun k hk => upd_ne _ _ (far1 k hk))) ?_
  by_cases hr : 0 ≤ i ∧ i < ms.length
  · rw [decide_eq_true hr]
    refine pv_r rfl (cnd_f ?_)
    obtain ⟨j, rfl⟩ : ∃ j : Nat, i = j := ⟨i.toNat, by omega⟩
    have hj : j < ms.length := by omega
    rcases h.oo with ⟨_, e2⟩ | ⟨b, c, rest, rfl, hc, hcm, hbg, hBb, hMb⟩
    · subst e2; simp at hj
    have hbN := hoN b rfl
    have hg := h.gg
    refine pv_r rfl (pv_r rfl ?_)
    refine ldM ?_
    refine iaN_r hj ?_
    obtain ⟨m, hmj⟩ : ∃ m, ms[j]? = some m := ⟨ms[j], by simp [hj]⟩
    obtain ⟨r, hrj, ⟨bv, rfl, hbv, hbl⟩, hcut, hcl, _⟩ := h.rr.get hmj
    refine ldMa (vs := [.int .i64 m.f, .int .i64 m.t, bv]) ?_ ((upd_ne _ _ (by omega)).trans hMb) ?_ ?_
    rotate_left
    · rw [Nat.zero_add, List.drop_append_of_le_length (by omega), List.take_append_of_le_length (by rw [List.length_drop]; omega)]; exact hcut
    · rw [List.length_append]; omega
    obtain ⟨a', c', rfl, hc'⟩ := hbv.form
    refine nw_r (fun b2 h2 => ?_)
    refine stM ?_
    refine pv_r rfl (pv_r rfl ?_)
    refine ldM ?_
    refine inc_r (by have := hc; simp only [maxLen] at hcm; omega) ?_
    refine delete_c ((upd_ne _ _ (by omega)).trans ((upd_ne _ _ (by omega)).trans ((upd_ne _ _ (by omega)).trans hMb))) h.rr.len h.rr.one h.rr.all.1 hc hj (fun rest' N' X hX hXb hN hw1 => ?_)
    refine pv_r rfl (pv_r rfl ?_)
    have hXg : X g = some (.cells 87 [.slice (some ⟨b, 0, none⟩) ms.length c] 1) := (hX g (fun e => hbg e.symm) (by omega)).trans ((upd_ne _ _ (by omega)).trans ((upd_ne _ _ (by omega)).trans ((upd_ne _ _ (by omega)).trans hg)))
    refine stM ?_
    have hX2 := (hX b2 (by omega) (by omega)).trans (upd_same _ _ _)
    have hX1 := (hX b1 (by omega) (by omega)).trans ((upd_ne _ _ (by omega)).trans ((upd_ne _ _ (by omega)).trans (upd_same _ _ _)))
    refine ldMa ?_
    refine stM ?_
    refine ldMa fun hc2 => ?_
    refine ⟨_, wk_refl hc2, fun hw' => k1 j m rfl hmj _ _ _ (.slice (some ⟨b, 0, none⟩) (ms.length - 1) c) (rows.eraseIdx j) hbv hbl (by omega) ?_ ?_ hw'⟩
    · have hel : (ms.eraseIdx j).length = ms.length - 1 := by rw [List.length_eraseIdx, if_pos hj]
      refine ⟨(upd_ne _ _ (by omega)).trans (upd_same _ _ _), h.gB, ⟨fun r hr => h.rr.len r (List.mem_of_mem_eraseIdx hr), fun r hr => h.rr.one r (List.mem_of_mem_eraseIdx hr), h.rr.all.eraseIdx j⟩, .inr ⟨b, c, rest', by rw [hel], by omega, hcm, hbg, hBb, ?_⟩⟩
      exact (upd_ne _ _ (by omega)).trans ((upd_ne _ _ hbg).trans hXb)
    · intro k hk hkN
      have hkb : k ≠ b := fun e => hk.2 (by rw [e]; rfl)
      refine ⟨?_, hk.1, fun he => hkb (by simpa [Value.ownBlock] using he.symm)⟩
      exact (upd_ne _ _ (by omega)).trans ((upd_ne _ _ hk.1).trans ((hX k hkb (by omega)).trans ((upd_ne _ _ (by omega)).trans ((upd_ne _ _ (by omega)).trans (upd_ne _ _ (by omega))))))
  · rw [decide_eq_false hr]
    refine pv_r rfl (cnd_t ?_)
    refine pv_r (v := .agg #[.int .i64 0, .int .i64 0, .slice none 0 0]) (by kernel_rfl) ?_
    refine stM ?_
    refine ldMa fun hc => ?_
    exact ⟨_, wk_end hc, fun hw' => k0 hr _ (by omega) hw'⟩
end Go.Proofs.Ytjeojnjkmhnepaa.N
