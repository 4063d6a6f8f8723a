import Derived.Test.YtjeojnjkmhnepaaN10
open Go Go.RowKit Go.Proofs.Ytjeojnjkmhnepaa.K Go.Proofs.Ytjeojnjkmhnepaa.T
set_option linter.unusedVariables false
set_option linter.unusedSimpArgs false
namespace Go.Proofs.Ytjeojnjkmhnepaa.N
variable {F F' : Nat → Option (List Value)} {M M' : Nat → Option Chunk} {N N' : Nat} {K : Kont} {E : PanK}
theorem at_mid {α : Type} (C D : List α) (m : α) : (C ++ m :: D)[C.length]? = some m := by simp
/-- An element's place, and what it reads, in rows of either kind. -/
theorem sR_at {sz m : Nat} {v : Value} {cells : List Value} (h : sR F M sz v m cells) (hz : 0 < sz) {i : Nat} (hi : i < m) :
    ∃ b o c, v = .slice (some ⟨b, o, none⟩) m c ∧ ∃ cs, (∀ N, (Hp.mk F M N).row b cs) ∧ o + m * sz ≤ cs.length ∧ ∀ k, k < m * sz → cs[o + k]? = cells[k]? := by
  rcases h.2 with ⟨a, c, h1, h2⟩ | ⟨b, o, c, cs, h1, h2, h3, h4⟩
  · omega
  · refine ⟨b, o, c, h1, cs, fun _ => h3, ?_, fun k hk => ?_⟩
    · have := congrArg List.length h4
      rw [h.1] at this
      simp at this
      have hp : 0 < m * sz := Nat.mul_pos (by omega) hz
      omega
    · rw [← h4, List.getElem?_take, if_pos hk, List.getElem?_drop]
/-- A mail, whoever has it. -/
def mailS (F : Nat → Option (List Value)) (M : Nat → Option Chunk) (r : List Value) (m : ML) : Prop := ∃ v, r = [.int .i64 m.f, .int .i64 m.t, v] ∧ sR F M 1 v m.b.length (bc m.b)
/-- Mails, whoever has them. -/
def msR (F : Nat → Option (List Value)) (M : Nat → Option Chunk) (v : Value) (ms : List ML) : Prop := ∃ rows, sR F M 3 v ms.length rows.flatten ∧ rowsF (mailS F M) 3 rows ms
theorem mailR.S {r : List Value} {m : ML} (h : mailR F r m) : mailS F M r m := let ⟨v, h1, h2, _⟩ := h; ⟨v, h1, h2.sR⟩
theorem mailO.S {B : Nat} {r : List Value} {m : ML} (h : mailO M B r m) : mailS F M r m := let ⟨v, h1, h2, _⟩ := h; ⟨v, h1, h2.sR⟩
theorem ownMs.S {B : Nat} {v : Value} {rows : List (List Value)} {ms : List ML} (h : ownMs M B v rows ms) : msR F M v ms := by
  refine ⟨rows, ⟨h.rr.flen, ?_⟩, h.rr.mono fun r x hr => hr.S⟩
  rcases h.oo with ⟨h1, h2⟩ | ⟨b, c, h1, h2, h3, h5, h6⟩
  · exact .inl ⟨none, 0, h1, by rw [h2]; rfl⟩
  · exact .inr ⟨b, 0, c, _, h1, h2, .inr ⟨_, _, h6⟩, by rw [List.drop_zero, List.take_of_length_le (by rw [h.rr.flen]; exact Nat.le_refl _)]⟩
theorem isNet.S {ty : TypeId} {B g : Nat} {v : Value} {rows : List (List Value)} {ms : List ML} (h : isNet ty F M B g v rows ms) : msR F M v ms := by
  refine ⟨rows, ⟨h.rr.flen, ?_⟩, h.rr.mono fun r x hr => hr.S⟩
  rcases h.oo with ⟨h1, h2⟩ | ⟨b, c, rest, h1, h2, h3, h4, h5, h6⟩
  · exact .inl ⟨none, 0, h1, by rw [h2]; rfl⟩
  · exact .inr ⟨b, 0, c, _, h1, h2, .inr ⟨_, _, h6⟩, by rw [List.drop_zero, List.take_append_of_le_length (by rw [h.rr.flen]; exact Nat.le_refl _), List.take_of_length_le (by rw [h.rr.flen]; exact Nat.le_refl _)]⟩
theorem msR.form {v : Value} {ms : List ML} (h : msR F M v ms) : ∃ a c, v = .slice a ms.length c ∧ ms.length ≤ c := let ⟨_, h1, _⟩ := h; h1.form
theorem msR.at {v : Value} {ms : List ML} (h : msR F M v ms) {i : Nat} {m : ML} (hi : ms[i]? = some m) :
    ∃ b o c cs vb, v = .slice (some ⟨b, o, none⟩) ms.length c ∧ (∀ N, (Hp.mk F M N).row b cs) ∧ cs[o + i * 3 + 0]? = some (.int .i64 m.f) ∧ cs[o + i * 3 + 1]? = some (.int .i64 m.t) ∧ cs[o + i * 3 + 2]? = some vb ∧ sR F M 1 vb m.b.length (bc m.b) ∧
      o + i * 3 + 3 ≤ cs.length ∧ (cs.drop (o + i * 3)).take 3 = [.int .i64 m.f, .int .i64 m.t, vb] := by
  obtain ⟨rows, h1, h2⟩ := h
  have hlt : i < ms.length := (List.getElem?_eq_some_iff.1 hi).1
  obtain ⟨r, hr, ⟨vb, rfl, hvb⟩, hcut, hcl, _⟩ := h2.get hi
  obtain ⟨b, o, c, e, cs, hF, hl, hrd⟩ := sR_at h1 (by omega) hlt
  have hfl := h2.flen
  have key : ∀ j, j < 3 → cs[o + i * 3 + j]? = ([.int .i64 m.f, .int .i64 m.t, vb] : List Value)[j]? := fun j hj => by
    rw [← hcut, List.getElem?_take, if_pos hj, List.getElem?_drop, Nat.add_assoc, hrd _ (by omega)]
  refine ⟨b, o, c, cs, vb, e, hF, key 0 (by omega), key 1 (by omega), key 2 (by omega), hvb, by omega, ?_⟩
  apply List.ext_getElem?
  intro j
  rw [List.getElem?_take]
  split
  · rename_i hj
    rw [List.getElem?_drop, key j hj]
  · rename_i hj
    exact (List.getElem?_eq_none (by simp; omega)).symm
/-- One mail in a row of its own. -/
theorem msR_one {b tot c : Nat} {e : TypeId} {m : ML} {v : Value} (hM : M b = some (.cells e [.int .i64 m.f, .int .i64 m.t, v] tot)) (hv : sR F M 1 v m.b.length (bc m.b)) (hc : 1 ≤ c) : msR F M (.slice (some ⟨b, 0, none⟩) 1 c) [m] := by
  obtain ⟨a, c', rfl, _⟩ := hv.form
  refine ⟨[[.int .i64 m.f, .int .i64 m.t, .slice a m.b.length c']], ⟨rfl, .inr ⟨b, 0, c, _, rfl, hc, .inr ⟨_, _, hM⟩, rfl⟩⟩, (rowsF.nil _ _).snoc rfl (List.all_eq_true.1 rfl) ⟨_, rfl, hv⟩⟩
/-- One mail of a row. -/
theorem msR.cut {b n c i : Nat} {ms : List ML} {m : ML} (h : msR F M (.slice (some ⟨b, 0, none⟩) n c) ms) (hi : ms[i]? = some m) (hc : i < c) : msR F M (.slice (some ⟨b, 0 + i * 3, none⟩) (i + 1 - i) (c - i)) [m] := by
  obtain ⟨b', o', c', cs, vb, e, hr, e0, e1, e2, hvb, hl, hcut⟩ := h.at hi
  injection e with e _ e'
  injection e with e
  injection e with ea eb
  subst ea; subst eb; subst e'
  obtain ⟨a, c', rfl, _⟩ := hvb.form
  refine ⟨[[.int .i64 m.f, .int .i64 m.t, .slice a m.b.length c']], ⟨rfl, .inr ⟨b, 0 + i * 3, c - i, cs, by rw [show i + 1 - i = 1 by omega]; rfl, by simp; omega, hr 0, hcut⟩⟩, (rowsF.nil _ _).snoc rfl (List.all_eq_true.1 rfl) ⟨_, rfl, hvb⟩⟩
theorem mailS.keep {r : List Value} {m : ML} (h : mailS F M r m) (hF : subF F F') (hM : ∀ b c, M b = some c → M' b = some c) : mailS F' M' r m := let ⟨v, h1, h2⟩ := h; ⟨v, h1, h2.keep hF fun b c _ h => hM b c h⟩
theorem msR.keep {v : Value} {ms : List ML} (h : msR F M v ms) (hF : subF F F') (hM : ∀ b c, M b = some c → M' b = some c) : msR F' M' v ms :=
  let ⟨rows, h1, h2⟩ := h; ⟨rows, h1.keep hF fun b c _ h => hM b c h, h2.mono fun r x hr => hr.keep hF hM⟩
/-- Same, where they are. -/
theorem same_c {v0 v1 : Value} {ms : List ML} (hv0 : msR F M v0 ms) (hv1 : msR F M v1 ms) (hlen : ms.length ≤ 2000) (k : (Hp.mk F M N).wf → K (.bool true) ⟨F, M, N⟩) : callv Try.prog (.func (.func 40) #[] #[]) #[v0, v1] K E ⟨F, M, N⟩ := by
  refine callv_of_text mixed Try.func40 (by kernel_rfl) (t40 _ E _ _) (fun hw => ?_)
  obtain ⟨a0, c0, f0, hc0⟩ := hv0.form
  obtain ⟨a1, c1, f1, hc1⟩ := hv1.form
  refine pv_r (v := .int .i64 ms.length) (by rw [f0]; rfl) (pv_r (v := .int .i64 ms.length) (by rw [f1]; rfl) (neq_f rfl (cnd_f ?_)))
  refine l40_1_1_0_1_0_0 (σ := Nat) (fun s => .int .i64 (s : Nat)) (fun s h => s ≤ ms.length ∧ h = ⟨F, M, N⟩) (fun s => ms.length - s) 0 rfl (fun hc => ⟨_, wk_refl hc, Nat.zero_le _, rfl⟩) ?_
  rintro k1 i j h ⟨hi, rfl⟩ hw1 next
  simp only at hi ⊢
  refine pv_r (v := .int .i64 ms.length) (by rw [f0]; rfl) ?_
  by_cases hlt : i < ms.length
  · obtain ⟨m, hm⟩ : ∃ m, ms[i]? = some m := ⟨ms[i], by simp [hlt]⟩
    obtain ⟨b, o, c, cs, vb, e, hr, e0, e1, e2, hvb, _⟩ := hv0.at hm
    obtain ⟨b', o', c', cs', vb', e', hr', e0', e1', e2', hvb', _⟩ := hv1.at hm
    subst e; subst e'
    refine lss_t (by omega) (cnd_t (iaN_r hlt (pv_r rfl ?_)))
    refine ld_r (ldV_c (hr _) e0) (iaN_r hlt (pv_r rfl ?_))
    refine ld_r (ldV_c (hr' _) e0') (neq_f rfl (gd_ff (gd_ff (gd_ff (iaN_r hlt (gd_ff (pv_r rfl (gd_ff ?_))))))))
    refine ld_r (ldV_c (hr _) e1) (gd_ff (gd_ff (gd_ff (iaN_r hlt (gd_ff (pv_r rfl (gd_ff ?_)))))))
    refine ld_r (ldV_c (hr' _) e1') (gd_ff (neq_f rfl (pv_r rfl (gd_ff (gd_ff (gd_ff (iaN_r hlt (gd_ff (pv_r rfl (gd_ff ?_))))))))))
    refine ld_r (ldV_c (hr _) e2) (gd_ff (bs_r hvb.read (gd_ff (gd_ff (gd_ff (iaN_r hlt (gd_ff (pv_r rfl (gd_ff ?_)))))))))
    refine ld_r (ldV_c (hr' _) e2') (gd_ff (bs_r hvb'.read (gd_ff (strne_r (pv_r rfl (cnd_f (inc_r (by omega) ?_)))))))
    exact next (i + 1) _ _ (by omega) (fun hc => ⟨_, wk_refl hc, by omega, rfl⟩)
  · refine lss_f (by omega) (cnd_f ?_)
    rw [t40_1_1_1]
    exact fun hc => ⟨_, wk_refl hc, fun hw' => k hw'⟩
/-- Mails that are sent, in a row of one's own. -/
structure sentQ (F : Nat → Option (List Value)) (M : Nat → Option Chunk) (B : Nat) (v : Value) (rows : List (List Value)) (ms : List ML) : Prop where
  rr : rowsF (mailR F) 3 rows ms
  oo : (v = .slice none 0 0 ∧ ms = []) ∨ ∃ b c, v = .slice (some ⟨b, 0, none⟩) ms.length c ∧ ms.length ≤ c ∧ c ≤ maxLen ∧ B ≤ b ∧ M b = some (.cells 61 rows.flatten (c * 3))
theorem sentQ.ownS {B : Nat} {v : Value} {rows : List (List Value)} {ms : List ML} (h : sentQ F M B v rows ms) : ownS M 61 3 v ms.length rows.flatten := by
  refine ⟨h.rr.flen, ?_⟩
  rcases h.oo with ⟨h1, h2⟩ | ⟨b, c, h1, h2, h3, h5, h6⟩
  · exact .inl ⟨h1, by rw [h2]; rfl⟩
  · exact .inr ⟨b, c, h1, h2, h3, [], by rw [List.append_nil]; exact h6⟩
theorem sentQ.keep {B : Nat} {v : Value} {rows : List (List Value)} {ms : List ML} (h : sentQ F M B v rows ms) (hF : subF F F') (hM : ∀ k, v.ownBlock = some k → M' k = M k) : sentQ F' M' B v rows ms :=
  ⟨h.rr.mono fun r x hr => hr.mono hF, h.oo.imp id fun ⟨b, c, h1, h2, h3, h5, h6⟩ => ⟨b, c, h1, h2, h3, h5, (hM b (by rw [h1]; rfl)).trans h6⟩⟩
theorem sentQ.S {B : Nat} {v : Value} {rows : List (List Value)} {ms : List ML} (h : sentQ F M B v rows ms) : msR F M v ms := by
  refine ⟨rows, ⟨h.rr.flen, ?_⟩, h.rr.mono fun r x hr => hr.S⟩
  rcases h.oo with ⟨h1, h2⟩ | ⟨b, c, h1, h2, h3, h5, h6⟩
  · exact .inl ⟨none, 0, h1, by rw [h2]; rfl⟩
  · exact .inr ⟨b, 0, c, _, h1, h2, .inr ⟨_, _, h6⟩, by rw [List.drop_zero, List.take_of_length_le (by rw [h.rr.flen]; exact Nat.le_refl _)]⟩
theorem sentQ.lt {B : Nat} {v : Value} {rows : List (List Value)} {ms : List ML} (h : sentQ F M B v rows ms) (hm : ∀ k, N ≤ k → M k = none) : ∀ k, v.ownBlock = some k → k < N ∧ B ≤ k := fun k hk => by
  rcases h.oo with ⟨rfl, _⟩ | ⟨b, c, rfl, _, _, h5, h6⟩
  · simp [Value.ownBlock] at hk
  · simp [Value.ownBlock] at hk
    subst hk
    refine ⟨?_, h5⟩
    rcases Nat.lt_or_ge b N with h | h
    · exact h
    · rw [hm b h] at h6; cases h6
/-- Some mails more. -/
theorem sentQ.app {B n : Nat} {v x : Value} {rows : List (List Value)} {ms news : List ML} {r : List (List Value)} (h : sentQ F M B v rows ms) (hm : ∀ k, N ≤ k → M k = none) (hB : B ≤ N) (hn : news.length = n) (hn0 : 0 < n) (hr : rowsF (mailR F) 3 r news) (hx : sRead ⟨F, M, N⟩ 3 x n r.flatten) (hlen : ms.length + n < 1000000)
    (k : ∀ v' M' N', N ≤ N' → (∀ q, v.ownBlock ≠ some q → q < N → M' q = M q) → (∀ q, v'.ownBlock = some q → (v.ownBlock = some q ∨ N ≤ q) ∧ q < N') → sentQ F M' B v' (rows ++ r) (ms ++ news) → (∀ k, N' ≤ k → M' k = none) → K v' ⟨F, M', N'⟩) : appX 61 3 40 v x K ⟨F, M, N⟩ := by
  refine app_r (m := n) (news := r.flatten) h.ownS hx hr.f1 (by omega) (by simp [maxLen]; omega) (by omega) (fun b c hb hc hcm => ?_)
  have hlt := h.lt hm
  have hbB : B ≤ b := by
    rcases hb with hb | hb
    · omega
    · exact (hlt b hb).2
  refine k _ _ _ (Nat.le_max_left _ _) (fun q hq hqN => ?_) (fun q hq => ?_) ⟨⟨?_, ?_, ?_⟩, .inr ⟨b, c, by simp [hn], by simp [hn]; exact hc, hcm, hbB, ?_⟩⟩ (fun q hq => ?_)
  · rw [upd_ne _ _ (fun e => by subst e; rcases hb with hb | hb; omega; exact hq hb), forget_ne _ hq]
  · simp [Value.ownBlock] at hq
    subst hq
    refine ⟨hb.symm.imp id id, by omega⟩
  · intro c hc
    rcases List.mem_append.1 hc with hc | hc
    · exact h.rr.len c hc
    · exact hr.len c hc
  · intro c hc
    rcases List.mem_append.1 hc with hc | hc
    · exact h.rr.one c hc
    · exact hr.one c hc
  · refine ⟨by simp [h.rr.all.1, hr.all.1], fun i x y hx hy => ?_⟩
    have he := h.rr.all.1
    rcases Nat.lt_or_ge i rows.length with hi | hi
    · rw [List.getElem?_append_left hi] at hx
      rw [List.getElem?_append_left (by omega)] at hy
      exact h.rr.all.2 i x y hx hy
    · rw [List.getElem?_append_right hi] at hx
      rw [List.getElem?_append_right (by omega)] at hy
      exact hr.all.2 (i - rows.length) x y hx (by rw [he]; exact hy)
  · rw [upd_same]; simp
  · rw [upd_ne _ _ (by omega), forget_ne _ (fun e => by have := (hlt q e).1; omega)]
    exact hm q (by omega)
end Go.Proofs.Ytjeojnjkmhnepaa.N
