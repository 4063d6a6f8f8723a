import Derived.Test.YtjeojnjkmhnepaaN3
open Go Go.RowKit Go.Proofs.Ytjeojnjkmhnepaa.K Go.Proofs.Ytjeojnjkmhnepaa.T
set_option linter.unusedVariables false
set_option linter.unusedSimpArgs false
namespace Go.Proofs.Ytjeojnjkmhnepaa.N
variable {F F' : Nat → Option (List Value)} {M M' : Nat → Option Chunk} {N N' : Nat} {K : Kont} {E : PanK}
/-- A mail whose bytes are the call's own. -/
def mailO (M : Nat → Option Chunk) (B : Nat) (r : List Value) (m : ML) : Prop := ∃ v, r = [.int .i64 m.f, .int .i64 m.t, v] ∧ ownB M B v m.b ∧ m.b.length ≤ 140737488355328
theorem mailO.one {B : Nat} {r : List Value} {m : ML} (h : mailO M B r m) : r.length = 3 ∧ ∀ c ∈ r, c.oneCell' = true := by
  obtain ⟨v, rfl, hv, _⟩ := h
  obtain ⟨a, c, rfl, _⟩ := (hv.sR (F := fun _ => none)).form
  exact ⟨rfl, List.all_eq_true.1 rfl⟩
/-- Rows of mails, all the call's own. -/
structure ownMs (M : Nat → Option Chunk) (B : Nat) (v : Value) (rows : List (List Value)) (ms : List ML) : Prop where
  rr : rowsF (mailO M B) 3 rows ms
  oo : (v = .slice none 0 0 ∧ ms = []) ∨ ∃ b c, v = .slice (some ⟨b, 0, none⟩) ms.length c ∧ ms.length ≤ c ∧ c ≤ maxLen ∧ B ≤ b ∧ M b = some (.cells 61 rows.flatten (c * 3))
theorem ownMs.ownS {B : Nat} {v : Value} {rows : List (List Value)} {ms : List ML} (h : ownMs M B v rows ms) : ownS M 61 3 v ms.length rows.flatten := by
  refine ⟨h.rr.flen, ?_⟩
  rcases h.oo with ⟨h1, h2⟩ | ⟨b, c, h1, h2, h3, h5, h6⟩
  · exact .inl ⟨h1, by rw [h2]; rfl⟩
  · exact .inr ⟨b, c, h1, h2, h3, [], by rw [List.append_nil]; exact h6⟩
theorem ownB.keepO {M' : Nat → Option Chunk} {B : Nat} {v : Value} {l : List Int} (h : ownB M B v l) (hM : ∀ b cs tot, B ≤ b → M b = some (.cells 5 cs tot) → M' b = some (.cells 5 cs tot)) : ownB M' B v l :=
  h.imp id fun ⟨b, c, tot, h1, h2, h3, h4⟩ => ⟨b, c, tot, h1, h2, h3, hM b _ _ h3 h4⟩
theorem mailO.keep {M' : Nat → Option Chunk} {B : Nat} {r : List Value} {m : ML} (h : mailO M B r m) (hM : ∀ b cs tot, B ≤ b → M b = some (.cells 5 cs tot) → M' b = some (.cells 5 cs tot)) : mailO M' B r m :=
  let ⟨v, h1, h2, h3⟩ := h; ⟨v, h1, h2.keepO hM, h3⟩
theorem ownMs.keep {M' : Nat → Option Chunk} {B : Nat} {v : Value} {rows : List (List Value)} {ms : List ML} (h : ownMs M B v rows ms) (hM : ∀ b c, B ≤ b → M b = some c → M' b = some c) : ownMs M' B v rows ms :=
  ⟨h.rr.mono fun r x hr => hr.keep fun b cs tot hb hk => hM b _ hb hk, h.oo.imp id fun ⟨b, c, h1, h2, h3, h5, h6⟩ => ⟨b, c, h1, h2, h3, h5, hM b _ h5 h6⟩⟩
/-- One mail more. -/
theorem ownMs.app {B : Nat} {v x : Value} {rows : List (List Value)} {ms : List ML} {m : ML} {r : List Value} (h : ownMs M B v rows ms) (hm : ∀ k, N ≤ k → M k = none) (hB : B ≤ N) (hr : mailO M B r m) (hx : sRead ⟨F, M, N⟩ 3 x 1 r) (hlen : ms.length < 1000000)
    (k : ∀ v' M' N', N ≤ N' → (∀ q, q < B → M' q = M q) → ownMs M' B v' (rows ++ [r]) (ms ++ [m]) → K v' ⟨F, M', N'⟩) : appX 61 3 40 v x K ⟨F, M, N⟩ := by
  refine app_r (m := 1) (news := r) h.ownS hx hr.one.2 (by omega) (by simp [maxLen]; omega) (by omega) (fun b c hb hc hcm => ?_)
  have hbB : B ≤ b := by
    rcases hb with hb | hb
    · omega
    · rcases h.oo with ⟨e, _⟩ | ⟨b', c', e, _, _, h5, _⟩
      · rw [e] at hb; simp [Value.ownBlock] at hb
      · rw [e] at hb; simp [Value.ownBlock] at hb; omega
  have hob : ∀ q, v.ownBlock = some q → B ≤ q ∧ ∃ cs tot, M q = some (.cells 61 cs tot) := fun q hq => by
    rcases h.oo with ⟨e, _⟩ | ⟨b', c', e, _, _, h5, h6⟩
    · rw [e] at hq; simp [Value.ownBlock] at hq
    · rw [e] at hq; simp [Value.ownBlock] at hq; subst hq; exact ⟨h5, _, _, h6⟩
  refine k _ _ _ (by omega) (fun q hq => ?_) ⟨?_, .inr ⟨b, c, by simp, by simpa using hc, hcm, hbB, ?_⟩⟩
  · rw [upd_ne _ _ (by omega), forget_ne _ (fun he => by have := (hob q he).1; omega)]
  · have hk : ∀ b' cs tot, B ≤ b' → M b' = some (.cells 5 cs tot) → (upd (forget M v) b (some (.cells 61 (rows.flatten ++ r) (c * 3)))) b' = some (.cells 5 cs tot) := fun b' cs tot hb' hM => by
      have h1 : v.ownBlock ≠ some b' := fun he => by obtain ⟨_, cs', tot', h2⟩ := hob b' he; rw [hM] at h2; injection h2 with h2; injection h2 with h2; cases h2
      have h2 : b' ≠ b := fun he => by
        subst he
        rcases hb with hb | hb
        · rw [hm _ hb] at hM; cases hM
        · exact h1 hb
      rw [upd_ne _ _ h2, forget_ne _ h1]; exact hM
    exact (h.rr.mono fun r x hr => hr.keep hk).snoc hr.one.1 hr.one.2 (hr.keep hk)
  · rw [upd_same]; simp
/-- (*Net).All -/
theorem all_c {B g : Nat} {v : Value} {rows : List (List Value)} {ms : List ML} (h : isNet 87 F M B g v rows ms) (hlen : ms.length ≤ 2000)
    (k : ∀ v' M' N' rows', (Hp.mk F M' N').wf → N ≤ N' → (∀ q, q < N → M' q = M q) → ownMs M' N v' rows' ms → K v' ⟨F, M', N'⟩) :
    callv Try.prog (.func (.func 33) #[] #[]) #[.pointer (some ⟨g, 0, none⟩)] K E ⟨F, M, N⟩ := by
  refine callv_of_text mixed Try.func33 (by kernel_rfl) (t33 _ E _) (fun hw => ?_)
  have hm := hw.m
  obtain ⟨hgN, hoN⟩ := h.lt hm
  have hg := h.gg
  obtain ⟨a, c, hv, hac⟩ := h.form
  subst hv
  refine pv_r rfl (pv_r rfl ?_)
  refine ldM ?_
  refine pv_r rfl ?_
  refine l33_1_1_0_1_0_0 (σ := Nat × Value) (fun s => s.2) (fun s => .int .i64 (s.1 : Nat))
    (fun s h => s.1 ≤ ms.length ∧ ∃ M' N' rows', h = ⟨F, M', N'⟩ ∧ N ≤ N' ∧ (∀ q, q < N → M' q = M q) ∧ ownMs M' N s.2 rows' (ms.take s.1)) (fun s => ms.length - s.1) (0, .slice none 0 0) rfl rfl
    (fun hc => ⟨_, wk_refl hc, Nat.zero_le _, M, N, [], rfl, Nat.le_refl _, fun _ _ => rfl, by simpa using ⟨rowsF.nil _ _, .inl ⟨rfl, rfl⟩⟩⟩) ?_
  rintro k1 ⟨i, out⟩ j h1 ⟨hi, M1, N1, rows1, rfl, hN1, hM1, hout⟩ hw1 next
  have hm1 := hw1.m
  simp only at hi hout ⊢
  by_cases hlt : i < ms.length
  · refine lss_t (by omega) (cnd_t ?_)
    have hnet : isNet 87 F M1 B g (.slice a ms.length c) rows ms := h.keep (subF.refl _) fun k hk => hM1 k (by rcases hk with rfl | hk; exact hgN; exact hoN k hk)
    rcases hnet.oo with ⟨_, e2⟩ | ⟨b, c', rest, e, hc, hcm, hbg, hBb, hMb⟩
    · subst e2; simp at hlt
    injection e with e1 e2 e3
    subst e1; subst e3
    refine iaN_r hlt ?_
    obtain ⟨m, hmj⟩ : ∃ m, ms[i]? = some m := ⟨ms[i], by simp [hlt]⟩
    obtain ⟨r, hrj, ⟨bv, rfl, hbv, hbl⟩, hcut, hcl, _⟩ := h.rr.get hmj
    refine ldMa (vs := [.int .i64 m.f, .int .i64 m.t, bv]) ?_ hMb ?_ ?_
    rotate_left
    · rw [Nat.zero_add, List.drop_append_of_le_length (by omega), List.take_append_of_le_length (by rw [List.length_drop]; omega)]; exact hcut
    · rw [List.length_append]; omega
    obtain ⟨a', c', rfl, hc'⟩ := hbv.form
    refine nw_r (fun b1 hb1 => ?_)
    refine stM ?_
    refine ldMa ?_
    refine nclone_c hbv.sR hbl (fun v2 M2 N2 hw2 hN2 hM2 hv2 => ?_)
    obtain ⟨a2, c2, rfl, hc2⟩ := (hv2.sR (F := F)).form
    refine nws_r (cs := [.int .i64 m.f, .int .i64 m.t, .slice a2 m.b.length c2]) (by kernel_rfl) (fun b2 hb2 => ?_)
    have hM12 : ∀ q, q < N1 → M2 q = M1 q := fun q hq => (hM2 q (by omega)).trans ((upd_ne _ _ (by omega)).trans (upd_ne _ _ (by omega)))
    have hlt1 : ∀ q c, M1 q = some c → q < N1 := fun q c hq => by
      rcases Nat.lt_or_ge q N1 with h | h
      · exact h
      · rw [hm1 q h] at hq; cases hq
    have ho : ownMs (upd M2 b2 (some (.cells 61 [.int .i64 m.f, .int .i64 m.t, .slice a2 m.b.length c2] [Value.int .i64 m.f, .int .i64 m.t, .slice a2 m.b.length c2].length))) N out rows1 (ms.take i) :=
      hout.keep fun q c _ hq => (upd_ne _ _ (by have := hlt1 q c hq; omega)).trans ((hM12 q (hlt1 q c hq)).trans hq)
    refine ho.app (m := m) (r := [.int .i64 m.f, .int .i64 m.t, .slice a2 m.b.length c2]) (fun k hk => (upd_ne _ _ (by omega)).trans (hw2.m k (by omega))) (by omega) ⟨_, rfl, hv2.keep (by omega) fun q c hq hk => (upd_ne _ _ (by
        have : q < N2 := by
          rcases Nat.lt_or_ge q N2 with h | h
          · exact h
          · rw [hw2.m q h] at hk; cases hk
        omega)).trans hk, hbl⟩ ⟨rfl, .inr ⟨b2, 0, 1, _, rfl, .inr ⟨.inr ⟨_, _, upd_same _ _ _⟩, rfl⟩⟩⟩ (by simp; omega) (fun v3 M3 N3 hN3 hM3 ho3 => ?_)
    refine inc_r (by omega) ?_
    have htk : ms.take (i + 1) = ms.take i ++ [m] := by rw [List.take_add_one, hmj]; rfl
    exact next (i + 1, v3) _ _ (by simp only; omega) (fun hc => ⟨_, wk_refl hc, by simp only; omega, M3, N3, rows1 ++ [[.int .i64 m.f, .int .i64 m.t, .slice a2 m.b.length c2]], rfl, by omega, fun q hq => (hM3 q hq).trans ((upd_ne _ _ (by omega)).trans ((hM12 q (by omega)).trans (hM1 q hq))), by simp only [htk]; exact ho3⟩)
  · refine lss_f (by omega) (cnd_f ?_)
    rw [t33_1_1_1]
    intro hc
    refine ⟨_, wk_refl hc, fun hw' => k out M1 N1 rows1 hw' hN1 hM1 ?_⟩
    rwa [List.take_of_length_le (by omega)] at hout
end Go.Proofs.Ytjeojnjkmhnepaa.N
