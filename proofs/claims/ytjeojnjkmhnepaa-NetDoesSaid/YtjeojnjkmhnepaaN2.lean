import Derived.Test.YtjeojnjkmhnepaaN1
open Go Go.RowKit Go.Proofs.Ytjeojnjkmhnepaa.K Go.Proofs.Ytjeojnjkmhnepaa.T
set_option linter.unusedVariables false
set_option linter.unusedSimpArgs false
namespace Go.Proofs.Ytjeojnjkmhnepaa.N
variable {F F' : Nat → Option (List Value)} {M M' : Nat → Option Chunk} {N N' : Nat} {K : Kont} {E : PanK}
/-- A mail. -/
structure ML where
  f : Int
  t : Int
  b : List Int
def mailR (F : Nat → Option (List Value)) (r : List Value) (m : ML) : Prop := ∃ v, r = [.int .i64 m.f, .int .i64 m.t, v] ∧ sF F 1 v m.b.length (bc m.b) ∧ m.b.length ≤ 140737488355328
theorem mailR.mono {r : List Value} {m : ML} (h : mailR F r m) (hs : subF F F') : mailR F' r m := let ⟨v, h1, h2, h3⟩ := h; ⟨v, h1, h2.mono hs, h3⟩
theorem mailR.one {r : List Value} {m : ML} (h : mailR F r m) : r.length = 3 ∧ ∀ c ∈ r, c.oneCell' = true := by
  obtain ⟨v, rfl, hv, _⟩ := h
  obtain ⟨a, c, rfl, _⟩ := hv.form
  exact ⟨rfl, List.all_eq_true.1 rfl⟩

/-- A net at block g (of type ty), whose row is v. -/
structure isNet (ty : TypeId) (F : Nat → Option (List Value)) (M : Nat → Option Chunk) (B g : Nat) (v : Value) (rows : List (List Value)) (ms : List ML) : Prop where
  gg : M g = some (.cells ty [v] 1)
  gB : B ≤ g
  rr : rowsF (mailR F) 3 rows ms
  oo : (v = .slice none 0 0 ∧ ms = []) ∨ ∃ b c rest, v = .slice (some ⟨b, 0, none⟩) ms.length c ∧ ms.length ≤ c ∧ c ≤ maxLen ∧ b ≠ g ∧ B ≤ b ∧ M b = some (.cells 61 (rows.flatten ++ rest) (c * 3))
/-- A block that is none of the net's. -/
def farN (g : Nat) (v : Value) (k : Nat) : Prop := k ≠ g ∧ v.ownBlock ≠ some k
theorem isNet.keep {ty : TypeId} {B g : Nat} {v : Value} {rows : List (List Value)} {ms : List ML} (h : isNet ty F M B g v rows ms) (hF : subF F F') (hM : ∀ k, (k = g ∨ v.ownBlock = some k) → M' k = M k) : isNet ty F' M' B g v rows ms :=
  ⟨(hM g (.inl rfl)).trans h.gg, h.gB, h.rr.mono fun r x hr => hr.mono hF, by
    rcases h.oo with h' | ⟨b, c, rest, h1, h2, h3, h4, h5, h6⟩
    · exact .inl h'
    · exact .inr ⟨b, c, rest, h1, h2, h3, h4, h5, (hM b (.inr (by rw [h1]; rfl))).trans h6⟩⟩
theorem isNet.lt {ty : TypeId} {B g : Nat} {v : Value} {rows : List (List Value)} {ms : List ML} (h : isNet ty F M B g v rows ms) (hm : ∀ k, N ≤ k → M k = none) : g < N ∧ ∀ k, v.ownBlock = some k → k < N := by
  have key : ∀ k, M k ≠ none → k < N := fun k hk => by
    rcases Nat.lt_or_ge k N with h | h
    · exact h
    · exact absurd (hm k h) hk
  refine ⟨key g (by rw [h.gg]; simp), fun k hk => ?_⟩
  rcases h.oo with ⟨rfl, _⟩ | ⟨b, c, rest, rfl, _, _, _, _, h6⟩
  · simp [Value.ownBlock] at hk
  · simp [Value.ownBlock] at hk
    subst hk
    exact key b (by rw [h6]; simp)
theorem isNet.form {ty : TypeId} {B g : Nat} {v : Value} {rows : List (List Value)} {ms : List ML} (h : isNet ty F M B g v rows ms) : ∃ a c, v = .slice a ms.length c ∧ ms.length ≤ c := by
  rcases h.oo with ⟨h1, h2⟩ | ⟨b, c, rest, h1, h2, h3, h4, h5, h6⟩
  · subst h2; exact ⟨_, _, h1, Nat.le_refl _⟩
  · exact ⟨_, _, h1, h2⟩
theorem isNet.flen {ty : TypeId} {B g : Nat} {v : Value} {rows : List (List Value)} {ms : List ML} (h : isNet ty F M B g v rows ms) : rows.flatten.length = ms.length * 3 := h.rr.flen
theorem isNet.ownS {ty : TypeId} {B g : Nat} {v : Value} {rows : List (List Value)} {ms : List ML} (h : isNet ty F M B g v rows ms) : ownS M 61 3 v ms.length rows.flatten := by
  refine ⟨h.flen, ?_⟩
  rcases h.oo with ⟨h1, h2⟩ | ⟨b, c, rest, h1, h2, h3, h4, h5, h6⟩
  · exact .inl ⟨h1, by rw [h2]; rfl⟩
  · exact .inr ⟨b, c, h1, h2, h3, rest, h6⟩

/-- net.New -/
theorem new_c (hm : ∀ k, N ≤ k → M k = none) (k : ∀ g N', isNet 87 F (upd M g (some (.cells 87 [.slice none 0 0] 1))) N g (.slice none 0 0) [] [] → N ≤ N' → (Hp.mk F (upd M g (some (.cells 87 [.slice none 0 0] 1))) N').wf → N ≤ g → K (.pointer (some ⟨g, 0, none⟩)) ⟨F, upd M g (some (.cells 87 [.slice none 0 0] 1)), N'⟩) :
    callv Try.prog (.func (.func 30) #[] #[]) #[] K E ⟨F, M, N⟩ := by
  refine callv_of_text mixed Try.func30 (by kernel_rfl) (t30 _ E) (fun hw => ?_)
  refine pv_r (v := .agg #[.slice none 0 0]) (by kernel_rfl) ?_
  refine nw_r (fun b hb hc => ?_)
  exact ⟨_, wk_refl hc, fun hw' => k b _ ⟨upd_same _ _ _, hb, rowsF.nil _ _, .inl ⟨rfl, rfl⟩⟩ (by omega) hw' hb⟩

/-- (*Net).room -/
theorem room_c {ty : TypeId} {B g : Nat} {v : Value} {rows : List (List Value)} {ms : List ML} (h : isNet ty F M B g v rows ms) (k : K (.bool (decide ((ms.length : Int) < 2000))) ⟨F, M, N⟩) :
    callv Try.prog (.func (.func 47) #[] #[]) #[.pointer (some ⟨g, 0, none⟩)] K E ⟨F, M, N⟩ := by
  refine callv_of_text mixed Try.func47 (by kernel_rfl) (t47 _ E _) (fun hw => ?_)
  obtain ⟨a, c, rfl, _⟩ := h.form
  have hg := h.gg
  refine pv_r rfl (pv_r rfl ?_)
  refine ldM ?_
  refine pv_r rfl (pv_r rfl fun hc => ?_)
  exact ⟨_, wk_refl hc, fun _ => k⟩
/-- (*Net).has -/
theorem has_c {ty : TypeId} {B g : Nat} {v : Value} {rows : List (List Value)} {ms : List ML} {i : Int} (h : isNet ty F M B g v rows ms) (k : K (.bool (decide (0 ≤ i ∧ i < ms.length))) ⟨F, M, N⟩) :
    callv Try.prog (.func (.func 49) #[] #[]) #[.pointer (some ⟨g, 0, none⟩), .int .i64 i] K E ⟨F, M, N⟩ := by
  refine callv_of_text mixed Try.func49 (by kernel_rfl) (t49 _ E _ _) (fun hw => ?_)
  obtain ⟨a, c, rfl, _⟩ := h.form
  have hg := h.gg
  refine geq_r (fun h0 => ?_) (fun h0 => ?_)
  · refine gd_tt (gd_tt (gd_tt (pv_r rfl (gd_tt (pv_r rfl (gd_tt ?_))))))
    refine ldM ?_
    refine gd_tt (pv_r rfl (gd_tt ?_))
    refine lss_r (fun h1 => ?_) (fun h1 => ?_)
    · refine pv_r rfl (fun hc => ⟨_, wk_refl hc, fun _ => ?_⟩)
      rw [decide_eq_true ⟨h0, h1⟩] at k; exact k
    · refine pv_r rfl (fun hc => ⟨_, wk_refl hc, fun _ => ?_⟩)
      rw [decide_eq_false (fun q => h1 q.2)] at k; exact k
  · refine gd_ft (gd_ft (gd_ft (gd_ft (gd_ft (gd_ft (gd_ft ?_))))))
    refine pv_r rfl (fun hc => ⟨_, wk_refl hc, fun _ => ?_⟩)
    rw [decide_eq_false (fun q => h0 q.1)] at k; exact k
/-- (*Net).Send -/
theorem send_c {B g : Nat} {v : Value} {rows : List (List Value)} {ms : List ML} {f t : Int} {bv : Value} {l : List Int} (h : isNet 87 F M B g v rows ms) (hB : B ≤ N) (hv : sR F M 1 bv l.length (bc l)) (hl : l.length ≤ 140737488355328)
    (k0 : ¬ ms.length < 2000 → ∀ N', N ≤ N' → (Hp.mk F M N').wf → K (.bool false) ⟨F, M, N'⟩)
    (k1 : ms.length < 2000 → ∀ F' M' N' v' rows', subF F F' → N ≤ N' → isNet 87 F' M' B g v' rows' (ms ++ [⟨f, t, l⟩]) → (∀ k, farN g v k → k < N → M' k = M k ∧ farN g v' k) → (Hp.mk F' M' N').wf → K (.bool true) ⟨F', M', N'⟩) :
    callv Try.prog (.func (.func 32) #[] #[]) #[.pointer (some ⟨g, 0, none⟩), .agg #[.int .i64 f, .int .i64 t, bv]] K E ⟨F, M, N⟩ := by
  refine callv_of_text mixed Try.func32 (by kernel_rfl) (t32 _ E _ _) (fun hw => ?_)
  have hm := hw.m
  obtain ⟨hgN, hoN⟩ := h.lt hm
  refine nw_r (fun b1 h1 => ?_)
  have hk1 : isNet 87 F (upd M b1 (some (.cells 61 (Value.agg #[.int .i64 f, .int .i64 t, bv]).cells.toList (Value.agg #[.int .i64 f, .int .i64 t, bv]).cells.toList.length))) B g v rows ms :=
    h.keep (subF.refl _) (fun k hk => upd_ne _ _ (by rcases hk with rfl | hk; omega; have := hoN k hk; omega))
  refine room_c hk1 ?_
  by_cases hr : ms.length < 2000
  · rw [decide_eq_true (by omega : ((ms.length : Int) < 2000))]
    refine pv_r rfl (cnd_f ?_)
    have hg := h.gg
    obtain ⟨a, c, rfl, hac⟩ := h.form
    refine pv_r rfl (pv_r rfl ?_)
    refine ldM ?_
    refine ldMa ?_
    refine nclone_f (fun k hk => (upd_ne _ _ (by omega)).trans (hm k (by omega))) (hv.new hm h1) hl (fun v' F' N' hw1 hF hN hv' => ?_)
    obtain ⟨a', c', rfl, hc'⟩ := hv'.form
    have hread : ∀ (X : Nat → Option Chunk) (n : Nat), X g = some (.cells 87 [.slice a ms.length c] 1) → ldV ⟨F', X, n⟩ false 1 (.pointer (some ⟨g, 0 + 0, none⟩)) (.slice a ms.length c) := fun X n hX => ldV_c (row_M hX) rfl
    refine ⟨hread _ _ ((upd_ne _ _ (by omega)).trans hg), ?_⟩
    refine nws_r (cs := [.int .i64 f, .int .i64 t, .slice a' l.length c']) (by kernel_rfl) (fun b2 h2 => ?_)
    refine ⟨hread _ _ ((upd_ne _ _ (by omega)).trans ((upd_ne _ _ (by omega)).trans hg)), ?_⟩
    have hown : Go.Proofs.Ytjeojnjkmhnepaa.K.ownS (upd (upd M b1 (some (.cells 61 (Value.agg #[.int .i64 f, .int .i64 t, bv]).cells.toList (Value.agg #[.int .i64 f, .int .i64 t, bv]).cells.toList.length))) b2 (some (.cells 61 [.int .i64 f, .int .i64 t, .slice a' l.length c'] [Value.int .i64 f, .int .i64 t, .slice a' l.length c'].length))) 61 3 (.slice a ms.length c) ms.length rows.flatten :=
      (h.keep (subF.refl _) (fun k hk => (upd_ne _ _ (by rcases hk with rfl | hk; omega; have := hoN k hk; omega)).trans (upd_ne _ _ (by rcases hk with rfl | hk; omega; have := hoN k hk; omega)))).ownS
    refine app_r (m := 1) (news := [.int .i64 f, .int .i64 t, .slice a' l.length c']) hown ⟨rfl, .inr ⟨b2, 0, 1, _, rfl, .inr ⟨.inr ⟨_, _, upd_same _ _ _⟩, rfl⟩⟩⟩ (List.all_eq_true.1 rfl) (by omega) (by simp [maxLen]; omega) (by omega) (fun b c2 hb hc2 hc2m => ?_)
    have hbg : b ≠ g := by
      rcases hb with hb | hb
      · omega
      · rintro rfl
        rcases h.oo with ⟨e, _⟩ | ⟨b', c'', rest, e, _, _, h4, _, _⟩
        · rw [e] at hb; simp [Value.ownBlock] at hb
        · rw [e] at hb; simp [Value.ownBlock] at hb; exact h4 hb
    have hgo : (Value.slice a ms.length c).ownBlock ≠ some g := fun he => by
      rcases h.oo with ⟨e, _⟩ | ⟨b', c'', rest, e, _, _, h4, _, _⟩
      · rw [e] at he; simp [Value.ownBlock] at he
      · rw [e] at he; simp [Value.ownBlock] at he; exact h4 he
    have hfor : ∀ X : Nat → Option Chunk, ∀ k, (Value.slice a ms.length c).ownBlock ≠ some k → forget X (.slice a ms.length c) k = X k := fun X k hk => by
      unfold forget
      cases ho : (Value.slice a ms.length c).ownBlock with
      | none => rfl
      | some q => exact upd_ne _ _ (fun e => hk (by rw [ho, e]))
    refine pv_r rfl (pv_r rfl ?_)
    refine stM (b := g) ?_ ((upd_ne _ _ (fun e => hbg e.symm)).trans ((hfor _ g hgo).trans ((upd_ne _ _ (by omega)).trans ((upd_ne _ _ (by omega)).trans hg))))
    intro hc
    refine ⟨_, wk_refl hc, fun hw' => ?_⟩
    refine k1 hr _ _ _ (.slice (some ⟨b, 0, none⟩) (ms.length + 1) c2) (rows ++ [[.int .i64 f, .int .i64 t, .slice a' l.length c']]) hF (by omega) ⟨upd_same _ _ _, h.gB, ?_, .inr ⟨b, c2, [], by simp, by simpa using hc2, hc2m, hbg, ?_, ?_⟩⟩ ?_ hw'
    · have hr1 : mailR F' [.int .i64 f, .int .i64 t, .slice a' l.length c'] ⟨f, t, l⟩ := ⟨_, rfl, hv', hl⟩
      exact (h.rr.mono fun r x hr => hr.mono hF).snoc hr1.one.1 hr1.one.2 hr1
    · rcases hb with hb | hb
      · omega
      · rcases h.oo with ⟨e, _⟩ | ⟨b', c'', rest, e, _, _, h4, h5, _⟩
        · rw [e] at hb; simp [Value.ownBlock] at hb
        · rw [e] at hb; simp [Value.ownBlock] at hb; omega
    · rw [upd_ne _ _ hbg, upd_same]; simp
    · intro k hk hkN
      have hkb : k ≠ b := by
        rcases hb with hb | hb
        · omega
        · intro e; subst e; exact hk.2 hb
      refine ⟨?_, hk.1, fun he => hkb (by simpa [Value.ownBlock] using he.symm)⟩
      rw [upd_ne _ _ hk.1, upd_ne _ _ hkb, hfor _ k hk.2, upd_ne _ _ (by omega), upd_ne _ _ (by omega)]
  · rw [decide_eq_false (by omega : ¬ ((ms.length : Int) < 2000))]
    refine pv_r rfl (cnd_t fun hc => ?_)
    exact ⟨_, wk_drop hc (subM_drop (subM_refl _) (hm _ h1)), fun hw' => k0 hr _ (by omega) hw'⟩
end Go.Proofs.Ytjeojnjkmhnepaa.N
