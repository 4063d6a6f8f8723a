import Derived.Test.YtjeojnjkmhnepaaNR2
open Go Go.RowKit Go.Proofs.Ytjeojnjkmhnepaa.K Go.Proofs.Ytjeojnjkmhnepaa.T
set_option linter.unusedVariables false
set_option linter.unusedSimpArgs false
namespace Go.Proofs.Ytjeojnjkmhnepaa.N
variable {F F' : Nat → Option (List Value)} {M M' : Nat → Option Chunk} {N N' : Nat} {K : Kont} {E : PanK}
theorem all2_ex {α β γ : Type} {R : α → β → Prop} {R' : α → γ → Prop} (hr : ∀ x y, R x y → ∃ z, R' x z) : ∀ (xs : List α) (ys : List β), all2 R xs ys → ∃ zs, all2 R' xs zs
  | [], ys, h => ⟨[], all2.nil R'⟩
  | x :: xs, [], h => by have := h.1; simp at this
  | x :: xs, y :: ys, h => by
    obtain ⟨z, hz⟩ := hr x y (h.2 0 x y rfl rfl)
    obtain ⟨zs, hzs⟩ := all2_ex hr xs ys ⟨by have := h.1; simpa using this, fun i a b ha hb => h.2 (i + 1) a b (by simpa using ha) (by simpa using hb)⟩
    refine ⟨z :: zs, by simp [hzs.1], fun i a b ha hb => ?_⟩
    cases i with
    | zero => simp at ha hb; subst ha; subst hb; exact hz
    | succ i => exact hzs.2 i a b (by simpa using ha) (by simpa using hb)
theorem bc_inj : ∀ {l l' : List Int}, bc l = bc l' → l = l'
  | [], [], _ => rfl
  | [], _ :: _, h => by simp [bc] at h
  | _ :: _, [], h => by simp [bc] at h
  | a :: l, b :: l', h => by
    simp only [bc, List.map_cons, List.cons.injEq, Value.int.injEq, true_and] at h
    rw [h.1, bc_inj (l := l) (l' := l') h.2]
theorem mem_dup {C D : List ML} {m q : ML} (h : q ∈ C ++ m :: m :: D) : q ∈ C ++ m :: D := by
  simp only [List.mem_append, List.mem_cons] at h ⊢
  rcases h with h | h | h | h <;> simp only [h, true_or, or_true]
theorem mem_late {C D : List ML} {m q : ML} (h : q ∈ C ++ D ++ [m]) : q ∈ C ++ m :: D := by
  simp only [List.mem_append, List.mem_cons, List.not_mem_nil, or_false] at h ⊢
  rcases h with (h | h) | h <;> simp only [h, true_or, or_true]
theorem in_split {ms C D : List ML} {m : ML} {i : Int} (h : ms = C ++ m :: D) (hi : i = C.length) : 0 ≤ i ∧ i < ms.length := by
  have : ms.length = C.length + (D.length + 1) := by rw [h]; simp
  omega
theorem splice_bc {l : List Int} {o : Nat} {x : Int} (ho : o < l.length) : splice (bc l) o [.int .u8 x] = bc (l.set o x) := by
  unfold bc
  rw [List.map_set, List.set_eq_take_append_cons_drop, if_pos (by simpa using ho)]
  simp [splice]
/-- A byte of one's own is turned: others' are bytes still. -/
theorem ownB.turn {B b tot i : Nat} {x : Int} {v : Value} {l l0 : List Int} (h : ownB M B v l) (hb : M b = some (.cells 5 (bc l0) tot)) : ∃ l', l'.length = l.length ∧ ownB (upd M b (some (.cells 5 (bc (l0.set i x)) tot))) B v l' := by
  rcases h with ⟨c, h1, h2⟩ | ⟨b', c, tot', h1, h2, h3, h4⟩
  · exact ⟨l, rfl, .inl ⟨c, h1, h2⟩⟩
  · by_cases he : b' = b
    · subst he
      rw [hb] at h4
      injection h4 with h4
      injection h4 with _ h5 h6
      have := bc_inj h5
      subst this
      exact ⟨l0.set i x, by simp, .inr ⟨b', c, tot, by rw [h1]; simp, by simpa using h2, h3, upd_same _ _ _⟩⟩
    · exact ⟨l, rfl, .inr ⟨b', c, tot', h1, h2, h3, (upd_ne _ _ he).trans h4⟩⟩
theorem ownMs.turn {B b tot i : Nat} {x : Int} {v : Value} {rows : List (List Value)} {ms : List ML} {l0 : List Int} (h : ownMs M B v rows ms) (hb : M b = some (.cells 5 (bc l0) tot)) : ∃ ms', ms'.length = ms.length ∧ ownMs (upd M b (some (.cells 5 (bc (l0.set i x)) tot))) B v rows ms' := by
  obtain ⟨ms', h2⟩ := all2_ex (R' := mailO (upd M b (some (.cells 5 (bc (l0.set i x)) tot))) B) (fun r m hr => by
    obtain ⟨bv, rfl, hbv, hbl⟩ := hr
    obtain ⟨l', hl', ho⟩ := hbv.turn (i := i) (x := x) hb
    exact ⟨⟨m.f, m.t, l'⟩, bv, rfl, ho, by simp only; omega⟩) rows ms h.rr.all
  have hlen : ms'.length = ms.length := by rw [← h2.1, h.rr.all.1]
  refine ⟨ms', hlen, ⟨⟨h.rr.len, h.rr.one, h2⟩, ?_⟩⟩
  rcases h.oo with ⟨h1, h3⟩ | ⟨b', c, h1, h3, h4, h5, h6⟩
  · subst h3; exact .inl ⟨h1, List.eq_nil_of_length_eq_zero hlen⟩
  · refine .inr ⟨b', c, by rw [hlen]; exact h1, by omega, h4, h5, ?_⟩
    rw [upd_ne _ _ (fun e => by subst e; rw [hb] at h6; injection h6 with h6; injection h6 with h6; cases h6)]
    exact h6
theorem ownB.keepB {B : Nat} {v : Value} {l : List Int} (h : ownB M B v l) (hM : ∀ q, v.ownBlock = some q → M' q = M q) : ownB M' B v l :=
  h.imp id fun ⟨b, c, tot, h1, h2, h3, h4⟩ => ⟨b, c, tot, h1, h2, h3, (hM b (by rw [h1]; rfl)).trans h4⟩
/-- Bytes in a row of one's own. -/
theorem appB_r {x : Value} {l : List Int} (hm : ∀ q, N ≤ q → M q = none) (hx : sRead ⟨F, M, N⟩ 1 x l.length (bc l)) (hl : l.length ≤ 140737488351232)
    (k : ∀ v3 M3 N3, N ≤ N3 → (∀ q, q < N → M3 q = M q) → (∀ q, N3 ≤ q → M3 q = none) → ownB M3 N v3 l → K v3 ⟨F, M3, N3⟩) : appX 5 1 1 (.slice none 0 0) x K ⟨F, M, N⟩ := by
  refine app_r0 (n := 0) (cs := []) (m := l.length) (news := bc l) ownS_nil hx (ints_one _) (by omega) (by simp [maxLen]; omega) (fun _ h0 => ?_) (fun _ b c hb hmc hcm => ?_)
  · exact k _ _ _ (Nat.le_refl _) (fun _ _ => rfl) hm (.inl ⟨0, rfl, List.eq_nil_of_length_eq_zero h0⟩)
  · have hb' : N ≤ b := by rcases hb with h | h; exact h; simp [Value.ownBlock] at h
    rw [Nat.zero_add] at hmc ⊢
    exact k _ _ _ (Nat.le_max_left _ _) (fun q hq => (upd_ne _ _ (by omega)).trans (forget_ne _ (by simp [Value.ownBlock]))) (fun q hq => (upd_ne _ _ (by omega)).trans ((forget_ne _ (by simp [Value.ownBlock])).trans (hm q (by omega)))) (.inr ⟨b, c, _, rfl, hmc, hb', upd_same _ _ _⟩)
/-- Two networks that have nothing in common. -/
def sep (g : Nat) (v : Value) (gr : Nat) (vr : Value) : Prop := farN g v gr ∧ ∀ q, vr.ownBlock = some q → farN g v q
theorem sep.sw {g gr : Nat} {v vr : Value} (h : sep g v gr vr) : sep gr vr g v :=
  ⟨⟨fun e => h.1.1 e.symm, fun he => (h.2 g he).1 rfl⟩, fun q hq => ⟨fun e => h.1.2 (e ▸ hq), fun he => (h.2 q he).2 hq⟩⟩
/-- Behind a call on the one the other is as it was. -/
theorem sep.step {g gr : Nat} {v v' vr : Value} (h : sep g v gr vr) (hgr : gr < N) (hor : ∀ q, vr.ownBlock = some q → q < N) (hfar : ∀ k, farN g v k → k < N → M' k = M k ∧ farN g v' k) : sep g v' gr vr ∧ ∀ k, (k = gr ∨ vr.ownBlock = some k) → M' k = M k :=
  ⟨⟨(hfar gr h.1 hgr).2, fun q hq => (hfar q (h.2 q hq) (hor q hq)).2⟩, fun k hk => by
    rcases hk with rfl | hk
    · exact (hfar _ h.1 hgr).1
    · exact (hfar k (h.2 k hk) (hor k hk)).1⟩
theorem split_eq {C C' D D' : List ML} {m m' : ML} (h : C ++ m :: D = C' ++ m' :: D') (hl : C.length = C'.length) : C = C' ∧ m = m' ∧ D = D' := by
  obtain ⟨h1, h2⟩ := List.append_inj h hl
  injection h2 with h2 h3
  exact ⟨h1, h2, h3⟩
/-- does -/
theorem does_c {B g gr : Nat} {v vr vb : Value} {rows rrows : List (List Value)} {ms : List ML} {o : OP} (h : isNet 87 F M B g v rows ms) (hr : isNet 77 F M B gr vr rrows ms) (hs : sep g v gr vr) (hB : B ≤ N) (hlen : ms.length < 1000) (hbs : ∀ m ∈ ms, m.b.length ≤ 140737488351232)
    (hvb : sF F 1 vb o.b.length (bc o.b)) (hk : 0 ≤ o.k ∧ o.k ≤ 255) (hbl : o.b.length ≤ 140737488351232)
    (k : ∀ ms' F' M' N' v' rows' vr' rrows', subF F F' → N ≤ N' → isNet 87 F' M' B g v' rows' ms' → isNet 77 F' M' B gr vr' rrows' ms' → sep g v' gr vr' → ms'.length ≤ ms.length + 1 → (∀ m ∈ ms', m.b.length ≤ 140737488351232) → (Hp.mk F' M' N').wf → K (.bool true) ⟨F', M', N'⟩) :
    callv Try.prog (.func (.func 39) #[] #[]) #[.pointer (some ⟨g, 0, none⟩), .pointer (some ⟨gr, 0, none⟩), .agg #[.int .u8 o.k, .int .i64 o.f, .int .i64 o.t, vb, .int .i64 o.i]] K E ⟨F, M, N⟩ := by
  refine callv_of_text mixed Try.func39 (by kernel_rfl) (t39 _ E _ _ _) (fun hw => ?_)
  have hm := hw.m
  obtain ⟨hgN, hoN⟩ := h.lt hm
  obtain ⟨hrN, horN⟩ := hr.lt hm
  obtain ⟨ab, cb, rfl, _⟩ := hvb.form
  refine nw_r (cs := [.int .u8 o.k, .int .i64 o.f, .int .i64 o.t, .slice ab o.b.length cb, .int .i64 o.i]) (fun b1 hb1 => ?_)
  generalize hM1 : upd M b1 _ = M1
  have e1 : M1 b1 = some (.cells 74 [.int .u8 o.k, .int .i64 o.f, .int .i64 o.t, .slice ab o.b.length cb, .int .i64 o.i] 5) := by rw [← hM1]; exact upd_same _ _ _
  have e0 : ∀ q, q ≠ b1 → M1 q = M q := fun q hq => by rw [← hM1]; exact upd_ne _ _ hq
  have hm1 : ∀ q, b1 + 1 ≤ q → M1 q = none := fun q hq => (e0 q (by omega)).trans (hm q (by omega))
  have h1 : isNet 87 F M1 B g v rows ms := h.keep (subF.refl _) fun q hq => e0 q (by rcases hq with rfl | hq; omega; have := hoN q hq; omega)
  have hr1 : isNet 77 F M1 B gr vr rrows ms := hr.keep (subF.refl _) fun q hq => e0 q (by rcases hq with rfl | hq; omega; have := horN q hq; omega)
  have hrN1 : gr < b1 + 1 := by omega
  have horN1 : ∀ q, vr.ownBlock = some q → q < b1 + 1 := fun q hq => by have := horN q hq; omega
  have fb1 : farN g v b1 := ⟨by omega, fun he => by have := hoN b1 he; omega⟩
  refine pv_r rfl (ldM ?_)
  refine rem_r (by decide) ?_
  refine eql_r (fun hk3 => ?_) (fun hk3 => ?_)
  · -- Take
    refine cnd_t (pv_r rfl (ldM ?_))
    refine take_c h1 (fun hno N2 hN2 hw2 => ?_) (fun j m hj hmj M2 N2 bv2 v2 rows2 hbv2 hbl2 hN2 h2 hfar2 hw2 => ?_)
    · refine pv_r rfl (pv_r rfl ?_)
      refine nw_r (fun b3 hb3 => ?_)
      refine stM ?_
      refine pv_r rfl (ldM ?_)
      generalize hM3 : upd (upd M1 b3 _) b3 _ = M3
      have e3 : M3 b3 = some (.cells 61 [.int .i64 0, .int .i64 0, .slice none 0 0] 3) := by rw [← hM3]; exact upd_same _ _ _
      have k3 : ∀ q, q ≠ b3 → M3 q = M1 q := fun q hq => by rw [← hM3]; exact (upd_ne _ _ hq).trans (upd_ne _ _ hq)
      refine rtake_c (hr1.keep (M' := M3) (subF.refl _) fun q hq => k3 q (by rcases hq with rfl | hq; omega; have := horN q hq; omega)) (by omega) (by omega) (fun hno' N4 hN4 hw4 => ?_) (fun j m hj hmj => absurd ⟨by omega, by have := (List.getElem?_eq_some_iff.1 hmj).1; omega⟩ hno)
      refine pv_r rfl (pv_r rfl ?_)
      refine nw_r (fun b5 hb5 => ?_)
      refine stM ?_
      refine pv_r rfl (gd_tt ?_)
      refine ldMa ?_ ((upd_ne _ _ (by omega)).trans ((upd_ne _ _ (by omega)).trans e3))
      refine gd_tt ?_
      refine nws_r (cs := [.int .i64 0, .int .i64 0, .slice none 0 0]) (by kernel_rfl) (fun b6 hb6 => gd_tt ?_)
      refine ldMa ?_
      refine gd_tt ?_
      refine nws_r (cs := [.int .i64 0, .int .i64 0, .slice none 0 0]) (by kernel_rfl) (fun b7 hb7 => gd_tt ?_)
      refine same_c (ms := [⟨0, 0, []⟩]) (msR_one ((upd_ne _ _ (by omega)).trans (upd_same _ _ _)) (sF.sR (sF.nil _ _ _)) (Nat.le_refl _)) (msR_one (upd_same _ _ _) (sF.sR (sF.nil _ _ _)) (Nat.le_refl _)) (by simp) (fun hw7 => pv_r rfl fun hc => ⟨_, wk_refl hc, fun hw' => ?_⟩)
      have kk : ∀ q, q < N2 → (upd (upd (upd (upd M3 b5 (some (.cells 61 [Value.int .i64 0, .int .i64 0, .slice none 0 0] 3))) b5 (some (.cells 61 [Value.int .i64 0, .int .i64 0, .slice none 0 0] 3))) b6 (some (.cells 61 [Value.int .i64 0, .int .i64 0, .slice none 0 0] 3))) b7 (some (.cells 61 [Value.int .i64 0, .int .i64 0, .slice none 0 0] 3))) q = M1 q := fun q hq => (upd_ne _ _ (by omega)).trans ((upd_ne _ _ (by omega)).trans ((upd_ne _ _ (by omega)).trans ((upd_ne _ _ (by omega)).trans (k3 q (by omega)))))
      exact k ms _ _ _ v rows vr rrows (subF.refl _) (by omega) (h1.keep (subF.refl _) fun q hq => kk q (by rcases hq with rfl | hq; omega; have := hoN q hq; omega)) (hr1.keep (subF.refl _) fun q hq => kk q (by rcases hq with rfl | hq; omega; have := horN q hq; omega)) hs (by omega) hbs hw'
    · obtain ⟨hs2, hrk⟩ := hs.step hrN1 horN1 hfar2
      obtain ⟨hg2, ho2⟩ := h2.lt hw2.m
      have hm2 := hw2.m
      have eb1 := (hfar2 b1 fb1 (by omega)).1.trans e1
      obtain ⟨a2, c2, rfl, _⟩ := hbv2.form
      refine pv_r rfl (pv_r rfl ?_)
      refine nw_r (fun b3 hb3 => ?_)
      refine stM ?_
      refine pv_r rfl (ldM ?_)
      generalize hM3 : upd (upd M2 b3 _) b3 _ = M3
      have e3 : M3 b3 = some (.cells 61 [.int .i64 m.f, .int .i64 m.t, .slice a2 m.b.length c2] 3) := by rw [← hM3]; exact upd_same _ _ _
      have k3 : ∀ q, q ≠ b3 → M3 q = M2 q := fun q hq => by rw [← hM3]; exact (upd_ne _ _ hq).trans (upd_ne _ _ hq)
      have h3 := h2.keep (M' := M3) (subF.refl _) fun q hq => k3 q (by rcases hq with rfl | hq; omega; have := ho2 q hq; omega)
      have hr3 := hr1.keep (M' := M3) (subF.refl _) fun q hq => (k3 q (by rcases hq with rfl | hq; omega; have := horN q hq; omega)).trans (hrk q hq)
      refine rtake_c hr3 (by omega) (by omega) (fun hno' N4 hN4 hw4 => absurd ⟨by omega, by have := (List.getElem?_eq_some_iff.1 hmj).1; omega⟩ hno') (fun j' m' hj' hmj' M4 N4 bv4 v4 rows4 hbv4 hbl4 hN4 h4 hfar4 hw4 => ?_)
      obtain rfl : j' = j := by omega
      obtain rfl : m' = m := by rw [hmj] at hmj'; exact (Option.some.inj hmj').symm
      obtain ⟨hs4, hrk4⟩ := hs2.sw.step (N := b3 + 1) (by omega) (fun q hq => by have := ho2 q hq; omega) hfar4
      obtain ⟨a4, c4, rfl, _⟩ := hbv4.form
      obtain ⟨hg4, ho4⟩ := (h3.keep (subF.refl _) hrk4).lt hw4.m
      obtain ⟨hgr4, hor4⟩ := h4.lt hw4.m
      have e34 := (hfar4 b3 ⟨by omega, fun he => by have := horN b3 he; omega⟩ (by omega)).1.trans e3
      have hb34 : b3 < N4 := by omega
      refine pv_r rfl (pv_r rfl ?_)
      refine nw_r (fun b5 hb5 => ?_)
      refine stM ?_
      refine pv_r rfl (gd_tt ?_)
      refine ldMa ?_ ((upd_ne _ _ (by omega)).trans ((upd_ne _ _ (by omega)).trans e34))
      refine gd_tt ?_
      refine nws_r (cs := [.int .i64 m'.f, .int .i64 m'.t, .slice a2 m'.b.length c2]) (by kernel_rfl) (fun b6 hb6 => gd_tt ?_)
      refine ldMa ?_
      refine gd_tt ?_
      refine nws_r (cs := [.int .i64 m'.f, .int .i64 m'.t, .slice a4 m'.b.length c4]) (by kernel_rfl) (fun b7 hb7 => gd_tt ?_)
      refine same_c (ms := [m']) (msR_one ((upd_ne _ _ (by omega)).trans (upd_same _ _ _)) hbv2.sR (Nat.le_refl _)) (msR_one (upd_same _ _ _) hbv4.sR (Nat.le_refl _)) (by simp) (fun hw7 => pv_r rfl fun hc => ⟨_, wk_refl hc, fun hw' => ?_⟩)
      have kk : ∀ q, q < N4 → (upd (upd (upd (upd M4 b5 (some (.cells 61 [Value.int .i64 0, .int .i64 0, .slice none 0 0] 3))) b5 (some (.cells 61 [Value.int .i64 m'.f, .int .i64 m'.t, .slice a4 m'.b.length c4] 3))) b6 (some (.cells 61 [Value.int .i64 m'.f, .int .i64 m'.t, .slice a2 m'.b.length c2] 3))) b7 (some (.cells 61 [Value.int .i64 m'.f, .int .i64 m'.t, .slice a4 m'.b.length c4] 3))) q = M4 q := fun q hq => (upd_ne _ _ (by omega)).trans ((upd_ne _ _ (by omega)).trans ((upd_ne _ _ (by omega)).trans (upd_ne _ _ (by omega))))
      exact k _ _ _ _ _ rows2 _ rows4 (subF.refl _) (by omega) ((h3.keep (subF.refl _) hrk4).keep (subF.refl _) fun q hq => kk q (by rcases hq with rfl | hq; exact hg4; exact ho4 q hq)) (h4.keep (subF.refl _) fun q hq => kk q (by rcases hq with rfl | hq; exact hgr4; exact hor4 q hq)) hs4.sw (by have := List.length_eraseIdx_le ms j'; omega) (fun m hm => hbs m (List.mem_of_mem_eraseIdx hm)) hw'
  refine cnd_f (eql_r (fun hk4 => ?_) (fun hk4 => ?_))
  · -- Twice
    refine cnd_t (pv_r rfl (ldM ?_))
    refine pv_r rfl (ldM ?_)
    refine twice_c h1 (by omega) (fun hno N2 hN2 hw2 => ⟨ldV_c (row_M e1) rfl, ?_⟩) (fun C D m hCD hi hl2 F2 M2 N2 v2 rows2 hF2 hN2 h2 hfar2 hw2 => ⟨ldV_c (row_M ((hfar2 b1 fb1 (by omega)).1.trans e1)) rfl, ?_⟩)
    · refine rtwice_c hr1 (by omega) (by omega) hbs (fun hno' N4 hN4 hw4 => ?_) (fun C D m hCD hi hl2 => absurd ⟨in_split hCD hi, hl2⟩ hno)
      exact pv_r rfl fun hc => ⟨_, wk_refl hc, fun hw' => k ms _ _ _ v rows vr rrows (subF.refl _) (by omega) h1 hr1 hs (by omega) hbs hw'⟩
    · obtain ⟨hs2, hrk⟩ := hs.step hrN1 horN1 hfar2
      obtain ⟨hg2, ho2⟩ := h2.lt hw2.m
      have hlc : ms.length = C.length + (D.length + 1) := by rw [hCD]; simp
      refine rtwice_c (hr1.keep hF2 hrk) (by omega) (by omega) hbs (fun hno' N4 hN4 hw4 => absurd ⟨⟨by omega, by omega⟩, hl2⟩ hno') (fun C' D' m' hCD' hi' _ F4 M4 N4 v4 rows4 hF4 hN4 h4 hfar4 hw4 => ?_)
      obtain ⟨rfl, rfl, rfl⟩ := split_eq (hCD.symm.trans hCD') (by omega)
      obtain ⟨hs4, hrk4⟩ := hs2.sw.step (N := N2) hg2 ho2 hfar4
      exact pv_r rfl fun hc => ⟨_, wk_refl hc, fun hw' => k _ _ _ _ _ rows2 _ rows4 (hF2.trans hF4) (by omega) (h2.keep hF4 hrk4) h4 hs4.sw (by simp; omega) (fun q hq => hbs q (by rw [hCD]; exact mem_dup hq)) hw'⟩
  refine cnd_f (eql_r (fun hk5 => ?_) (fun hk5 => ?_))
  · -- Late
    refine cnd_t (pv_r rfl (ldM ?_))
    refine pv_r rfl (ldM ?_)
    refine late_c h1 (by omega) (by omega) (fun hno N2 hN2 hw2 => ⟨ldV_c (row_M e1) rfl, ?_⟩) (fun C D m hCD hi F2 M2 N2 v2 rows2 hF2 hN2 h2 hfar2 hw2 => ⟨ldV_c (row_M ((hfar2 b1 fb1 (by omega)).1.trans e1)) rfl, ?_⟩)
    · refine rlate_c hr1 (by omega) (by omega) (fun hno' N4 hN4 hw4 => ?_) (fun C D m hCD hi => absurd (in_split hCD hi) hno)
      exact pv_r rfl fun hc => ⟨_, wk_refl hc, fun hw' => k ms _ _ _ v rows vr rrows (subF.refl _) (by omega) h1 hr1 hs (by omega) hbs hw'⟩
    · obtain ⟨hs2, hrk⟩ := hs.step hrN1 horN1 hfar2
      obtain ⟨hg2, ho2⟩ := h2.lt hw2.m
      have hlc : ms.length = C.length + (D.length + 1) := by rw [hCD]; simp
      refine rlate_c (hr1.keep hF2 hrk) (by omega) (by omega) (fun hno' N4 hN4 hw4 => absurd ⟨by omega, by omega⟩ hno') (fun C' D' m' hCD' hi' F4 M4 N4 v4 rows4 hF4 hN4 h4 hfar4 hw4 => ?_)
      obtain ⟨rfl, rfl, rfl⟩ := split_eq (hCD.symm.trans hCD') (by omega)
      obtain ⟨hs4, hrk4⟩ := hs2.sw.step (N := N2) hg2 ho2 hfar4
      exact pv_r rfl fun hc => ⟨_, wk_refl hc, fun hw' => k _ _ _ _ _ rows2 _ rows4 (hF2.trans hF4) (by omega) (h2.keep hF4 hrk4) h4 hs4.sw (by simp; omega) (fun q hq => hbs q (by rw [hCD]; exact mem_late hq)) hw'⟩
  refine cnd_f (eql_r (fun hk6 => ?_) (fun hk6 => ?_))
  · -- All
    refine cnd_t ?_
    refine all_c h1 (by omega) (fun v2 M2 N2 rows2 hw2 hN2 hM2 ho2 => ?_)
    obtain ⟨a2, c2, hv2⟩ : ∃ a c, v2 = .slice a ms.length c := (ho2.ownS.2.elim (fun h => ⟨none, 0, by rw [h.2]; exact h.1⟩) fun ⟨b, c, h1, _⟩ => ⟨_, c, h1⟩)
    subst hv2
    refine l39_1_0_1_0_1_1_1_1_1_1_1_0_1_0_1_0_0 (σ := Nat) (fun s => .int .i64 (s : Nat))
      (fun s h => s ≤ ms.length ∧ ∃ M' ms', h = ⟨F, M', N2⟩ ∧ (∀ q, q < b1 + 1 → M' q = M1 q) ∧ ms'.length = ms.length ∧ ownMs M' (b1 + 1) (.slice a2 ms.length c2) rows2 ms') (fun s => ms.length - s) 0 rfl
      (fun hc => ⟨_, wk_refl hc, Nat.zero_le _, M2, ms, rfl, hM2, rfl, ho2⟩) ?_
    rintro k1 i j h ⟨hi, M3, ms3, rfl, hM3, hl3, ho3⟩ hw3 next
    simp only at hi ⊢
    refine pv_r rfl ?_
    by_cases hlt : i < ms.length
    · refine lss_t (by omega) (cnd_t ?_)
      obtain ⟨m3, hm3⟩ : ∃ m, ms3[i]? = some m := ⟨ms3[i], by simp [hl3, hlt]⟩
      obtain ⟨r, hrow, ⟨bv, rfl, hbv, _⟩, hcut, hcl, _⟩ := ho3.rr.get hm3
      obtain ⟨abv, cbv, ebv, _⟩ := (hbv.sR (F := F)).form
      rcases ho3.oo with ⟨e, e'⟩ | ⟨b3, c3, e, hc3, _, hb3, _⟩
      · subst e'; simp at hl3; omega
      injection e with ea _ ec
      subst ea; subst ec
      refine l39_1_0_1_0_1_1_1_1_1_1_1_0_1_0_1_0_0_1_0_0_1_0_0 (σ := Nat) (fun s => .int .i64 (s : Nat))
        (fun s h => s ≤ m3.b.length ∧ ∃ M' ms', h = ⟨F, M', N2⟩ ∧ (∀ q, q < b1 + 1 → M' q = M1 q) ∧ ms'.length = ms.length ∧ ownMs M' (b1 + 1) (.slice (some ⟨b3, 0, none⟩) ms.length c2) rows2 ms') (fun s => m3.b.length - s) 0 rfl
        (fun hc => ⟨_, wk_refl hc, Nat.zero_le _, M3, ms3, rfl, hM3, hl3, ho3⟩) ?_
      rintro k2 kk j2 h ⟨hkk, M4, ms4, rfl, hM4, hl4, ho4⟩ hw4 next2
      simp only at hkk ⊢
      obtain ⟨m4, hm4⟩ : ∃ m, ms4[i]? = some m := ⟨ms4[i], by simp [hl4, hlt]⟩
      obtain ⟨r4, hrow4, ⟨bv4, er4, hbv4, hbl4⟩, _⟩ := ho4.rr.get hm4
      rw [hrow] at hrow4
      injection hrow4 with hrow4
      rw [er4] at hrow4
      simp only [List.cons.injEq, and_true] at hrow4
      obtain ⟨_, _, rfl⟩ := hrow4
      obtain ⟨a4, c4, e4, _⟩ := (hbv4.sR (F := F)).form
      rw [ebv] at e4
      injection e4 with e4 e5 e6
      subst e4; subst e6
      rcases ho4.oo with ⟨e, _⟩ | ⟨b4, c4', e, _, _, _, hMb4⟩
      · cases e
      injection e with ea _ ec
      injection ea with ea
      injection ea with ea _
      subst ea; subst ec
      have hrd : (rows2.flatten)[0 + i * 3 + 2]? = some bv := by
        have := congrArg (fun l => l[2]?) hcut
        simp only [List.getElem?_take, List.getElem?_drop] at this
        rw [Nat.zero_add]
        simpa using this
      refine iaN_r hlt (pv_r rfl ?_)
      refine ldM (v := bv) ?_ hMb4 hrd
      subst ebv
      refine pv_r rfl ?_
      by_cases hkl : kk < m3.b.length
      · refine lss_t (by omega) (cnd_t (iaN_r hlt (pv_r rfl ?_)))
        refine ldM ?_ hMb4 hrd
        rcases hbv4 with ⟨c, e, e'⟩ | ⟨bb, c, tot, e, hbc, hbb, hMbb⟩
        · have e9 := congrArg List.length e'
          rw [List.length_nil] at e9; omega
        injection e with ea _ ec
        subst ea; subst ec
        refine iaN_r hkl ?_
        refine stM (cs' := bc (m4.b.set kk 255)) ?_ hMbb (by rw [Nat.zero_add, Nat.mul_one]; exact splice_bc (by omega)) rfl (hl := by simp [bc]; omega)
        refine inc_r (by omega) ?_
        obtain ⟨ms5, hl5, ho5⟩ := ho4.turn (i := kk) (x := 255) hMbb
        have hfr : ∀ q, q < b1 + 1 → (upd M4 bb (some (.cells 5 (bc (m4.b.set kk 255)) tot))) q = M1 q := fun q hq => (upd_ne _ _ (by omega)).trans (hM4 q hq)
        exact next2 (kk + 1) _ _ (by omega) (fun hc => ⟨_, wk_refl hc, by omega, _, ms5, rfl, hfr, by omega, ho5⟩)
      · refine lss_f (by omega) (cnd_f ?_)
        rw [t39_1_0_1_0_1_1_1_1_1_1_1_0_1_0_1_0_0_1_1]
        refine inc_r (by omega) ?_
        exact next (i + 1) _ _ (by omega) (fun hc => ⟨_, wk_refl hc, by omega, M4, ms4, rfl, hM4, hl4, ho4⟩)
    · refine lss_f (by omega) (cnd_f ?_)
      rw [t39_1_0_1_0_1_1_1_1_1_1_1_0_1_1]
      exact fun hc => ⟨_, wk_refl hc, fun hw' => k ms _ _ _ v rows vr rrows (subF.refl _) (by omega) (h1.keep (subF.refl _) fun q hq => hM3 q (by rcases hq with rfl | hq; omega; have := hoN q hq; omega)) (hr1.keep (subF.refl _) fun q hq => hM3 q (by rcases hq with rfl | hq; omega; have := horN q hq; omega)) hs (by omega) hbs hw'⟩
  refine cnd_f ?_
  rw [t39_1_1]
  -- Send
  refine pv_r rfl (ldM ?_)
  refine appB_r hm1 hvb.read hbl (fun v3 M3 N3 hN3 hM3 hm3 ho3 => ?_)
  have f1 := (hM3 b1 (by omega)).trans e1
  refine pv_r rfl (ldM ?_)
  refine pv_r rfl (ldM ?_)
  obtain ⟨a3, c3, hv3, _⟩ := (ho3.sR (F := F)).form
  subst hv3
  refine pv_r (v := .agg #[.int .i64 o.f, .int .i64 o.t, .slice a3 o.b.length c3]) (by kernel_rfl) ?_
  have h3 := h1.keep (M' := M3) (subF.refl _) fun q hq => hM3 q (by rcases hq with rfl | hq; omega; have := hoN q hq; omega)
  have hr3 := hr1.keep (M' := M3) (subF.refl _) fun q hq => hM3 q (by rcases hq with rfl | hq; omega; have := horN q hq; omega)
  have hown : ∀ q, (Value.slice a3 o.b.length c3).ownBlock = some q → b1 + 1 ≤ q ∧ q < N3 ∨ M3 q = none := fun q hq => by
    rcases Nat.lt_or_ge q N3 with h | h
    · exact .inl ⟨ho3.ge q hq, h⟩
    · exact .inr (hm3 q h)
  have hown3 : ∀ q, (Value.slice a3 o.b.length c3).ownBlock = some q → b1 + 1 ≤ q ∧ q < N3 := fun q hq => by
    rcases hown q hq with h | h
    · exact h
    · rcases ho3 with ⟨c, e, _⟩ | ⟨b', c, tot, e, _, _, h4⟩
      · rw [e] at hq; simp [Value.ownBlock] at hq
      · rw [e] at hq; simp [Value.ownBlock] at hq; subst hq; rw [h] at h4; cases h4
  refine send_c h3 (by omega) ho3.sR (by omega) (fun h => absurd (by omega) h) (fun _ F4 M4 N4 v4 rows4 hF4 hN4 h4 hfar4 hw4 => ?_)
  obtain ⟨hs4, hrk4⟩ := hs.step (N := N3) (by omega) (fun q hq => by have := horN q hq; omega) hfar4
  have f4 := (hfar4 b1 fb1 (by omega)).1.trans f1
  have own4 : ∀ q, (Value.slice a3 o.b.length c3).ownBlock = some q → M4 q = M3 q ∧ farN g v4 q := fun q hq => by
    have h := hown3 q hq
    exact hfar4 q ⟨by omega, fun he => by have := hoN q he; omega⟩ h.2
  refine l39_1_1_1_1_1_0_1_0_0 (σ := Nat) (fun s => .int .i64 (s : Nat))
    (fun s h => s ≤ o.b.length ∧ ∃ M' L, h = ⟨F4, M', N4⟩ ∧ L.length = o.b.length ∧ ownB M' (b1 + 1) (.slice a3 o.b.length c3) L ∧ ∀ q, (Value.slice a3 o.b.length c3).ownBlock ≠ some q → M' q = M4 q) (fun s => o.b.length - s) 0 rfl
    (fun hc => ⟨_, wk_refl hc, Nat.zero_le _, M4, o.b, rfl, rfl, ho3.keepB fun q hq => (own4 q hq).1, fun _ _ => rfl⟩) ?_
  rintro k1 i j h ⟨hi, M5, L, rfl, hL, ho5, hM5⟩ hw5 next
  simp only at hi ⊢
  refine pv_r rfl ?_
  by_cases hlt : i < o.b.length
  · rcases ho5 with ⟨c, e, e'⟩ | ⟨bb, c, tot, e, hbc, hbb, hMbb⟩
    · rw [e'] at hL; simp at hL; omega
    injection e with ea _ ec
    subst ea; subst ec
    refine lss_t (by omega) (cnd_t (iaN_r hlt ?_))
    refine stM (cs' := bc (L.set i 255)) ?_ hMbb (by rw [Nat.zero_add, Nat.mul_one]; exact splice_bc (by omega)) rfl (hl := by simp [bc]; omega)
    refine inc_r (by omega) ?_
    exact next (i + 1) _ _ (by omega) (fun hc => ⟨_, wk_refl hc, by omega, _, L.set i 255, rfl, by simpa using hL, .inr ⟨bb, c3, tot, by simp [hL], by simp [hL]; omega, hbb, upd_same _ _ _⟩, fun q hq => (upd_ne _ _ (fun he => hq (by rw [he]; rfl))).trans (hM5 q hq)⟩)
  · refine lss_f (by omega) (cnd_f ?_)
    rw [t39_1_1_1_1_1_1]
    have f5 := (hM5 b1 (fun he => by have := hown3 b1 he; omega)).trans f4
    refine pv_r rfl (ldM ?_)
    refine pv_r rfl (ldM ?_)
    refine pv_r rfl (ldM ?_)
    refine pv_r (v := .agg #[.int .i64 o.f, .int .i64 o.t, .slice ab o.b.length cb]) (by kernel_rfl) ?_
    have h5 := h4.keep (M' := M5) (subF.refl _) fun q hq => hM5 q (fun he => by
      have := (own4 q he).2
      rcases hq with rfl | hq
      · exact this.1 rfl
      · exact this.2 hq)
    have hr5 := (hr3.keep hF4 hrk4).keep (M' := M5) (subF.refl _) fun q hq => hM5 q (fun he => by
      have := hown3 q he
      rcases hq with rfl | hq
      · omega
      · have := horN q hq; omega)
    obtain ⟨hg5, ho5'⟩ := h5.lt hw5.m
    refine rsend_c hr5 (by omega) (hvb.mono hF4) hbl (fun h => absurd (by omega) h) (fun _ F6 M6 N6 v6 rows6 hF6 hN6 h6 hfar6 hw6 => ?_)
    obtain ⟨hs6, hrk6⟩ := hs4.sw.step (N := N4) hg5 ho5' hfar6
    refine pv_r rfl fun hc => ⟨_, wk_refl hc, fun hw' => k _ _ _ _ _ rows4 _ rows6 (hF4.trans hF6) (by omega) (h5.keep hF6 hrk6) h6 hs6.sw (by simp) (fun q hq => ?_) hw'⟩
    rcases List.mem_append.1 hq with hq | hq
    · exact hbs q hq
    · simp only [List.mem_cons, List.not_mem_nil, or_false] at hq
      rw [hq]; exact hbl
end Go.Proofs.Ytjeojnjkmhnepaa.N
