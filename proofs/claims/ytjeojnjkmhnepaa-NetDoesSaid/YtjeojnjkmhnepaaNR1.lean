import Derived.Test.YtjeojnjkmhnepaaNS
open Go Go.RowKit Go.Proofs.Ytjeojnjkmhnepaa.K Go.Proofs.Ytjeojnjkmhnepaa.T
set_option linter.unusedVariables false
set_option linter.unusedSimpArgs false
namespace Go.Proofs.Ytjeojnjkmhnepaa.N
variable {F F' : Nat → Option (List Value)} {M M' : Nat → Option Chunk} {N N' : Nat} {K : Kont} {E : PanK}
theorem flat_take {sz : Nat} : ∀ (rows : List (List Value)) (u : Nat), (∀ r ∈ rows, r.length = sz) → rows.flatten.take (u * sz) = (rows.take u).flatten
  | [], u, _ => by simp
  | r :: rows, 0, _ => by simp
  | r :: rows, u + 1, h => by
    have h1 := h r (by simp)
    rw [List.flatten_cons, List.take_succ_cons, List.flatten_cons, List.take_append, h1, List.take_of_length_le (by rw [h1, Nat.succ_mul]; omega), Nat.succ_mul, Nat.add_sub_cancel, flat_take rows u (fun r hr => h r (by simp [hr]))]
theorem flat_drop {sz : Nat} : ∀ (rows : List (List Value)) (u : Nat), (∀ r ∈ rows, r.length = sz) → rows.flatten.drop (u * sz) = (rows.drop u).flatten
  | [], u, _ => by simp
  | r :: rows, 0, _ => by simp
  | r :: rows, u + 1, h => by
    have h1 := h r (by simp)
    rw [List.flatten_cons, List.drop_succ_cons, List.drop_append, h1, List.drop_eq_nil_of_le (by rw [h1, Nat.succ_mul]; omega), Nat.succ_mul, Nat.add_sub_cancel, flat_drop rows u (fun r hr => h r (by simp [hr])), List.nil_append]
theorem rowsF.take {α : Type} {R : List Value → α → Prop} {sz : Nat} {rows : List (List Value)} {xs : List α} (h : rowsF R sz rows xs) (u : Nat) : rowsF R sz (rows.take u) (xs.take u) :=
  ⟨fun r hr => h.len r (List.mem_of_mem_take hr), fun r hr => h.one r (List.mem_of_mem_take hr), by simp [h.all.1], fun i x y hx hy => by
    rw [List.getElem?_take] at hx hy
    split at hx
    · rename_i hlt; rw [if_pos hlt] at hy; exact h.all.2 i x y hx hy
    · cases hx⟩
theorem rowsF.drop {α : Type} {R : List Value → α → Prop} {sz : Nat} {rows : List (List Value)} {xs : List α} (h : rowsF R sz rows xs) (u : Nat) : rowsF R sz (rows.drop u) (xs.drop u) :=
  ⟨fun r hr => h.len r (List.mem_of_mem_drop hr), fun r hr => h.one r (List.mem_of_mem_drop hr), by simp [h.all.1], fun i x y hx hy => by
    rw [List.getElem?_drop] at hx hy
    exact h.all.2 (u + i) x y hx hy⟩
/-- Some mails more, or none. -/
theorem sentQ.app0 {B n : Nat} {v x : Value} {rows : List (List Value)} {ms news : List ML} {r : List (List Value)} (h : sentQ F M B v rows ms) (hm : ∀ k, N ≤ k → M k = none) (hB : B ≤ N) (hn : news.length = n) (hr : rowsF (mailR F) 3 r news) (hx : sRead ⟨F, M, N⟩ 3 x n r.flatten) (hlen : ms.length + n < 1000000)
    (k : ∀ v' M' N', N ≤ N' → (∀ q, v.ownBlock ≠ some q → q < N → M' q = M q) → (∀ q, v'.ownBlock = some q → (v.ownBlock = some q ∨ N ≤ q) ∧ q < N') → sentQ F M' B v' (rows ++ r) (ms ++ news) → (∀ k, N' ≤ k → M' k = none) → K v' ⟨F, M', N'⟩) : appX 61 3 40 v x K ⟨F, M, N⟩ := by
  have hlt := h.lt hm
  by_cases hn0 : 0 < n
  · exact h.app hm hB hn hn0 hr hx hlen k
  obtain rfl : n = 0 := by omega
  obtain rfl : news = [] := List.eq_nil_of_length_eq_zero hn
  obtain rfl : r = [] := List.eq_nil_of_length_eq_zero hr.all.1
  have hk := k
  simp only [List.append_nil] at hk
  refine app_r0 (m := 0) (news := []) h.ownS hx (by simp) (by omega) (by simp [maxLen]; omega) (fun h1 _ => ?_) (fun _ b c hb hc hcm => ?_)
  · subst h1
    exact hk _ _ _ (Nat.le_refl _) (fun _ _ _ => rfl) (fun q hq => by simp [Value.ownBlock] at hq) h hm
  · rw [List.append_nil]
    have hbB : B ≤ b := by
      rcases hb with hb | hb
      · omega
      · exact (hlt b hb).2
    refine hk _ _ _ (Nat.le_max_left _ _) (fun q hq hqN => ?_) (fun q hq => ?_) ⟨h.rr, .inr ⟨b, c, rfl, hc, hcm, hbB, upd_same _ _ _⟩⟩ (fun q hq => ?_)
    · rw [upd_ne _ _ (fun e => by subst e; rcases hb with hb | hb; omega; exact hq hb), forget_ne _ hq]
    · simp [Value.ownBlock] at hq
      subst hq
      refine ⟨hb.symm.imp id id, by omega⟩
    · rw [upd_ne _ _ (by omega), forget_ne _ (fun e => by have := (hlt q e).1; omega)]
      exact hm q (by omega)
/-- A row that was made becomes the network's. -/
theorem sentQ.net {ty : TypeId} {B g : Nat} {v : Value} {rows : List (List Value)} {ms : List ML} (h : sentQ F M B v rows ms) (hg : ∀ q, v.ownBlock = some q → q ≠ g) (hB : B ≤ g) {x : Option Chunk} (hx : x = some (.cells ty [v] 1)) : isNet ty F (upd M g x) B g v rows ms :=
  ⟨by rw [upd_same, hx], hB, h.rr, h.oo.imp id fun ⟨b, c, h1, h2, h3, h5, h6⟩ => ⟨b, c, [], h1, h2, h3, hg b (by rw [h1]; rfl), h5, by rw [upd_ne _ _ (hg b (by rw [h1]; rfl)), List.append_nil]; exact h6⟩⟩
/-- New of the reference -/
theorem rnew_c (hm : ∀ k, N ≤ k → M k = none) (k : ∀ g N', isNet 77 F (upd M g (some (.cells 77 [.slice none 0 0] 1))) N g (.slice none 0 0) [] [] → N ≤ N' → (Hp.mk F (upd M g (some (.cells 77 [.slice none 0 0] 1))) N').wf → N ≤ g → K (.pointer (some ⟨g, 0, none⟩)) ⟨F, upd M g (some (.cells 77 [.slice none 0 0] 1)), N'⟩) :
    callv Try.prog (.func (.func 38) #[] #[]) #[] K E ⟨F, M, N⟩ := by
  refine callv_of_text mixed Try.func38 (by kernel_rfl) (t38 _ E) (fun hw => ?_)
  refine pv_r (v := .agg #[.slice none 0 0]) (by kernel_rfl) ?_
  refine nw_r (fun b hb hc => ?_)
  exact ⟨_, wk_refl hc, fun hw' => k b _ ⟨upd_same _ _ _, hb, rowsF.nil _ _, .inl ⟨rfl, rfl⟩⟩ (by omega) hw' hb⟩
/-- Copy -/
theorem rcopy_c {f t : Int} {v : Value} {l : List Int} (hv : sR F M 1 v l.length (bc l)) (hl : l.length ≤ 140737488351232)
    (k : ∀ v' M' N', (Hp.mk F M' N').wf → N ≤ N' → (∀ q, q < N → M' q = M q) → ownB M' N v' l → K (.agg #[.int .i64 f, .int .i64 t, v']) ⟨F, M', N'⟩) : callv Try.prog (.func (.func 59) #[] #[]) #[.agg #[.int .i64 f, .int .i64 t, v]] K E ⟨F, M, N⟩ := by
  refine callv_of_text mixed Try.func59 (by kernel_rfl) (t59 _ E _) (fun hw => ?_)
  have hm := hw.m
  obtain ⟨a, c, hvf, hc⟩ := hv.form
  subst hvf
  refine nw_r (fun b1 h1 => ?_)
  refine nw_r (fun b2 h2 => ?_)
  refine pv_r rfl (ldM ?_)
  have hm1 : ∀ k, b1 + 1 ≤ k → (upd M b1 (some (.cells 61 (Value.agg #[.int .i64 f, .int .i64 t, .slice a l.length c]).cells.toList (Value.agg #[.int .i64 f, .int .i64 t, .slice a l.length c]).cells.toList.length))) k = none := fun k hk => (upd_ne _ _ (by omega)).trans (hm k (by omega))
  have fin : ∀ (v' : Value) (M3 : Nat → Option Chunk) (N3 : Nat), b2 + 1 ≤ N3 → (∃ a' c', v' = .slice a' l.length c') → (∀ q, q < b2 + 1 → M3 q = (upd (upd M b1 (some (.cells 61 (Value.agg #[.int .i64 f, .int .i64 t, .slice a l.length c]).cells.toList (Value.agg #[.int .i64 f, .int .i64 t, .slice a l.length c]).cells.toList.length))) b2 (some (.cells 61 [.int .i64 0, .int .i64 0, .slice none 0 0] 3))) q) → ownB M3 (b2 + 1) v' l →
    pv (faV 0 (.pointer (some ⟨b1, 0, none⟩))) (fun t6 => ld false 1 t6 fun t7 => pv (faV 1 (.pointer (some ⟨b1, 0, none⟩))) fun t8 => ld false 1 t8 fun t9 => pv (bdC #[(.int .i64 0), (.int .i64 0), (.slice none 0 0)] [(0, 1), (1, 1), (2, 1)] #[(0, t7), (1, t9), (2, v')]) fun t10 => st 3 (.pointer (some ⟨b2, 0, none⟩)) t10 fun _ => ld true 3 (.pointer (some ⟨b2, 0, none⟩)) fun t11 => fun h => h.wf → ∃ h', h.wk h' ∧ (h'.wf → K t11 h')) ⟨F, M3, N3⟩ := by
    rintro v' M3 N3 hN3 ⟨a', c', rfl⟩ hM3 hv'
    have e1 := (hM3 b1 (by omega)).trans ((upd_ne _ _ (by omega)).trans (upd_same _ _ _))
    have e2 := (hM3 b2 (by omega)).trans (upd_same _ _ _)
    refine pv_r rfl (ldM ?_)
    refine pv_r rfl (ldM ?_)
    refine pv_r (v := .agg #[.int .i64 f, .int .i64 t, .slice a' l.length c']) (by kernel_rfl) ?_
    refine stM ?_
    refine ldMa fun hc => ?_
    exact ⟨_, wk_refl hc, fun hw' => k _ _ _ hw' (by omega) (fun q hq => (upd_ne _ _ (by omega)).trans ((hM3 q (by omega)).trans ((upd_ne _ _ (by omega)).trans (upd_ne _ _ (by omega))))) (hv'.keep (by omega) fun b c hb h => (upd_ne _ _ (by omega)).trans h)⟩
  refine app_r0 (n := 0) (cs := []) (m := l.length) (news := bc l) ownS_nil ((hv.new hm h1).new hm1 h2).read (ints_one _) (by omega) (by simp [maxLen]; omega) (fun _ h0 => ?_) (fun _ b c' hb hmc hcm => ?_)
  · exact fin _ _ _ (Nat.le_refl _) ⟨none, 0, by rw [h0]⟩ (fun _ _ => rfl) (.inl ⟨0, rfl, List.eq_nil_of_length_eq_zero h0⟩)
  · have hb' : b2 + 1 ≤ b := by rcases hb with h | h; exact h; simp [Value.ownBlock] at h
    refine fin _ _ _ (Nat.le_max_left _ _) ⟨_, _, by rw [Nat.zero_add]⟩ (fun q hq => (upd_ne _ _ (by omega)).trans (forget_ne _ (by simp [Value.ownBlock]))) (.inr ⟨b, c', _, by rw [Nat.zero_add], by omega, hb', upd_same _ _ _⟩)
/-- Copy, whose bytes nobody turns any more. -/
theorem rcopy_f {f t : Int} {v : Value} {l : List Int} (hm : ∀ k, N ≤ k → M k = none) (hv : sR F M 1 v l.length (bc l)) (hl : l.length ≤ 140737488351232)
    (k : ∀ v' F' N', (Hp.mk F' M N').wf → subF F F' → N ≤ N' → sF F' 1 v' l.length (bc l) → K (.agg #[.int .i64 f, .int .i64 t, v']) ⟨F', M, N'⟩) : callv Try.prog (.func (.func 59) #[] #[]) #[.agg #[.int .i64 f, .int .i64 t, v]] K E ⟨F, M, N⟩ :=
  callv_wk (rcopy_c hv hl fun v' M' N' hw hN hM hv' _ => ⟨_, wk_all hm hM hw, fun hw' => k _ _ _ hw' (subF_frzAll hw) hN (hv'.sR.frz hw fun b hb => .inl (hv'.ge b hb))⟩)
/-- What a network's row reads as, cut. -/
theorem isNet.pre {ty : TypeId} {B g b c n : Nat} {rows : List (List Value)} {ms : List ML} (h : isNet ty F M B g (.slice (some ⟨b, 0, none⟩) n c) rows ms) (hM : ∀ q, q = b → M' q = M q) {j : Nat} (hj : j ≤ ms.length) : sRead ⟨F, M', N⟩ 3 (.slice (some ⟨b, 0, none⟩) j c) j (rows.take j).flatten := by
  rcases h.oo with ⟨e, _⟩ | ⟨b', c', rest, e, h2, h3, h4, h5, h6⟩
  · cases e
  · injection e with e1 e2 e3; injection e1 with e1; injection e1 with e1 _; subst e1
    refine ⟨by rw [(rowsF.take h.rr j).flen, List.length_take, Nat.min_eq_left hj], .inr ⟨b, 0, c, _, rfl, .inr ⟨.inr ⟨_, _, (hM b rfl).trans h6⟩, ?_⟩⟩⟩
    rw [List.drop_zero, List.take_append_of_le_length (by rw [h.rr.flen]; exact Nat.mul_le_mul_right _ hj)]
    exact flat_take rows j h.rr.len
theorem isNet.suf {ty : TypeId} {B g b c n : Nat} {rows : List (List Value)} {ms : List ML} (h : isNet ty F M B g (.slice (some ⟨b, 0, none⟩) n c) rows ms) (hM : ∀ q, q = b → M' q = M q) {j : Nat} (hj : j ≤ ms.length) : sRead ⟨F, M', N⟩ 3 (.slice (some (if c = j then ⟨b, 0, none⟩ else ⟨b, 0 + j * 3, none⟩)) (ms.length - j) (c - j)) (ms.length - j) (rows.drop j).flatten := by
  rcases h.oo with ⟨e, _⟩ | ⟨b', c', rest, e, h2, h3, h4, h5, h6⟩
  · cases e
  · injection e with e1 e2 e3; injection e1 with e1; injection e1 with e1 _; subst e1; subst e3
    have hfl := (rowsF.drop h.rr j).flen
    rw [List.length_drop] at hfl
    refine ⟨hfl, ?_⟩
    by_cases hz : ms.length - j = 0
    · exact .inl ⟨_, _, rfl, hz⟩
    · refine .inr ⟨b, 0 + j * 3, c - j, _, by rw [if_neg (by omega)], .inr ⟨.inr ⟨_, _, (hM b rfl).trans h6⟩, ?_⟩⟩
      have h7 := h.rr.flen
      have h8 : j * 3 ≤ rows.flatten.length := by rw [h7]; exact Nat.mul_le_mul_right _ hj
      rw [Nat.zero_add, List.drop_append_of_le_length h8, List.take_append_of_le_length (by rw [List.length_drop, h7, Nat.sub_mul]; exact Nat.le_refl _), flat_drop rows _ h.rr.len, List.take_of_length_le (by rw [hfl]; exact Nat.le_refl _)]
/-- (*Net).Take of the reference -/
theorem rtake_c {B g : Nat} {v : Value} {rows : List (List Value)} {ms : List ML} {i : Int} (h : isNet 77 F M B g v rows ms) (hB : B ≤ N) (hlen : ms.length ≤ 2000)
    (k0 : ¬ (0 ≤ i ∧ i < ms.length) → ∀ N', N ≤ N' → (Hp.mk F M N').wf → K (.tuple #[.agg #[.int .i64 0, .int .i64 0, .slice none 0 0], .bool false]) ⟨F, M, N'⟩)
    (k1 : ∀ (j : Nat) m, i = j → ms[j]? = some m → ∀ M' N' bv v' rows', sF F 1 bv m.b.length (bc m.b) → m.b.length ≤ 140737488355328 → N ≤ N' → isNet 77 F M' B g v' rows' (ms.eraseIdx j) → (∀ k, farN g v k → k < N → M' k = M k ∧ farN g v' k) → (Hp.mk F M' N').wf → K (.tuple #[.agg #[.int .i64 m.f, .int .i64 m.t, bv], .bool true]) ⟨F, M', N'⟩) :
    callv Try.prog (.func (.func 52) #[] #[]) #[.pointer (some ⟨g, 0, none⟩), .int .i64 i] K E ⟨F, M, N⟩ := by
  refine callv_of_text mixed Try.func52 (by kernel_rfl) (t52 _ E _ _) (fun hw => ?_)
  have hm := hw.m
  obtain ⟨hgN, hoN⟩ := h.lt hm
  have hg := h.gg
  obtain ⟨a, c, hvf, hac⟩ := h.form
  subst hvf
  refine nw_r (fun b1 hb1 => ?_)
  have none_case : ¬ (0 ≤ i ∧ i < ms.length) → pv (bdC #[(.int .i64 0), (.int .i64 0), (.slice none 0 0)] [(0, 1), (1, 1), (2, 1)] #[]) (fun t11 => st 3 (.pointer (some ⟨b1, 0, none⟩)) t11 fun _ => ld true 3 (.pointer (some ⟨b1, 0, none⟩)) fun t12 => fun h => h.wf → ∃ h', h.wk h' ∧ (h'.wf → K (.tuple #[t12, (.bool false)]) h')) ⟨F, upd M b1 (some (.cells 61 [.int .i64 0, .int .i64 0, .slice none 0 0] 3)), b1 + 1⟩ := fun hr => by
    refine pv_r (v := .agg #[.int .i64 0, .int .i64 0, .slice none 0 0]) (by kernel_rfl) ?_
    refine stM ?_
    refine ldMa fun hc => ?_
    exact ⟨⟨F, M, b1 + 1⟩, wk_end hc, fun hw' => k0 hr _ (by omega) hw'⟩
  refine lss_r (fun h0 => ?_) (fun h0 => ?_)
  · exact gd_tf (gd_tf (gd_tf (gd_tf (gd_tf (gd_tf (gd_tf (pv_r rfl (cnd_t (none_case (by omega))))))))))
  refine gd_ff (gd_ff (gd_ff (pv_r rfl (gd_ff (pv_r rfl (gd_ff ?_))))))
  refine ldM ?_
  refine gd_ff (pv_r rfl (gd_ff (geq_r (fun h1 => ?_) (fun h1 => ?_))))
  · exact pv_r rfl (cnd_t (none_case (by omega)))
  obtain ⟨j, rfl⟩ : ∃ j : Nat, i = j := ⟨i.toNat, by omega⟩
  have hj : j < ms.length := by omega
  obtain ⟨m, hmj⟩ : ∃ m, ms[j]? = some m := ⟨ms[j], by simp [hj]⟩
  obtain ⟨r, hrj, ⟨bv, rfl, hbv, hbl⟩, hcut, hcl, _⟩ := h.rr.get hmj
  obtain ⟨abv, cbv, rfl, _⟩ := hbv.form
  rcases h.oo with ⟨_, e2⟩ | ⟨b, c', rest, e, hc, hcm, hbg, hBb, hMb⟩
  · subst e2; simp at hj
  injection e with e1 e2 e3
  subst e1; subst e3
  have hbN : b < N := hoN b rfl
  refine pv_r rfl (cnd_f (pv_r rfl (pv_r rfl ?_)))
  refine ldM ?_
  refine iaN_r hj ?_
  refine ldMa (vs := [.int .i64 m.f, .int .i64 m.t, .slice abv m.b.length cbv]) ?_ ((upd_ne _ _ (by omega)).trans hMb) ?_ ?_
  rotate_left
  · rw [Nat.zero_add, List.drop_append_of_le_length (by omega), List.take_append_of_le_length (by rw [List.length_drop]; omega)]; exact hcut
  · rw [List.length_append]; omega
  refine nw_r (fun b2 hb2 => ?_)
  refine stM ?_
  generalize hM2 : upd (upd (upd M b1 _) b2 _) b2 _ = M2
  have e1 : M2 b1 = some (.cells 61 [Value.int .i64 0, .int .i64 0, .slice none 0 0] 3) := by rw [← hM2, upd_ne _ _ (by omega), upd_ne _ _ (by omega)]; exact upd_same _ _ _
  have e2 : M2 b2 = some (.cells 61 [Value.int .i64 m.f, .int .i64 m.t, .slice abv m.b.length cbv] 3) := by rw [← hM2]; exact upd_same _ _ _
  have e0 : ∀ q, q < N → M2 q = M q := fun q hq => by rw [← hM2, upd_ne _ _ (by omega), upd_ne _ _ (by omega), upd_ne _ _ (by omega)]
  have hm2 : ∀ q, b2 + 1 ≤ q → M2 q = none := fun q hq => by rw [← hM2, upd_ne _ _ (by omega), upd_ne _ _ (by omega), upd_ne _ _ (by omega)]; exact hm q (by omega)
  obtain ⟨C, D, hCD, hCj⟩ := split_at hmj
  have hel : ms.eraseIdx j = C ++ D := by rw [hCD, ← hCj]; exact erase_at C D m
  have hlen2 : ms.length = C.length + (D.length + 1) := by rw [hCD]; simp
  have hCt : ms.take j = C := by rw [hCD, ← hCj]; simp
  have hDd : ms.drop (j + 1) = D := by rw [hCD, ← hCj]; simp
  refine pv_r rfl (pv_r rfl (ldM ?_ ((e0 g hgN).trans hg) rfl))
  refine sl_pre j (by omega) ?_
  refine sentQ.app0 (n := j) (news := C) (r := rows.take j) (B := B) (⟨rowsF.nil _ _, .inl ⟨rfl, rfl⟩⟩ : sentQ F M2 B (.slice none 0 0) [] []) hm2 (by omega) hCj (by have := rowsF.take h.rr j; rw [hCt] at this; exact this)
    (h.pre (fun q hq => e0 q (by omega)) (by omega)) (by simp; omega) (fun v3 M3 N3 hN3 hM3 hv3 hs3 hm3 => ?_)
  have k3 : ∀ q, q < b2 + 1 → M3 q = M2 q := fun q hq => hM3 q (by simp [Value.ownBlock]) hq
  have n3 : ∀ q, v3.ownBlock = some q → b2 + 1 ≤ q := fun q hq => by
    rcases (hv3 q hq).1 with h | h
    · simp [Value.ownBlock] at h
    · exact h
  refine pv_r rfl (pv_r rfl (ldM ?_ ((k3 g (by omega)).trans ((e0 g hgN).trans hg)) rfl))
  refine inc_r (by omega) (sl_suf (j + 1) (by omega) (by omega) ?_)
  refine hs3.app0 (n := ms.length - (j + 1)) (news := D) (r := rows.drop (j + 1)) hm3 (by omega) (by omega) (by have := rowsF.drop h.rr (j + 1); rw [hDd] at this; exact this)
    (h.suf (fun q hq => (k3 q (by omega)).trans (e0 q (by omega))) (by omega)) (by simp; omega) (fun v4 M4 N4 hN4 hM4 hv4 hs4 hm4 => ?_)
  have k4 : ∀ q, q < b2 + 1 → M4 q = M2 q := fun q hq => (hM4 q (fun he => by have := n3 q he; omega) (by omega)).trans (k3 q hq)
  have n4 : ∀ q, v4.ownBlock = some q → b2 + 1 ≤ q := fun q hq => by
    rcases (hv4 q hq).1 with h | h
    · exact n3 q h
    · omega
  have hvf : ∃ a c, v4 = .slice a (C ++ D).length c := by
    rcases hs4.oo with ⟨e, e'⟩ | ⟨b, c, e, _⟩
    · have : (C ++ D).length = 0 := by have := congrArg List.length e'; simpa using this
      rw [this]; exact ⟨_, _, e⟩
    · exact ⟨_, _, e⟩
  obtain ⟨a4, c4, rfl⟩ := hvf
  refine pv_r rfl (pv_r rfl (stM ?_ ((k4 g (by omega)).trans ((e0 g hgN).trans hg))))
  refine ldMa ?_ ((upd_ne _ _ (by omega)).trans ((k4 b2 (by omega)).trans e2))
  refine stM ?_ ((upd_ne _ _ (by omega)).trans ((k4 b1 (by omega)).trans e1))
  refine ldMa fun hc => ?_
  refine ⟨_, wk_refl hc, fun hw' => k1 j m rfl hmj _ _ _ (.slice a4 (C ++ D).length c4) ([] ++ rows.take j ++ rows.drop (j + 1)) hbv hbl (by omega) ?_ (fun q hq hqN => ?_) hw'⟩
  · rw [hel]
    refine (sentQ.net (g := g) hs4 (fun q hq => by have := n4 q hq; omega) h.gB rfl).keep (subF.refl _) fun q hq => upd_ne _ _ ?_
    rcases hq with rfl | hq
    · omega
    · have := n4 q hq; omega
  · refine ⟨(upd_ne _ _ (by omega)).trans ((upd_ne _ _ hq.1).trans ((k4 q (by omega)).trans (e0 q hqN))), hq.1, fun he => by have := n4 q he; omega⟩
end Go.Proofs.Ytjeojnjkmhnepaa.N
