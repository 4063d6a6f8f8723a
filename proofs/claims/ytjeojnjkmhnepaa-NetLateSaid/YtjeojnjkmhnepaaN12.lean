import Derived.Test.YtjeojnjkmhnepaaNS
import Derived.Test.YtjeojnjkmhnepaaTN12
open Go Go.RowKit Go.Proofs.Ytjeojnjkmhnepaa.K Go.Proofs.Ytjeojnjkmhnepaa.T
set_option linter.unusedVariables false
set_option linter.unusedSimpArgs false
namespace Go.Proofs.Ytjeojnjkmhnepaa.N
variable {F F' : Nat → Option (List Value)} {M M' : Nat → Option Chunk} {N N' : Nat} {K : Kont} {E : PanK}
theorem take_ml {l : List OP} {i : Nat} {o : OP} (ho : l[i]? = some o) : (l.take (i + 1)).map OP.ml = (l.take i).map OP.ml ++ [⟨o.f, o.t, o.b⟩] := by
  rw [List.take_add_one, ho, List.map_append]; rfl
theorem add2_r {e : EqK} {q : Nat} {h : Hp} (hq : q < 9000000000000000000) (k : K (.int .i64 (q + 1 + 1 : Nat)) h) : pv (binV e .add (.int .i64 (q : Nat)) (.int .i64 2)) K h :=
  add_r (by omega) (by omega) (by have e : ((q : Nat) : Int) + 2 = ((q + 1 + 1 : Nat) : Int) := by omega
                                  rw [e]; exact k)
/-- Mails that nobody turns any more, from their row's start. -/
structure msF (F : Nat → Option (List Value)) (v : Value) (rows : List (List Value)) (ms : List ML) : Prop where
  rr : rowsF (mailR F) 3 rows ms
  oo : (v = .slice none 0 0 ∧ ms = []) ∨ ∃ b c, v = .slice (some ⟨b, 0, none⟩) ms.length c ∧ ms.length ≤ c ∧ F b = some rows.flatten
theorem msF.mono {v : Value} {rows : List (List Value)} {ms : List ML} (h : msF F v rows ms) (hs : subF F F') : msF F' v rows ms :=
  ⟨h.rr.mono fun r x hr => hr.mono hs, h.oo.imp id fun ⟨b, c, h1, h2, h3⟩ => ⟨b, c, h1, h2, hs _ _ h3⟩⟩
theorem msF.S {v : Value} {rows : List (List Value)} {ms : List ML} (h : msF F v rows ms) : msR F M v ms := by
  refine ⟨rows, ⟨h.rr.flen, ?_⟩, h.rr.mono fun r x hr => hr.S⟩
  rcases h.oo with ⟨h1, h2⟩ | ⟨b, c, h1, h2, h3⟩
  · exact .inl ⟨none, 0, h1, by rw [h2]; rfl⟩
  · exact .inr ⟨b, 0, c, _, h1, h2, .inl h3, by rw [List.drop_zero, List.take_of_length_le (by rw [h.rr.flen]; exact Nat.le_refl _)]⟩
/-- (*Net).All, whose rows nobody turns any more. -/
theorem allF_c {B g : Nat} {v : Value} {rows : List (List Value)} {ms : List ML} (hw : (Hp.mk F M N).wf) (h : isNet 87 F M B g v rows ms) (hlen : ms.length ≤ 2000)
    (k : ∀ v' F' N' rows', (Hp.mk F' M N').wf → subF F F' → N ≤ N' → msF F' v' rows' ms → K v' ⟨F', M, N'⟩) :
    callv Try.prog (.func (.func 33) #[] #[]) #[.pointer (some ⟨g, 0, none⟩)] K E ⟨F, M, N⟩ :=
  callv_wk (all_c h hlen fun v' M' N' rows' hw' hN hM ho _ => ⟨_, wk_all hw.m hM hw', fun hw2 => k _ _ _ rows' hw2 (subF_frzAll hw') hN ⟨ho.rr.mono fun r x ⟨bv, h1, h2, h3⟩ => ⟨bv, h1, h2.sR.frz hw' fun b hb => .inl (h2.ge b hb), h3⟩, ho.oo.imp id fun ⟨b, c, h1, h2, h3, h5, h6⟩ => ⟨b, c, h1, h2, by simp only [frzAll, if_pos h5, h6]⟩⟩⟩)
theorem flat_take {sz : Nat} : ∀ (rows : List (List Value)) (u : Nat), (∀ r ∈ rows, r.length = sz) → rows.flatten.take (u * sz) = (rows.take u).flatten
  | [], u, _ => by simp
  | r :: rows, 0, _ => by simp
  | r :: rows, u + 1, h => by
    have h1 := h r (by simp)
    rw [List.flatten_cons, List.take_succ_cons, List.flatten_cons, List.take_append, h1, List.take_of_length_le (by rw [h1, Nat.succ_mul]; omega), Nat.succ_mul, Nat.add_sub_cancel, flat_take rows u (fun r hr => h r (by simp [hr]))]
theorem flat_drop {sz : Nat} : ∀ (rows : List (List Value)) (u : Nat), (∀ r ∈ rows, r.length = sz) → rows.flatten.drop (u * sz) = (rows.drop u).flatten
  | [], u, _ => by simp
  | r :: rows, 0, _ => by simp
  | r :: rows, u + 1, h => by
    have h1 := h r (by simp)
    rw [List.flatten_cons, List.drop_succ_cons, List.drop_append, h1, List.drop_eq_nil_of_le (by rw [h1, Nat.succ_mul]; omega), Nat.succ_mul, Nat.add_sub_cancel, flat_drop rows u (fun r hr => h r (by simp [hr])), List.nil_append]
theorem rowsF.take {α : Type} {R : List Value → α → Prop} {sz : Nat} {rows : List (List Value)} {xs : List α} (h : rowsF R sz rows xs) (u : Nat) : rowsF R sz (rows.take u) (xs.take u) :=
  ⟨fun r hr => h.len r (List.mem_of_mem_take hr), fun r hr => h.one r (List.mem_of_mem_take hr), by simp [h.all.1], fun i x y hx hy => by
    rw [List.getElem?_take] at hx hy
    split at hx
    · rename_i hlt; rw [if_pos hlt] at hy; exact h.all.2 i x y hx hy
    · cases hx⟩
theorem rowsF.drop {α : Type} {R : List Value → α → Prop} {sz : Nat} {rows : List (List Value)} {xs : List α} (h : rowsF R sz rows xs) (u : Nat) : rowsF R sz (rows.drop u) (xs.drop u) :=
  ⟨fun r hr => h.len r (List.mem_of_mem_drop hr), fun r hr => h.one r (List.mem_of_mem_drop hr), by simp [h.all.1], fun i x y hx hy => by
    rw [List.getElem?_drop] at hx hy
    exact h.all.2 (u + i) x y hx hy⟩
/-- Some mails more, or none. -/
theorem sentQ.app0 {B n : Nat} {v x : Value} {rows : List (List Value)} {ms news : List ML} {r : List (List Value)} (h : sentQ F M B v rows ms) (hm : ∀ k, N ≤ k → M k = none) (hB : B ≤ N) (hn : news.length = n) (hr : rowsF (mailR F) 3 r news) (hx : sRead ⟨F, M, N⟩ 3 x n r.flatten) (hlen : ms.length + n < 1000000)
    (k : ∀ v' M' N', N ≤ N' → (∀ q, v.ownBlock ≠ some q → q < N → M' q = M q) → (∀ q, v'.ownBlock = some q → (v.ownBlock = some q ∨ N ≤ q) ∧ q < N') → sentQ F M' B v' (rows ++ r) (ms ++ news) → (∀ k, N' ≤ k → M' k = none) → K v' ⟨F, M', N'⟩) : appX 61 3 40 v x K ⟨F, M, N⟩ := by
  have hlt := h.lt hm
  by_cases hn0 : 0 < n
  · exact h.app hm hB hn hn0 hr hx hlen k
  obtain rfl : n = 0 := by omega
  obtain rfl : news = [] := List.eq_nil_of_length_eq_zero hn
  obtain rfl : r = [] := List.eq_nil_of_length_eq_zero hr.all.1
  have hk := k
  simp only [List.append_nil] at hk
  refine app_r0 (m := 0) (news := []) h.ownS hx (by simp) (by omega) (by simp [maxLen]; omega) (fun h1 _ => ?_) (fun _ b c hb hc hcm => ?_)
  · subst h1
    exact hk _ _ _ (Nat.le_refl _) (fun _ _ _ => rfl) (fun q hq => by simp [Value.ownBlock] at hq) h hm
  · rw [List.append_nil]
    have hbB : B ≤ b := by
      rcases hb with hb | hb
      · omega
      · exact (hlt b hb).2
    refine hk _ _ _ (Nat.le_max_left _ _) (fun q hq hqN => ?_) (fun q hq => ?_) ⟨h.rr, .inr ⟨b, c, rfl, hc, hcm, hbB, upd_same _ _ _⟩⟩ (fun q hq => ?_)
    · rw [upd_ne _ _ (fun e => by subst e; rcases hb with hb | hb; omega; exact hq hb), forget_ne _ hq]
    · simp [Value.ownBlock] at hq
      subst hq
      refine ⟨hb.symm.imp id id, by omega⟩
    · rw [upd_ne _ _ (by omega), forget_ne _ (fun e => by have := (hlt q e).1; omega)]
      exact hm q (by omega)
/-- NetLate -/
theorem netLate_c {n : Int} {v0 : Value} {l : List OP} (hn : -9223372036854775808 ≤ n ∧ n ≤ 9223372036854775807) (hv : opsF F v0 l)
    (k : ∀ F' M' N', (Hp.mk F' M' N').wf → K (.bool true) ⟨F', M', N'⟩) : call Try.prog 12 #[v0, .int .i64 n] K E ⟨F, M, N⟩ := by
  refine call_text mixed Try.func12 (by kernel_rfl) (t12 _ E _ _) (fun hw => ?_)
  obtain ⟨a0, c0, hf0, hc0⟩ := hv.form
  subst hf0
  refine heavy_c hv (fun b hb hw1 => ?_)
  cases b with
  | true =>
    refine gd_tf (gd_tf (gd_tf (pv_r rfl (gd_tf (gd_tf (pv_r rfl (cnd_t ?_)))))))
    exact known_c (fun N2 hN2 hw2 hc => ⟨_, wk_refl hc, fun hw' => k _ _ _ hw'⟩)
  | false =>
  have hl := hb rfl
  refine gd_ff (gd_ff (pv_r rfl (gd_ff ?_)))
  refine eql_r (fun h0 => ?_) (fun h0 => ?_)
  · refine pv_r rfl (gd_tf (gd_tf (pv_r rfl (cnd_t ?_))))
    exact known_c (fun N2 hN2 hw2 hc => ⟨_, wk_refl hc, fun hw' => k _ _ _ hw'⟩)
  refine pv_r rfl (gd_ff ?_)
  refine known_c (fun N1 hN1 hw1 => ?_)
  refine gd_ff (pv_r rfl (pv_r rfl (cnd_f ?_)))
  refine new_c hw1.m (fun g N2 h2 hN2 hw2 hg => ?_)
  refine pv_r rfl (cnd_f ?_)
  generalize upd M g (some (.cells 87 [.slice none 0 0] 1)) = M2 at *
  refine l12_1_1_1_1_0_1_0_0 (σ := Nat) (fun s => .int .i64 (s : Nat))
    (fun s h => s ≤ l.length ∧ ∃ F' M' N' v rows, h = ⟨F', M', N'⟩ ∧ subF F F' ∧ N1 ≤ N' ∧ isNet 87 F' M' N1 g v rows ((l.take s).map OP.ml)) (fun s => l.length - s) 0 rfl
    (fun hc => ⟨_, wk_refl hc, Nat.zero_le _, F, M2, N2, _, _, rfl, subF.refl _, hN2, h2⟩) ?_
  rintro k1 i j h ⟨hi, F3, M3, N3, v3, rows3, rfl, hF3, hN3, h3⟩ hw3 next
  simp only at hi ⊢
  refine pv_r rfl ?_
  by_cases hlt : i < l.length
  · obtain ⟨o, ho⟩ : ∃ o, l[i]? = some o := ⟨l[i], by simp [hlt]⟩
    obtain ⟨b, o0, c', cs, vb, e, hF, e0, e1, e2, e3, e4, _, _, hvb, _, _, hbl⟩ := (hv.mono hF3).at ho
    injection e with e _ _
    subst e
    obtain ⟨av, cv, rfl, _⟩ := hvb.form
    refine lss_t (by omega) (cnd_t (iaN_r hlt (pv_r rfl ?_)))
    refine ld_r (ldV_c (row_F hF) e1) (iaN_r hlt (pv_r rfl ?_))
    refine ld_r (ldV_c (row_F hF) e2) (iaN_r hlt (pv_r rfl ?_))
    refine ld_r (ldV_c (row_F hF) e3) ?_
    refine pv_r (v := .agg #[.int .i64 o.f, .int .i64 o.t, .slice av o.b.length cv]) (by kernel_rfl) ?_
    refine send_c h3 hN3 hvb.sR (by omega) (fun h => absurd (by simp; omega) h) (fun _ F4 M4 N4 v4 rows4 hF4 hN4 h4 hfar4 hw4 => ?_)
    refine inc_r (by omega) ?_
    exact next (i + 1) _ _ (by omega) (fun hc => ⟨_, wk_refl hc, by omega, F4, M4, N4, v4, rows4, rfl, hF3.trans hF4, by omega, by rw [take_ml ho]; exact h4⟩)
  obtain rfl : i = l.length := by omega
  refine lss_f (by omega) (cnd_f ?_)
  rw [t12_1_1_1_1_1]
  rw [List.take_length] at h3
  have hlm : (l.map OP.ml).length = l.length := by simp
  refine allF_c hw3 h3 (by omega) (fun v4 F4 N4 rows4 hw4 hF4 hN4 h4 => ?_)
  have hn3 := h3.keep (M' := M3) hF4 fun _ _ => rfl
  rcases h4.oo with ⟨_, e4⟩ | ⟨b4, c4, rfl, hc4, hFb4⟩
  · rw [e4] at hlm; simp at hlm; omega
  obtain ⟨a, ha, ha0, ha1⟩ : ∃ a : Int, (if (0 : Int) > n then (0 : Int) else n) = a ∧ 0 ≤ a ∧ a ≤ 9223372036854775807 := ⟨_, rfl, by split <;> omega, by split <;> omega⟩
  refine pv_r (v := .int .i64 a) (by simp only [mm, if_true, ha]) (pv_r rfl (rem_r (by omega) ?_))
  obtain ⟨q, hq, hql⟩ : ∃ q : Nat, a.tmod ((l.map OP.ml).length : Nat) = q ∧ q < l.length := by
    refine ⟨(a % (l.length : Nat)).toNat, ?_, ?_⟩
    · rw [Int.tmod_eq_emod_of_nonneg ha0, hlm]
      have := Int.emod_nonneg a (b := (l.length : Nat)) (by omega)
      omega
    · have h1 := Int.emod_nonneg a (b := (l.length : Nat)) (by omega)
      have h2 := Int.emod_lt_of_pos a (b := (l.length : Nat)) (by omega)
      omega
  rw [hq]
  refine late_c hn3 (by omega) (by omega) (fun h => absurd (by omega) h) (fun C D m hms hi' F5 M5 N5 v5 rows5 hF5 hN5 h5 hfar5 hw5 => ?_)
  obtain rfl : q = C.length := by omega
  have hlen : (l.map OP.ml).length = C.length + (D.length + 1) := by rw [hms]; simp
  have hCt : (l.map OP.ml).take C.length = C := by rw [hms]; simp
  have hDd : (l.map OP.ml).drop (C.length + 1) = D := by rw [hms]; simp
  have hmm : (l.map OP.ml)[C.length]? = some m := by rw [hms]; exact at_mid C D m
  refine allF_c hw5 h5 (by simp; omega) (fun v6 F6 N6 rows6 hw6 hF6 hN6 h6 => ?_)
  have hn5 := h5.keep (M' := M5) hF6 fun _ _ => rfl
  have h4 := h4.mono (hF5.trans hF6)
  have hFb4 := (hF5.trans hF6) _ _ hFb4
  have hm6 := hw6.m
  have hfl := h4.rr.flen
  obtain ⟨hg5, ho5⟩ := hn5.lt hm6
  -- want = was[:k]
  refine sl_pre C.length (by omega) ?_
  refine sentQ.app0 (n := C.length) (news := C) (r := rows4.take C.length) (B := N1) (⟨rowsF.nil _ _, .inl ⟨rfl, rfl⟩⟩ : sentQ F6 M5 N1 (.slice none 0 0) [] []) hm6 (by omega) rfl (by have := rowsF.take h4.rr C.length; rw [hCt] at this; exact this)
    ⟨by have := (rowsF.take h4.rr C.length).flen; rw [hCt] at this; exact this, .inr ⟨b4, 0, c4, _, rfl, .inr ⟨.inl hFb4, by rw [List.drop_zero]; exact flat_take rows4 C.length h4.rr.len⟩⟩⟩ (by simp; omega) (fun v7 M7 N7 hN7 hM7 hv7 hs7 hm7 => ?_)
  refine inc_r (by omega) (sl_suf (C.length + 1) (by omega) (by omega) ?_)
  refine hs7.app0 (n := (l.map OP.ml).length - (C.length + 1)) (news := D) (r := rows4.drop (C.length + 1)) hm7 (by omega) (by omega) (by have := rowsF.drop h4.rr (C.length + 1); rw [hDd] at this; exact this)
    ⟨by have := (rowsF.drop h4.rr (C.length + 1)).flen; rw [hDd] at this; rw [this]; congr 1; omega, ?_⟩ (by simp; omega) (fun v8 M8 N8 hN8 hM8 hv8 hs8 hm8 => ?_)
  · by_cases hD : D = []
    · subst hD; simp at hlen; exact .inl ⟨_, _, rfl, by omega⟩
    · have : 0 < D.length := List.length_pos_iff.2 hD
      refine .inr ⟨b4, 0 + (C.length + 1) * 3, c4 - (C.length + 1), rows4.flatten, by rw [if_neg (by omega)], .inr ⟨.inl hFb4, ?_⟩⟩
      rw [Nat.zero_add, flat_drop rows4 _ h4.rr.len, List.take_of_length_le]
      have := (rowsF.drop h4.rr (C.length + 1)).flen
      rw [hDd] at this
      rw [this]
      exact Nat.mul_le_mul_right _ (by omega)
  obtain ⟨rm, hrm, ⟨vm, rfl, hvm, hvml⟩, hcut, hcl, _⟩ := h4.rr.get hmm
  refine iaN_r (by omega) ?_
  obtain ⟨am, cm, rfl, _⟩ := hvm.form
  refine ld_r (ldV_a (vs := [.int .i64 m.f, .int .i64 m.t, .slice am m.b.length cm]) (row_F hFb4) (by omega) (by rw [Nat.zero_add]; exact hcut)) ?_
  refine nws_r (cs := [.int .i64 m.f, .int .i64 m.t, .slice am m.b.length cm]) (by kernel_rfl) (fun b9 hb9 => ?_)
  have hs9 : sentQ F6 (upd M8 b9 (some (.cells 61 [.int .i64 m.f, .int .i64 m.t, .slice am m.b.length cm] 3))) N1 v8 _ _ := hs8.keep (subF.refl _) fun q hq => upd_ne _ _ (by have := (hv8 q hq).2; omega)
  refine hs9.app (n := 1) (news := [m]) (r := [[.int .i64 m.f, .int .i64 m.t, .slice am m.b.length cm]]) (fun q hq => (upd_ne _ _ (by omega)).trans (hm8 q (by omega))) (by omega) rfl (by omega)
      ((rowsF.nil _ _).snoc rfl (List.all_eq_true.1 rfl) ⟨_, rfl, hvm, hvml⟩) ⟨rfl, .inr ⟨b9, 0, 1, _, rfl, .inr ⟨.inr ⟨_, _, upd_same _ _ _⟩, rfl⟩⟩⟩ (by simp; omega) (fun v10 M10 N10 hN10 hM10 hv10 hs10 hm10 => ?_)
  have kept : ∀ q, q < N6 → M10 q = M5 q := fun q hq => by
    have h8 : v8.ownBlock ≠ some q := fun he => by
      rcases (hv8 q he).1 with h | h
      · rcases (hv7 q h).1 with h | h
        · simp [Value.ownBlock] at h
        · omega
      · omega
    have h7 : v7.ownBlock ≠ some q := fun he => by
      rcases (hv7 q he).1 with h | h
      · simp [Value.ownBlock] at h
      · omega
    exact (hM10 q h8 (by omega)).trans ((upd_ne _ _ (by omega)).trans ((hM8 q h7 (by omega)).trans (hM7 q (by simp [Value.ownBlock]) hq)))
  have hnew : ∀ q, v10.ownBlock = some q → N6 ≤ q := fun q he => by
    rcases (hv10 q he).1 with h | h
    · rcases (hv8 q h).1 with h | h
      · rcases (hv7 q h).1 with h | h
        · simp [Value.ownBlock] at h
        · omega
      · omega
    · omega
  have hn10 := hn5.keep (M' := M10) (subF.refl _) fun q hq => kept q (by rcases hq with rfl | hq; exact hg5; exact ho5 q hq)
  refine twice_c hn10 (by omega) (fun h => absurd (by simp; omega) h) (fun C' D' m' hms' hi2 _ F11 M11 N11 v11 rows11 hF11 hN11 h11 hfar11 hw11 => ?_)
  have hC' : C'.length = C.length := by omega
  refine allF_c hw11 h11 (by have := congrArg List.length hms'; simp at this ⊢; omega) (fun v12 F12 N12 rows12 hw12 hF12 hN12 h12 => ?_)
  refine gd_tt (pv_r rfl (gd_tt (gd_tt (gd_tt ?_))))
  have hs12 : sentQ F12 M11 N1 v10 _ _ := hs10.keep (hF11.trans hF12) fun q hq => by
    have h1 := hnew q hq
    exact (hfar11 q ⟨by omega, fun he => by have := ho5 q he; omega⟩ (hv10 q hq).2).1
  have hS := hs12.S
  simp only [List.nil_append] at hS
  refine same_c (ms := C ++ D ++ [m]) (h6.mono (hF11.trans hF12)).S hS (by simp; omega) (fun hw13 => ?_)
  have hl12 : (C' ++ m' :: m' :: D').length = (l.map OP.ml).length + 1 := by have := congrArg List.length hms'; simp at this ⊢; omega
  rcases h12.oo with ⟨_, e12⟩ | ⟨b12, c12, rfl, hc12, hFb12⟩
  · simp at e12
  refine pv_r rfl (gd_tt (gd_tt (pv_r rfl (gd_tt (gd_tt (pv_r rfl (gd_tt (inc_r (by omega) (gd_tt (eql_t (by omega) ?_))))))))))
  refine pv_r rfl (gd_tt (gd_tt (gd_tt (gd_tt (inc_r (by omega) (gd_tt (sl_mid C.length (C.length + 1) (by omega) (by omega) (by omega) ?_)))))))
  refine gd_tt (gd_tt (gd_tt (inc_r (by omega) (gd_tt (gd_tt (add2_r (by omega) (gd_tt (sl_mid (C.length + 1) (C.length + 1 + 1) (by omega) (by omega) (by omega) (gd_tt ?_)))))))))
  have hat : (C' ++ m' :: m' :: D')[C.length]? = some m' := by rw [← hC']; exact at_mid C' (m' :: D') m'
  have hat2 : (C' ++ m' :: m' :: D')[C.length + 1]? = some m' := by
    rw [← hC', show C' ++ m' :: m' :: D' = (C' ++ [m']) ++ m' :: D' by simp, show C'.length + 1 = (C' ++ [m']).length by simp]
    exact at_mid (C' ++ [m']) D' m'
  refine same_c (ms := [m']) (h12.S.cut hat (by omega)) (h12.S.cut hat2 (by omega)) (by simp) (fun hw14 => pv_r rfl fun hc => ⟨_, wk_refl hc, fun hw' => k _ _ _ hw'⟩)
theorem NetLate_true (v : Value) (n : Int) {y : List (Int × Int × Int × List Int × Int)} (W : World) (hv : rS 5 opK (F0 W) [v] y) (hn : (Lit.int .i64 n).wf = true) :
    Calls Try.prog 12 #[v, .int .i64 n] W fun e w' => e = .returned (.bool true) ∧ Below W.heap.size W w' :=
  (calls0 (K := fun v => v = .bool true) (netLate_c (wf_i64 hn) (opsF_of hv) fun _ _ _ _ => rfl)).mono fun e w' ⟨⟨v, he, hv⟩, hb⟩ => ⟨by rw [he, hv], hb⟩
end Go.Proofs.Ytjeojnjkmhnepaa.N
