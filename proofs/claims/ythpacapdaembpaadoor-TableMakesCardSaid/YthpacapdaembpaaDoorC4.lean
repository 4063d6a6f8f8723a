import Derived.Test.YthpacapdaembpaaDoorC3
open Go Go.RowKit Go.Proofs.YthpacapdaembpaaDoor.K Go.Proofs.YthpacapdaembpaaDoor.T
set_option linter.unusedVariables false
set_option linter.unusedSimpArgs false
namespace Go.Proofs.YthpacapdaembpaaDoor.A
variable {F F' : Nat → Option (List Value)} {M M' : Nat → Option Chunk} {N N' : Nat} {K : Kont} {E : PanK}
def appK (F : Nat → Option (List Value)) (M : Nat → Option Chunk) (N B n : Nat) (v : Value) (cs out : List Value) (K : Kont) : Prop :=
  ∀ v' M' N', own M' B 5 1 v' (n + out.length) (cs ++ out) → fr M M' N v v' → N ≤ N' → clean M' N' → (Hp.mk F M' N').wf → K v' ⟨F, M', N'⟩
theorem bts_len (l : List Int) : (bts l).length = l.length := by simp [bts]
theorem bts_one (l : List Int) : ∀ c ∈ bts l, c.oneCell' = true := fun c hc => by obtain ⟨x, _, rfl⟩ := List.mem_map.1 hc; rfl
theorem bts_app (l m : List Int) : bts (l ++ m) = bts l ++ bts m := by simp [bts]
theorem au_c {B n u : Nat} {v : Value} {cs : List Value} (h : own M B 5 1 v n cs) (hm : clean M N) (hB : B ≤ N) (hu : u < 18446744073709551616) (hn : n ≤ 1099511627776) (k : appK F M N B n v cs (bts (num u)) K) :
    callv Tryd.prog (.func (.func 115) #[] #[]) #[v, .int .u64 (u : Nat), .int .i64 36] K E ⟨F, M, N⟩ := by
  refine callv_of_text mixed Tryd.func115 (by kernel_rfl) (t115 _ E _ _ _) (fun hw => ?_)
  refine eql_f (by decide) (cnd_f ?_)
  refine fb_c h hm hB hu hn (fun v' M' N' h1 h2 h3 h4 h5 => ?_)
  refine pv_r rfl (pv_r rfl fun hc => ⟨_, wk_refl hc, fun hw' => k v' M' N' (by rw [bts_len]; exact h1) h2 h3 h4 hw'⟩)
theorem num_short {u : Nat} (hu : u < 18446744073709551616) : (num u).length ≤ 13 := num_len 12 u (by omega)
theorem ai_c {B n : Nat} {i : Int} {v : Value} {cs : List Value} (h : own M B 5 1 v n cs) (hm : clean M N) (hB : B ≤ N) (h0 : -9223372036854775808 ≤ i) (h1 : i ≤ 9223372036854775807) (hn : n ≤ 549755813888) (k : appK F M N B n v cs (bts (txt i)) K) :
    callv Tryd.prog (.func (.func 103) #[] #[]) #[v, .int .i64 i, .int .i64 36] K E ⟨F, M, N⟩ := by
  refine callv_of_text mixed Tryd.func103 (by kernel_rfl) (t103 _ E _ _ _) (fun hw => ?_)
  have wr : ∀ x : Int, IntKind.u64.wrap x = x % 18446744073709551616 := fun x => by
    unfold IntKind.wrap
    simp [IntKind.bits, IntKind.signed]
  refine pv_r rfl ?_
  refine lss_r (fun hi => ?_) (fun hi => ?_)
  · refine cnd_t (nws_r (cs := [.int .u8 45]) (by kernel_rfl) (fun b hb => ?_))
    have hbne : v.ownBlock ≠ some b := fun e => by have := h.lt hm b e; omega
    have h2 : own (upd M b (some (.cells 5 [.int .u8 45] [Value.int .u8 45].length))) B 5 1 v n cs := h.keep (fun q hq => upd_ne _ _ (fun e => hbne (e ▸ hq))) (Nat.le_refl _)
    refine h2.app (m := 1) (news := [.int .u8 45]) (hm.new hb _) (by omega) ⟨rfl, .inr ⟨b, 0, 1, _, rfl, Nat.le_refl _, .inr ⟨_, _, upd_same _ _ _⟩, rfl⟩⟩ (List.all_eq_true.1 rfl) (by omega) (by simp [maxLen]; omega) (fun v1 M1 N1 h3 h4 h5 h6 => ?_)
    have e : unV .neg (.int .u64 (IntKind.u64.wrap i)) = some (.int .u64 (i.natAbs : Nat)) := by
      simp only [unV, wr]; congr 2; omega
    refine pv_r e ?_
    rw [t103_1_1_1]
    refine au_c h3 h6 (by omega) (by omega) (by omega) (fun v' M' N' h7 h8 h9 h10 h11 hc => ?_)
    have h12 : fr M (keepM M' (keepV N v')) N v v' := fr_keep fun q hq hqN => by
      obtain ⟨a1, a2⟩ := h4 q hq (by omega)
      obtain ⟨a3, a4⟩ := h8 q a2 (by omega)
      exact ⟨a3.trans (a1.trans (upd_ne _ _ (by omega))), a4⟩
    refine ⟨_, wk_drop hc (keepM_sub _ (keepV N v')), fun hw' => k v' _ N' ?_ h12 (by omega) (keepM_clean h10) hw'⟩
    have e2 : txt i = 45 :: num i.natAbs := by unfold txt; rw [if_pos hi]
    have h13 := h7.trim (N := N)
    rw [e2]
    simpa [bts, Nat.add_assoc, Nat.add_comm] using h13
  · refine cnd_f ?_
    have e : IntKind.u64.wrap i = (i.natAbs : Nat) := by rw [wr]; omega
    rw [e, t103_1_1_1]
    refine au_c h hm hB (by omega) (by omega) (fun v' M' N' h7 h8 h9 h10 h11 hc => ?_)
    have e2 : txt i = num i.natAbs := by unfold txt; rw [if_neg hi]
    exact ⟨_, wk_refl hc, fun hw' => k v' M' N' (by rw [e2]; exact h7) h8 h9 h10 hw'⟩
theorem sai_c {B n : Nat} {i : Int} {v : Value} {cs : List Value} (h : own M B 5 1 v n cs) (hm : clean M N) (hB : B ≤ N) (h0 : -9223372036854775808 ≤ i) (h1 : i ≤ 9223372036854775807) (hn : n ≤ 549755813888) (k : appK F M N B n v cs (bts (txt i)) K) :
    callv Tryd.prog (.func (.func 94) #[] #[]) #[v, .int .i64 i, .int .i64 36] K E ⟨F, M, N⟩ := by
  refine callv_of_text mixed Tryd.func94 (by kernel_rfl) (t94 _ E _ _ _) (fun hw => ?_)
  refine ai_c h hm hB h0 h1 hn (fun v' M' N' h7 h8 h9 h10 h11 hc => ?_)
  exact ⟨_, wk_refl hc, fun hw' => k v' M' N' h7 h8 h9 h10 hw'⟩
def i64 (x : Int) : Prop := -9223372036854775808 ≤ x ∧ x ≤ 9223372036854775807
/-- A key's text as bytes. -/
def txtB (k : List Int) : ByteArray := ⟨((text k).map (fun n => UInt8.ofNat (Int.toNat n))).toArray⟩
theorem dig_b (d : Nat) (h : d < 36) : 0 ≤ dig d ∧ dig d < 256 := by unfold dig; split <;> omega
theorem num_b (u : Nat) : ∀ c ∈ num u, 0 ≤ c ∧ c < 256 := by
  induction u using Nat.strongRecOn with
  | _ u ih =>
    rw [num]
    split
    · rename_i h; intro c hc; simp at hc; subst hc; exact dig_b u h
    · rename_i h
      intro c hc
      rcases List.mem_append.1 hc with h1 | h1
      · exact ih _ (by omega) c h1
      · simp at h1; subst h1; exact dig_b _ (by omega)
theorem text_b (k : List Int) : ∀ c ∈ text k, 0 ≤ c ∧ c < 256 := by
  intro c hc
  simp only [text, List.mem_flatMap] at hc
  obtain ⟨x, _, hx⟩ := hc
  rcases List.mem_append.1 hx with h1 | h1
  · unfold txt at h1
    split at h1
    · rcases List.mem_cons.1 h1 with rfl | h
      · omega
      · exact num_b _ c h
    · exact num_b _ c h1
  · simp at h1; omega
theorem txtB_inj {a b : List Int} (h : txtB a = txtB b) : a = b := by
  apply text_inj
  have h1 : (text a).map (fun n => UInt8.ofNat (Int.toNat n)) = (text b).map (fun n => UInt8.ofNat (Int.toNat n)) := by
    unfold txtB at h
    injection h with h
    simpa using h
  have key : ∀ (x y : List Int), (∀ c ∈ x, 0 ≤ c ∧ c < 256) → (∀ c ∈ y, 0 ≤ c ∧ c < 256) → x.map (fun n => UInt8.ofNat (Int.toNat n)) = y.map (fun n => UInt8.ofNat (Int.toNat n)) → x = y := by
    intro x
    induction x with
    | nil => intro y _ _ h; cases y with | nil => rfl | cons _ _ => simp at h
    | cons p x ih =>
      intro y hx hy h
      cases y with
      | nil => simp at h
      | cons q y =>
        simp only [List.map_cons, List.cons.injEq] at h
        obtain ⟨a1, a2⟩ := hx p (by simp)
        obtain ⟨b1, b2⟩ := hy q (by simp)
        have h3 := congrArg UInt8.toNat h.1
        simp only [UInt8.toNat_ofNat'] at h3
        rw [show p = q by omega, ih y (fun c hc => hx c (by simp [hc])) (fun c hc => hy c (by simp [hc])) h.2]
  exact key _ _ (text_b a) (text_b b) h1
theorem txt_len {i : Int} (h : i64 i) : (txt i).length ≤ 14 := by
  unfold txt
  have := num_short (u := i.natAbs) (by have := h.1; have := h.2; omega)
  split
  · simp; omega
  · omega
theorem text_len : ∀ {l : List Int}, (∀ x ∈ l, i64 x) → (text l).length ≤ 15 * l.length
  | [], _ => by simp [text]
  | x :: l, h => by
    have h1 := text_len (l := l) (fun y hy => h y (by simp [hy]))
    have h2 := txt_len (h x (by simp))
    simp only [text, List.flatMap_cons, List.length_append, List.length_cons, List.length_nil] at h1 ⊢
    omega
theorem text_snoc (l : List Int) (x : Int) : text (l ++ [x]) = text l ++ txt x ++ [32] := by simp [text]
/-- table.text -/
theorem text_c {v : Value} {l : List Int} (hv : sF F 1 v l.length (ic l)) (hl : l.length ≤ 17179869184) (hi : ∀ x ∈ l, i64 x) (k : ∀ N', N ≤ N' → (Hp.mk F M N').wf → K (.string (txtB l)) ⟨F, M, N'⟩) :
    callv Tryd.prog (.func (.func 74) #[] #[]) #[v] K E ⟨F, M, N⟩ := by
  refine callv_of_text mixed Tryd.func74 (by kernel_rfl) (t74 _ E _) (fun hw => ?_)
  have hm : clean M N := hw.m
  obtain ⟨a, c, rfl, hac⟩ := hv.form
  refine len_r ?_
  refine l74_1_1_0_1_0_0 (σ := Nat × Value) (fun s => s.2) (fun s => .int .i64 (s.1 : Nat))
    (fun s h => ∃ M' N', h = ⟨F, M', N'⟩ ∧ N ≤ N' ∧ (∀ q, q < N → M' q = M q) ∧ clean M' N' ∧ s.1 ≤ l.length ∧ own M' N 5 1 s.2 (text (l.take s.1)).length (bts (text (l.take s.1)))) (fun s => l.length - s.1)
    (0, .slice none 0 0) rfl rfl (fun hw1 => ⟨_, wk_refl hw1, _, _, rfl, Nat.le_refl _, fun _ _ => rfl, hm, Nat.zero_le _, own.nil⟩) (fun k1 s j h1 hI hw1 next => ?_)
  obtain ⟨M1, N1, rfl, hN1, hM1, hm1, hs, ho⟩ := hI
  refine lss_r (fun hlt => ?_) (fun hge => ?_)
  · have hlt' : s.1 < l.length := by omega
    obtain ⟨b, o, c', hab, cs, hF, hcl, hcs⟩ := hv.at (by decide) hlt'
    cases hab
    refine cnd_t (iaN_r hlt' ?_)
    have hx : (ic l)[s.1]? = some (.int .i64 l[s.1]) := by simp [ic, hlt']
    refine ld_r (ldV_c (row_F hF) (by rw [Nat.mul_one, hcs s.1 (by omega)]; exact hx)) ?_
    have htk : (text (l.take s.1)).length ≤ 15 * s.1 := by
      have := text_len (l := l.take s.1) (fun x hx => hi x (List.mem_of_mem_take hx))
      rw [List.length_take, Nat.min_eq_left (by omega)] at this; exact this
    have hxi := hi l[s.1] (List.getElem_mem _)
    refine sai_c ho hm1 hN1 hxi.1 hxi.2 (by omega) (fun v2 M2 N2 h2 h3 h4 h5 h6 => ?_)
    refine nws_r (cs := [.int .u8 32]) (by kernel_rfl) (fun b1 hb1 => ?_)
    have h7 : own (upd M2 b1 (some (.cells 5 [.int .u8 32] [Value.int .u8 32].length))) N 5 1 v2 _ _ := h2.keep (fun q hq => upd_ne _ _ (fun e => by have := h2.lt h5 q hq; omega)) (Nat.le_refl _)
    have htx := txt_len hxi
    refine h7.app (m := 1) (news := [.int .u8 32]) (h5.new hb1 _) (by omega) ⟨rfl, .inr ⟨b1, 0, 1, _, rfl, Nat.le_refl _, .inr ⟨_, _, upd_same _ _ _⟩, rfl⟩⟩ (List.all_eq_true.1 rfl) (by rw [bts_len]; omega) (by simp [maxLen, bts_len]; omega) (fun v3 M3 N3 h8 h9 h10 h11 => ?_)
    refine inc_r (by omega) ?_
    refine next (s.1 + 1, v3) _ _ (by simp only; omega) (fun hw2 => ⟨_, wk_refl hw2, M3, N3, rfl, by omega, fun q hq => ?_, h11, by simp only; omega, ?_⟩)
    · have q1 : s.2.ownBlock ≠ some q := fun e => by have := (ho.ge q e).1; omega
      obtain ⟨a1, a2⟩ := h3 q q1 (by omega)
      obtain ⟨a3, a4⟩ := h9 q a2 (by omega)
      exact a3.trans ((upd_ne _ _ (by omega)).trans (a1.trans (hM1 q hq)))
    · simp only
      rw [List.take_add_one, List.getElem?_eq_getElem hlt', Option.toList_some, text_snoc]
      simpa [bts, Nat.add_assoc] using h8
  · refine cnd_f ?_
    rw [t74_1_1_1]
    have e : l.take s.1 = l := List.take_of_length_le (by omega)
    rw [e] at ho
    refine ⟨_, ⟨(text l).length, text l, ho.rd.read, rfl⟩, fun hc => ⟨⟨F, M, N1⟩, wk_drop hc (fun q c hq => ?_), fun hw' => k N1 hN1 hw'⟩⟩
    rw [hM1 q (hm.lt hq)]; exact hq
end Go.Proofs.YthpacapdaembpaaDoor.A
