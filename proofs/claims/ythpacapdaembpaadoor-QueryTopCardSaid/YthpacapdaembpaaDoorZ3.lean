import Derived.Test.YthpacapdaembpaaDoorZ2
import Derived.Shelf.SlSortCmp.InsertionK
import Derived.Shelf.SlLaysF0
import Derived.Ground.SlsfProg
import Derived.Test.YthpacapdaembpaaDoorProg
import Derived.Shelf.SlSortCmp.WholeK
import Derived.Shelf.SlSortCmp.NoneTotal
import Derived.Test.YthpacapdaembpaaDoorZ1
open Go Go.RowKit Go.Proofs.YthpacapdaembpaaDoor.K Go.Proofs.YthpacapdaembpaaDoor.T
set_option linter.unusedVariables false
set_option linter.unusedSimpArgs false
namespace Go.Proofs.YthpacapdaembpaaDoor.A
variable {F F' : Nat → Option (List Value)} {M M' : Nat → Option Chunk} {N N' : Nat} {K : Kont} {E : PanK}
def appK (F : Nat → Option (List Value)) (M : Nat → Option Chunk) (N B n : Nat) (v : Value) (cs out : List Value) (K : Kont) : Prop :=
  ∀ v' M' N', own M' B 5 1 v' (n + out.length) (cs ++ out) → fr M M' N v v' → N ≤ N' → clean M' N' → (Hp.mk F M' N').wf → K v' ⟨F, M', N'⟩
theorem bts_len (l : List Int) : (bts l).length = l.length := by simp [bts]
theorem au_c {B n u : Nat} {v : Value} {cs : List Value} (h : own M B 5 1 v n cs) (hm : clean M N) (hB : B ≤ N) (hu : u < 18446744073709551616) (hn : n ≤ 1099511627776) (k : appK F M N B n v cs (bts (num u)) K) :
    callv Tryd.prog (.func (.func 115) #[] #[]) #[v, .int .u64 (u : Nat), .int .i64 36] K E ⟨F, M, N⟩ := by
  refine callv_of_text mixed Tryd.func115 (by kernel_rfl) (t115 _ E _ _ _) (fun hw => ?_)
  refine eql_f (by decide) (cnd_f ?_)
  refine fb_c h hm hB hu hn (fun v' M' N' h1 h2 h3 h4 h5 => ?_)
  refine pv_r rfl (pv_r rfl fun hc => ⟨_, wk_refl hc, fun hw' => k v' M' N' (by rw [bts_len]; exact h1) h2 h3 h4 hw'⟩)
theorem num_short {u : Nat} (hu : u < 18446744073709551616) : (num u).length ≤ 13 := num_len 12 u (by omega)
theorem ai_c {B n : Nat} {i : Int} {v : Value} {cs : List Value} (h : own M B 5 1 v n cs) (hm : clean M N) (hB : B ≤ N) (h0 : -9223372036854775808 ≤ i) (h1 : i ≤ 9223372036854775807) (hn : n ≤ 549755813888) (k : appK F M N B n v cs (bts (txt i)) K) :
    callv Tryd.prog (.func (.func 103) #[] #[]) #[v, .int .i64 i, .int .i64 36] K E ⟨F, M, N⟩ := by
  refine callv_of_text mixed Tryd.func103 (by kernel_rfl) (t103 _ E _ _ _) (fun hw => ?_)
  have wr : ∀ x : Int, IntKind.u64.wrap x = x % 18446744073709551616 := fun x => by
    unfold IntKind.wrap
    simp [IntKind.bits, IntKind.signed]
  refine pv_r rfl ?_
  refine lss_r (fun hi => ?_) (fun hi => ?_)
  · refine cnd_t (nws_r (cs := [.int .u8 45]) (by kernel_rfl) (fun b hb => ?_))
    have hbne : v.ownBlock ≠ some b := fun e => by have := h.lt hm b e; omega
    have h2 : own (upd M b (some (.cells 5 [.int .u8 45] [Value.int .u8 45].length))) B 5 1 v n cs := h.keep (fun q hq => upd_ne _ _ (fun e => hbne (e ▸ hq))) (Nat.le_refl _)
    refine h2.app (m := 1) (news := [.int .u8 45]) (hm.new hb _) (by omega) ⟨rfl, .inr ⟨b, 0, 1, _, rfl, Nat.le_refl _, .inr ⟨_, _, upd_same _ _ _⟩, rfl⟩⟩ (List.all_eq_true.1 rfl) (by omega) (by simp [maxLen]; omega) (fun v1 M1 N1 h3 h4 h5 h6 => ?_)
    have e : unV .neg (.int .u64 (IntKind.u64.wrap i)) = some (.int .u64 (i.natAbs : Nat)) := by
      simp only [unV, wr]; congr 2; omega
    refine pv_r e ?_
    rw [t103_1_1_1]
    refine au_c h3 h6 (by omega) (by omega) (by omega) (fun v' M' N' h7 h8 h9 h10 h11 hc => ?_)
    have h12 : fr M (keepM M' (keepV N v')) N v v' := fr_keep fun q hq hqN => by
      obtain ⟨a1, a2⟩ := h4 q hq (by omega)
      obtain ⟨a3, a4⟩ := h8 q a2 (by omega)
      exact ⟨a3.trans (a1.trans (upd_ne _ _ (by omega))), a4⟩
    refine ⟨_, wk_drop hc (keepM_sub _ (keepV N v')), fun hw' => k v' _ N' ?_ h12 (by omega) (keepM_clean h10) hw'⟩
    have e2 : txt i = 45 :: num i.natAbs := by unfold txt; rw [if_pos hi]
    have h13 := h7.trim (N := N)
    rw [e2]
    simpa [bts, Nat.add_assoc, Nat.add_comm] using h13
  · refine cnd_f ?_
    have e : IntKind.u64.wrap i = (i.natAbs : Nat) := by rw [wr]; omega
    rw [e, t103_1_1_1]
    refine au_c h hm hB (by omega) (by omega) (fun v' M' N' h7 h8 h9 h10 h11 hc => ?_)
    have e2 : txt i = num i.natAbs := by unfold txt; rw [if_neg hi]
    exact ⟨_, wk_refl hc, fun hw' => k v' M' N' (by rw [e2]; exact h7) h8 h9 h10 hw'⟩
theorem sai_c {B n : Nat} {i : Int} {v : Value} {cs : List Value} (h : own M B 5 1 v n cs) (hm : clean M N) (hB : B ≤ N) (h0 : -9223372036854775808 ≤ i) (h1 : i ≤ 9223372036854775807) (hn : n ≤ 549755813888) (k : appK F M N B n v cs (bts (txt i)) K) :
    callv Tryd.prog (.func (.func 94) #[] #[]) #[v, .int .i64 i, .int .i64 36] K E ⟨F, M, N⟩ := by
  refine callv_of_text mixed Tryd.func94 (by kernel_rfl) (t94 _ E _ _ _) (fun hw => ?_)
  refine ai_c h hm hB h0 h1 hn (fun v' M' N' h7 h8 h9 h10 h11 hc => ?_)
  exact ⟨_, wk_refl hc, fun hw' => k v' M' N' h7 h8 h9 h10 hw'⟩
def i64 (x : Int) : Prop := -9223372036854775808 ≤ x ∧ x ≤ 9223372036854775807
/-- A key's text as bytes. -/
def txtB (k : List Int) : ByteArray := ⟨((text k).map (fun n => UInt8.ofNat (Int.toNat n))).toArray⟩
theorem dig_b (d : Nat) (h : d < 36) : 0 ≤ dig d ∧ dig d < 256 := by unfold dig; split <;> omega
theorem num_b (u : Nat) : ∀ c ∈ num u, 0 ≤ c ∧ c < 256 := by
  induction u using Nat.strongRecOn with
  | _ u ih =>
    rw [num]
    split
    · rename_i h; intro c hc; simp at hc; subst hc; exact dig_b u h
    · rename_i h
      intro c hc
      rcases List.mem_append.1 hc with h1 | h1
      · exact ih _ (by omega) c h1
      · simp at h1; subst h1; exact dig_b _ (by omega)
theorem text_b (k : List Int) : ∀ c ∈ text k, 0 ≤ c ∧ c < 256 := by
  intro c hc
  simp only [text, List.mem_flatMap] at hc
  obtain ⟨x, _, hx⟩ := hc
  rcases List.mem_append.1 hx with h1 | h1
  · unfold txt at h1
    split at h1
    · rcases List.mem_cons.1 h1 with rfl | h
      · omega
      · exact num_b _ c h
    · exact num_b _ c h1
  · simp at h1; omega
theorem txtB_inj {a b : List Int} (h : txtB a = txtB b) : a = b := by
  apply text_inj
  have h1 : (text a).map (fun n => UInt8.ofNat (Int.toNat n)) = (text b).map (fun n => UInt8.ofNat (Int.toNat n)) := by
    unfold txtB at h
    injection h with h
    simpa using h
  have key : ∀ (x y : List Int), (∀ c ∈ x, 0 ≤ c ∧ c < 256) → (∀ c ∈ y, 0 ≤ c ∧ c < 256) → x.map (fun n => UInt8.ofNat (Int.toNat n)) = y.map (fun n => UInt8.ofNat (Int.toNat n)) → x = y := by
    intro x
    induction x with
    | nil => intro y _ _ h; cases y with | nil => rfl | cons _ _ => simp at h
    | cons p x ih =>
      intro y hx hy h
      cases y with
      | nil => simp at h
      | cons q y =>
        simp only [List.map_cons, List.cons.injEq] at h
        obtain ⟨a1, a2⟩ := hx p (by simp)
        obtain ⟨b1, b2⟩ := hy q (by simp)
        have h3 := congrArg UInt8.toNat h.1
        simp only [UInt8.toNat_ofNat'] at h3
        rw [show p = q by omega, ih y (fun c hc => hx c (by simp [hc])) (fun c hc => hy c (by simp [hc])) h.2]
  exact key _ _ (text_b a) (text_b b) h1
theorem txt_len {i : Int} (h : i64 i) : (txt i).length ≤ 14 := by
  unfold txt
  have := num_short (u := i.natAbs) (by have := h.1; have := h.2; omega)
  split
  · simp; omega
  · omega
theorem text_len : ∀ {l : List Int}, (∀ x ∈ l, i64 x) → (text l).length ≤ 15 * l.length
  | [], _ => by simp [text]
  | x :: l, h => by
    have h1 := text_len (l := l) (fun y hy => h y (by simp [hy]))
    have h2 := txt_len (h x (by simp))
    simp only [text, List.flatMap_cons, List.length_append, List.length_cons, List.length_nil] at h1 ⊢
    omega
theorem text_snoc (l : List Int) (x : Int) : text (l ++ [x]) = text l ++ txt x ++ [32] := by simp [text]
/-- table.text -/
theorem text_c {v : Value} {l : List Int} (hv : sF F 1 v l.length (ic l)) (hl : l.length ≤ 17179869184) (hi : ∀ x ∈ l, i64 x) (k : ∀ N', N ≤ N' → (Hp.mk F M N').wf → K (.string (txtB l)) ⟨F, M, N'⟩) :
    callv Tryd.prog (.func (.func 74) #[] #[]) #[v] K E ⟨F, M, N⟩ := by
  refine callv_of_text mixed Tryd.func74 (by kernel_rfl) (t74 _ E _) (fun hw => ?_)
  have hm : clean M N := hw.m
  obtain ⟨a, c, rfl, hac⟩ := hv.form
  refine len_r ?_
  refine l74_1_1_0_1_0_0 (σ := Nat × Value) (fun s => s.2) (fun s => .int .i64 (s.1 : Nat))
    (fun s h => ∃ M' N', h = ⟨F, M', N'⟩ ∧ N ≤ N' ∧ (∀ q, q < N → M' q = M q) ∧ clean M' N' ∧ s.1 ≤ l.length ∧ own M' N 5 1 s.2 (text (l.take s.1)).length (bts (text (l.take s.1)))) (fun s => l.length - s.1)
    (0, .slice none 0 0) rfl rfl (fun hw1 => ⟨_, wk_refl hw1, _, _, rfl, Nat.le_refl _, fun _ _ => rfl, hm, Nat.zero_le _, own.nil⟩) (fun k1 s j h1 hI hw1 next => ?_)
  obtain ⟨M1, N1, rfl, hN1, hM1, hm1, hs, ho⟩ := hI
  refine lss_r (fun hlt => ?_) (fun hge => ?_)
  · have hlt' : s.1 < l.length := by omega
    obtain ⟨b, o, c', hab, cs, hF, hcl, hcs⟩ := hv.at (by decide) hlt'
    cases hab
    refine cnd_t (iaN_r hlt' ?_)
    have hx : (ic l)[s.1]? = some (.int .i64 l[s.1]) := by simp [ic, hlt']
    refine ld_r (ldV_c (row_F hF) (by rw [Nat.mul_one, hcs s.1 (by omega)]; exact hx)) ?_
    have htk : (text (l.take s.1)).length ≤ 15 * s.1 := by
      have := text_len (l := l.take s.1) (fun x hx => hi x (List.mem_of_mem_take hx))
      rw [List.length_take, Nat.min_eq_left (by omega)] at this; exact this
    have hxi := hi l[s.1] (List.getElem_mem _)
    refine sai_c ho hm1 hN1 hxi.1 hxi.2 (by omega) (fun v2 M2 N2 h2 h3 h4 h5 h6 => ?_)
    refine nws_r (cs := [.int .u8 32]) (by kernel_rfl) (fun b1 hb1 => ?_)
    have h7 : own (upd M2 b1 (some (.cells 5 [.int .u8 32] [Value.int .u8 32].length))) N 5 1 v2 _ _ := h2.keep (fun q hq => upd_ne _ _ (fun e => by have := h2.lt h5 q hq; omega)) (Nat.le_refl _)
    have htx := txt_len hxi
    refine h7.app (m := 1) (news := [.int .u8 32]) (h5.new hb1 _) (by omega) ⟨rfl, .inr ⟨b1, 0, 1, _, rfl, Nat.le_refl _, .inr ⟨_, _, upd_same _ _ _⟩, rfl⟩⟩ (List.all_eq_true.1 rfl) (by rw [bts_len]; omega) (by simp [maxLen, bts_len]; omega) (fun v3 M3 N3 h8 h9 h10 h11 => ?_)
    refine inc_r (by omega) ?_
    refine next (s.1 + 1, v3) _ _ (by simp only; omega) (fun hw2 => ⟨_, wk_refl hw2, M3, N3, rfl, by omega, fun q hq => ?_, h11, by simp only; omega, ?_⟩)
    · have q1 : s.2.ownBlock ≠ some q := fun e => by have := (ho.ge q e).1; omega
      obtain ⟨a1, a2⟩ := h3 q q1 (by omega)
      obtain ⟨a3, a4⟩ := h9 q a2 (by omega)
      exact a3.trans ((upd_ne _ _ (by omega)).trans (a1.trans (hM1 q hq)))
    · simp only
      rw [List.take_add_one, List.getElem?_eq_getElem hlt', Option.toList_some, text_snoc]
      simpa [bts, Nat.add_assoc] using h8
  · refine cnd_f ?_
    rw [t74_1_1_1]
    have e : l.take s.1 = l := List.take_of_length_le (by omega)
    rw [e] at ho
    refine ⟨_, ⟨(text l).length, text l, ho.rd.read, rfl⟩, fun hc => ⟨⟨F, M, N1⟩, wk_drop hc (fun q c hq => ?_), fun hw' => k N1 hN1 hw'⟩⟩
    rw [hM1 q (hm.lt hq)]; exact hq
end Go.Proofs.YthpacapdaembpaaDoor.A
open Go Go.RowKit Go.Proofs.YthpacapdaembpaaDoor.K Go.Proofs.YthpacapdaembpaaDoor.T
set_option linter.unusedVariables false
set_option linter.unusedSimpArgs false
namespace Go.Proofs.YthpacapdaembpaaDoor.A
variable {F F' : Nat → Option (List Value)} {M M' : Nat → Option Chunk} {N N' : Nat} {K : Kont} {E : PanK}
/-- cmp.Compare -/
def cmpI (a b : Int) : Int := if a < b then -1 else if a > b then 1 else 0
theorem nan_c {a : Int} {h : Hp} (k : K (.bool false) h) : callv Tryd.prog (.func (.func 121) #[] #[]) #[.int .i64 a] K E h := by
  obtain ⟨F, M, N⟩ := h
  refine callv_of_text mixed Tryd.func121 (by kernel_rfl) (t121 _ E _) (fun hw => ?_)
  exact neq_f rfl fun hc => ⟨_, wk_refl hc, fun _ => k⟩
theorem compare_c {a b : Int} {h : Hp} (k : K (.int .i64 (cmpI a b)) h) : callv Tryd.prog (.func (.func 114) #[] #[]) #[.int .i64 a, .int .i64 b] K E h := by
  obtain ⟨F, M, N⟩ := h
  refine callv_of_text mixed Tryd.func114 (by kernel_rfl) (t114 _ E _ _) (fun hw => ?_)
  refine nan_c (nan_c (cnd_f (cnd_f ?_)))
  refine lss_r (fun h1 => cnd_t fun hc => ⟨_, wk_refl hc, fun _ => ?_⟩) (fun h1 => cnd_f (gtr_r (fun h2 => cnd_t fun hc => ⟨_, wk_refl hc, fun _ => ?_⟩) (fun h2 => cnd_f fun hc => ⟨_, wk_refl hc, fun _ => ?_⟩)))
  · unfold cmpI at k; rw [if_pos h1] at k; exact k
  · unfold cmpI at k; rw [if_neg h1, if_pos h2] at k; exact k
  · unfold cmpI at k; rw [if_neg h1, if_neg h2] at k; exact k
theorem kcmp_at {a b : List Int} {i : Nat} (ha : i < a.length) (hb : i < b.length) : kcmp (a.drop i) (b.drop i) = if cmpI a[i] b[i] = 0 then kcmp (a.drop (i + 1)) (b.drop (i + 1)) else cmpI a[i] b[i] := by
  rw [List.drop_eq_getElem_cons ha, List.drop_eq_getElem_cons hb]
  simp only [kcmp, cmpI]
  split
  · rw [if_neg (by decide)]
  · split
    · rw [if_neg (by decide)]
    · rw [if_pos rfl]
theorem kcmp_end {a b : List Int} {i : Nat} (h : i = min a.length b.length) : kcmp (a.drop i) (b.drop i) = cmpI a.length b.length := by
  unfold cmpI
  rcases Nat.lt_trichotomy a.length b.length with hl | hl | hl
  · rw [if_pos (by omega), List.drop_eq_nil_of_le (by omega), List.drop_eq_getElem_cons (by omega)]; rfl
  · rw [if_neg (by omega), if_neg (by omega), List.drop_eq_nil_of_le (by omega), List.drop_eq_nil_of_le (by omega)]; rfl
  · rw [if_neg (by omega), if_pos (by omega), show b.drop i = [] from List.drop_eq_nil_of_le (by omega), List.drop_eq_getElem_cons (by omega)]; rfl
/-- An element's read. -/
theorem ints_at {v : Value} {l : List Int} (hv : sF F 1 v l.length (ic l)) {i : Nat} (hi : i < l.length) :
    ∃ b o c cs, v = .slice (some ⟨b, o, none⟩) l.length c ∧ F b = some cs ∧ cs[o + i * 1]? = some (.int .i64 l[i]) := by
  obtain ⟨b, o, c, hab, cs, hF, _, hcs⟩ := hv.at (by decide) hi
  exact ⟨b, o, c, cs, hab, hF, by rw [Nat.mul_one, hcs i (by omega)]; simp [ic, hi]⟩
/-- a[i], of numbers. -/
theorem ixn_r {v : Value} {l : List Int} (hv : sF F 1 v l.length (ic l)) {i : Nat} {K : Value → Kont} (hi : i < l.length) (k : ∀ p, K p (.int .i64 l[i]) ⟨F, M, N⟩) :
    pv (iaV none 1 v (.int .i64 (i : Nat))) (fun p => ld false 1 p (K p)) ⟨F, M, N⟩ := by
  obtain ⟨b, o, c, cs, rfl, hF, hc⟩ := ints_at hv hi
  exact iaN_r hi (ld_r (ldV_c (row_F hF) hc) (k _))
theorem lenF_r {v : Value} {sz n : Nat} {cs : List Value} (hv : sF F sz v n cs) {h : Hp} (k : K (.int .i64 n) h) : pv (lenV v) K h := by
  obtain ⟨a, c, rfl, _⟩ := hv.form
  exact len_r k
theorem first_c {u v : Value} {a b : List Int} (hu : sF F 1 u a.length (ic a)) (hv : sF F 1 v b.length (ic b)) (hla : a.length ≤ 9223372036854775807) (k : K (.int .i64 (kcmp a b)) ⟨F, M, N⟩) :
    callv Tryd.prog (.func (.func 99) #[] #[]) #[u, v] K E ⟨F, M, N⟩ := by
  refine callv_of_text mixed Tryd.func99 (by kernel_rfl) (t99 _ E _ _) (fun hw => ?_)
  refine lenF_r hu (lenF_r hv ?_)
  have e : mm false (.int .i64 a.length) (.int .i64 b.length) = some (.int .i64 ((min a.length b.length : Nat) : Int)) := by
    simp only [mm]
    congr 2
    simp only [Bool.false_eq_true, if_false]
    split <;> omega
  refine pv_r e ?_
  refine l99_1_0_1_0_0 (σ := Nat) (fun i => .int .i64 (i : Nat)) (fun i h => h = ⟨F, M, N⟩ ∧ i ≤ min a.length b.length ∧ kcmp a b = kcmp (a.drop i) (b.drop i)) (fun i => min a.length b.length - i) 0 rfl
    (fun hw1 => ⟨_, wk_refl hw1, rfl, Nat.zero_le _, rfl⟩) (fun k1 i j h1 hI hw1 next => ?_)
  obtain ⟨rfl, hi, he⟩ := hI
  refine lss_r (fun hlt => ?_) (fun hge => ?_)
  · have h1 : i < a.length := by omega
    have h2 : i < b.length := by omega
    refine cnd_t (ixn_r hu h1 fun p => ixn_r hv h2 fun p' => compare_c ?_)
    rw [kcmp_at h1 h2] at he
    refine neq_r (fun hn => ?_) (fun hn => ?_)
    · refine cnd_t fun hc => ⟨_, wk_refl hc, fun _ => ?_⟩
      rw [if_neg hn] at he; rw [← he]; exact k
    · refine cnd_f (inc_r (by omega) ?_)
      rw [if_pos (by omega)] at he
      exact next (i + 1) _ _ (by omega) (fun hw2 => ⟨_, wk_refl hw2, rfl, by omega, he⟩)
  · refine cnd_f ?_
    rw [t99_1_1]
    refine lenF_r hu (lenF_r hv (compare_c fun hc => ⟨_, wk_refl hc, fun _ => ?_⟩))
    rw [kcmp_end (by omega)] at he
    rw [← he]; exact k
theorem Cmp_c {u v : Value} {a b : List Int} (hu : sF F 1 u a.length (ic a)) (hv : sF F 1 v b.length (ic b)) (hla : a.length ≤ 9223372036854775807) (k : K (.int .i64 (kcmp a b)) ⟨F, M, N⟩) :
    callv Tryd.prog (.func (.func 81) #[] #[]) #[u, v] K E ⟨F, M, N⟩ := by
  refine callv_of_text mixed Tryd.func81 (by kernel_rfl) (t81 _ E _ _) (fun hw => ?_)
  exact first_c hu hv hla fun hc => ⟨_, wk_refl hc, fun _ => k⟩
/-- A row. -/
def rowD (F : Nat → Option (List Value)) (cs : List Value) (r : Rw) : Prop := ∃ v, cs = v :: r.2.cs ∧ sF F 1 v r.1.length (ic r.1) ∧ r.1.length ≤ 140737488351232
theorem rowD.mono {cs : List Value} {r : Rw} (h : rowD F cs r) (hF : subF F F') : rowD F' cs r := let ⟨v, h1, h2, h3⟩ := h; ⟨v, h1, h2.mono hF, h3⟩
theorem rowD.one {cs : List Value} {r : Rw} (h : rowD F cs r) : cs.length = 5 ∧ ∀ c ∈ cs, c.oneCell' = true := by
  obtain ⟨v, rfl, hv, _⟩ := h
  obtain ⟨a, c, rfl, _⟩ := hv.form
  exact ⟨rfl, List.all_eq_true.1 rfl⟩
theorem less_c {cs ds : List Value} {r q : Rw} (hr : rowD F cs r) (hq : rowD F ds q) (k : ∀ N', N ≤ N' → (Hp.mk F M N').wf → K (.int .i64 (kcmp r.1 q.1)) ⟨F, M, N'⟩) :
    callv Tryd.prog (.func (.func 50) #[] #[]) #[.agg cs.toArray, .agg ds.toArray] K E ⟨F, M, N⟩ := by
  refine callv_of_text mixed Tryd.func50 (by kernel_rfl) (t50 _ E _ _) (fun hw => ?_)
  have hm := hw.m
  obtain ⟨v, rfl, hv, hvl⟩ := hr
  obtain ⟨u, rfl, hu, _⟩ := hq
  refine nw_r (cs := v :: r.2.cs) (fun b1 hb1 => ?_)
  refine nw_r (cs := u :: q.2.cs) (fun b2 hb2 => ?_)
  refine pv_r rfl (ldM (v := v) ?_)
  refine pv_r rfl (ldM (v := u) ?_)
  refine Cmp_c hv hu (by omega) fun hc => ?_
  exact ⟨⟨F, M, b2 + 1⟩, wk_end hc, fun hw' => k _ (by omega) hw'⟩
end Go.Proofs.YthpacapdaembpaaDoor.A
open Go Go.RowKit Go.Proofs.YthpacapdaembpaaDoor.K Go.Proofs.YthpacapdaembpaaDoor.T
set_option linter.unusedVariables false
set_option linter.unusedSimpArgs false
namespace Go.Proofs.YthpacapdaembpaaDoor.A
variable {F F' : Nat → Option (List Value)} {M M' : Nat → Option Chunk} {N N' : Nat} {K : Kont} {E : PanK}
open Go.MapKept
/-- The map has each key's place. -/
def mapOK (es : Array MapEntry) (t : List Rw) : Prop := es.toList.length = t.length ∧ ∀ (i : Nat) (x : MapEntry), es.toList[i]? = some x → ∃ r, t[i]? = some r ∧ x.key = .string (txtB r.1) ∧ x.val = .int .i64 (i : Nat)
theorem mapOK.keys {es : Array MapEntry} {t : List Rw} (h : mapOK es t) : ∀ x ∈ es.toList, IsKey .string x.key := fun x hx => by
  obtain ⟨i, hi, rfl⟩ := List.mem_iff_getElem.1 hx
  obtain ⟨r, _, h2, _⟩ := h.2 i _ (List.getElem?_eq_getElem hi)
  rw [h2]; trivial
theorem mapOK.push {es : Array MapEntry} {t : List Rw} (h : mapOK es t) (r : Rw) (ck : Nat) : mapOK (es.push ⟨.string (txtB r.1), .int .i64 (t.length : Nat), ck⟩) (t ++ [r]) := by
  refine ⟨by simp [← h.1], fun i x hx => ?_⟩
  rw [Array.toList_push] at hx
  rcases Nat.lt_or_ge i es.toList.length with hi | hi
  · rw [List.getElem?_append_left hi] at hx
    obtain ⟨q, h1, h2⟩ := h.2 i x hx
    exact ⟨q, by rw [List.getElem?_append_left (by rw [← h.1]; exact hi)]; exact h1, h2⟩
  · rw [List.getElem?_append_right hi] at hx
    have h0 : i - es.toList.length = 0 := by
      have := (List.getElem?_eq_some_iff.1 hx).1
      simp at this; simpa using this
    rw [h0] at hx
    simp only [List.getElem?_cons_zero, Option.some.injEq] at hx
    have hit : i = t.length := by rw [← h.1]; omega
    subst hx
    exact ⟨r, by rw [hit]; simp, rfl, by rw [hit]⟩
theorem mapOK.set {es : Array MapEntry} {t : List Rw} (h : mapOK es t) {i : Nat} {k : List Int} {c c' : CE} (ht : t[i]? = some (k, c)) : mapOK es (t.set i (k, c')) := by
  refine ⟨by simp [← h.1], fun j x hx => ?_⟩
  obtain ⟨q, h1, h2, h3⟩ := h.2 j x hx
  by_cases hj : i = j
  · subst hj
    rw [ht] at h1; cases h1
    exact ⟨(k, c'), by rw [List.getElem?_set_self (List.getElem?_eq_some_iff.1 ht).1], h2, h3⟩
  · exact ⟨q, by rw [List.getElem?_set_ne hj]; exact h1, h2, h3⟩
/-- A sheet at block g, whose rows are t. -/
structure isSheet (F : Nat → Option (List Value)) (M : Nat → Option Chunk) (B g bm : Nat) (v : Value) (rows : List (List Value)) (t : List Rw) : Prop where
  gg : M g = some (.cells 108 [v, .map (some bm)] 2)
  gB : B ≤ g
  bB : B ≤ bm
  mp : ∃ es clock, M bm = some (.obj (.map es clock)) ∧ mapOK es t
  oo : own M B 43 5 v t.length rows.flatten
  rr : rowsF (rowD F) 5 rows t
  nd : nodup t
theorem isSheet.vg {B g bm : Nat} {v : Value} {rows : List (List Value)} {t : List Rw} (h : isSheet F M B g bm v rows t) : v.ownBlock ≠ some g ∧ v.ownBlock ≠ some bm := by
  obtain ⟨es, clock, hm, _⟩ := h.mp
  rcases h.oo.2 with ⟨rfl, _⟩ | ⟨b, c, rest, rfl, _, _, _, h5⟩
  · simp [Value.ownBlock]
  · simp only [Value.ownBlock, if_true, ne_eq, Option.some.injEq]
    refine ⟨fun e => ?_, fun e => ?_⟩
    · have e' : b = g := by simpa using e
      subst e'; rw [h.gg] at h5; injection h5 with h5; injection h5 with h5; cases h5
    · have e' : b = bm := by simpa using e
      subst e'; rw [hm] at h5; cases h5
theorem isSheet.keep {B g bm : Nat} {v : Value} {rows : List (List Value)} {t : List Rw} (h : isSheet F M B g bm v rows t) (hF : subF F F') (hM : ∀ q, M q ≠ none → M' q = M q) : isSheet F' M' B g bm v rows t := by
  obtain ⟨es, clock, hm, ho⟩ := h.mp
  exact ⟨(hM g (by rw [h.gg]; simp)).trans h.gg, h.gB, h.bB, ⟨es, clock, (hM bm (by rw [hm]; simp)).trans hm, ho⟩, h.oo.keep (fun q hq => hM q (h.oo.ge q hq).2) (Nat.le_refl _), h.rr.mono fun r x hr => hr.mono hF, h.nd⟩
theorem upd_keep (hm : clean M N) {b : Nat} (hb : N ≤ b) (x : Option Chunk) : ∀ q, M q ≠ none → upd M b x q = M q := fun q hq => upd_ne _ _ (fun e => hq (hm q (by omega)))
theorem flat_set {sz : Nat} : ∀ (rows : List (List Value)) (i : Nat) (r : List Value), (∀ r ∈ rows, r.length = sz) → r.length = sz → i < rows.length → splice rows.flatten (i * sz) r = (rows.set i r).flatten
  | [], i, r, _, _, h => by simp at h
  | x :: rows, 0, r, hl, hr, _ => by
    have hx := hl x (by simp)
    simp only [Nat.zero_mul, List.flatten_cons, List.set_cons_zero]
    have := splice_at [] x r rows.flatten (by rw [hx, hr])
    simpa using this
  | x :: rows, i + 1, r, hl, hr, h => by
    have hx := hl x (by simp)
    have ih := flat_set rows i r (fun y hy => hl y (by simp [hy])) hr (by simpa using h)
    simp only [List.flatten_cons, List.set_cons_succ]
    rw [← ih]
    unfold splice
    rw [Nat.succ_mul, show i * sz + sz = x.length + i * sz by omega, List.take_length_add_append, show x.length + i * sz + r.length = x.length + (i * sz + r.length) by omega, List.drop_length_add_append]
    simp
end Go.Proofs.YthpacapdaembpaaDoor.A
open Go Go.RowKit Go.Proofs.YthpacapdaembpaaDoor.K Go.Proofs.YthpacapdaembpaaDoor.T
set_option linter.unusedVariables false
set_option linter.unusedSimpArgs false
namespace Go.Proofs.YthpacapdaembpaaDoor.A
variable {F F' : Nat → Option (List Value)} {M M' : Nat → Option Chunk} {N N' : Nat} {K : Kont} {E : PanK}
open Go.MapKept
theorem und_map : Tryd.prog.underlying 106 = some (.map 9 3) := by kernel_rfl
theorem und_str : Tryd.prog.underlying 9 = some .string := by kernel_rfl
theorem zero_int (w : World) : (zeroValue 3).run Tryd.prog w = .ok (.int .i64 0) w := by kernel_rfl
theorem splice_app {a b vs : List Value} {o : Nat} (h : o + vs.length ≤ a.length) : splice (a ++ b) o vs = splice a o vs ++ b := by
  unfold splice
  rw [List.take_append_of_le_length (by omega), List.drop_append_of_le_length (by omega)]
  simp
theorem splice_tail {l : List Value} {o : Nat} {x : Value} {vs : List Value} (hx : l[o]? = some x) (h : o + 1 + vs.length ≤ l.length) : splice l (o + 1) vs = splice l o (x :: vs) := by
  rw [splice_cons (by simp; omega)]
  congr 1
  obtain ⟨h1, h2⟩ := List.getElem?_eq_some_iff.1 hx
  rw [← h2, List.set_getElem_self]
/-- (*sheet).lay -/
theorem lay_c {B g bm : Nat} {v kv : Value} {rows : List (List Value)} {t : List Rw} {key : List Int} {c : CE} (h : isSheet F M B g bm v rows t) (hm : clean M N) (hB : B ≤ N) (hkv : sF F 1 kv key.length (ic key)) (hkl : key.length ≤ 17179869184) (hki : ∀ x ∈ key, i64 x) (ht : t.length ≤ 1099511627776)
    (k : ∀ F' M' N' v' rows', subF F F' → N ≤ N' → isSheet F' M' B g bm v' rows' (layP t key c) → (∀ q, q < B → M' q = M q) → clean M' N' → (Hp.mk F' M' N').wf → K (.tuple #[]) ⟨F', M', N'⟩) :
    callv Tryd.prog (.func (.func 45) #[] #[]) #[.pointer (some ⟨g, 0, none⟩), kv, .agg c.cs.toArray] K E ⟨F, M, N⟩ := by
  refine callv_of_text mixed Tryd.func45 (by kernel_rfl) (t45 _ E _ _ _) (fun hw => ?_)
  refine nw_r (cs := c.cs) (fun b1 hb1 => ?_)
  refine text_c hkv hkl hki (fun N1 hN1 hw1 => ?_)
  have hm1 : clean (upd M b1 (some (.cells 41 c.cs c.cs.length))) N1 := hw1.m
  have h1 : isSheet F (upd M b1 (some (.cells 41 c.cs c.cs.length))) B g bm v rows t := h.keep (subF.refl _) (upd_keep hm hb1 _)
  have hb1M : (upd M b1 (some (.cells 41 c.cs c.cs.length))) b1 = some (.cells 41 c.cs c.cs.length) := upd_same _ _ _
  have hM1 : ∀ q, q < B → (upd M b1 (some (.cells 41 c.cs c.cs.length))) q = M q := fun q hq => upd_ne _ _ (by omega)
  have hb1v : v.ownBlock ≠ some b1 := fun e => by have := h.oo.lt hm b1 e; omega
  have hgb1 : g ≠ b1 := fun e => by have := hm.lt h.gg; omega
  have hmb1 : bm ≠ b1 := fun e => by obtain ⟨es, ck, hx, _⟩ := h.mp; have := hm.lt hx; omega
  have hb1N := hm1.lt hb1M
  generalize upd M b1 (some (.cells 41 c.cs c.cs.length)) = M1 at *
  have hgg := h1.gg
  obtain ⟨es, clock, hmp, hmo⟩ := h1.mp
  have hfl := h1.rr.flen
  refine pv_r rfl (pv_r rfl (ldM ?_))
  refine lk_r und_map und_str zero_int (d := .string) trivial hmo.keys hmp (fun hmiss => ?_) (fun j x hj hx => ?_)
  · have hno : ∀ r ∈ t, r.1 ≠ key := fun r hr e => by
      obtain ⟨i, hi, rfl⟩ := List.mem_iff_getElem.1 hr
      have hil : i < es.toList.length := by rw [hmo.1]; exact hi
      obtain ⟨q, h2, h3, _⟩ := hmo.2 i _ (List.getElem?_eq_getElem hil)
      rw [List.getElem?_eq_getElem hi] at h2; cases h2
      exact hmiss _ (List.getElem_mem hil) (by rw [h3, e])
    rw [layP_miss hno] at k
    refine pv_r rfl (pv_r rfl (cnd_f ?_))
    refine pv_r rfl (pv_r rfl (ldM ?_))
    refine pv_r rfl (pv_r rfl (ldM ?_))
    obtain ⟨av, cv, hvf, hvc⟩ := h1.oo.form
    rw [hvf]
    refine len_r ?_
    refine mu_r und_map und_str (d := .string) trivial hmo.keys hmp (fun _ => ?_) (fun j x hj hx => (hmiss x (List.mem_of_getElem? hj) hx).elim)
    have hne : bm ≠ g := fun e => by rw [e, hgg] at hmp; cases hmp
    have hm2 := hm1.set (hm1.lt hmp) (some (.obj (.map (es.push ⟨.string (txtB key), .int .i64 (t.length : Nat), clock⟩) (clock + 1))))
    have hmo2 := hmo.push (key, c) clock
    generalize hes : es.push ⟨.string (txtB key), .int .i64 (t.length : Nat), clock⟩ = es2 at *
    generalize hM2 : upd M1 bm (some (.obj (.map es2 (clock + 1)))) = M2 at *
    have hgg2 : M2 g = some (.cells 108 [v, .map (some bm)] 2) := by rw [← hM2]; exact (upd_ne _ _ (Ne.symm hne)).trans hgg
    have hb2 : M2 b1 = some (.cells 41 c.cs c.cs.length) := by rw [← hM2]; exact (upd_ne _ _ (Ne.symm hmb1)).trans hb1M
    have ho2 : own M2 B 43 5 v t.length rows.flatten := h1.oo.keep (fun q hq => by rw [← hM2]; exact upd_ne _ _ (fun e => h1.vg.2 (e ▸ hq))) (Nat.le_refl _)
    refine pv_r rfl (pv_r rfl (ldM ?_))
    refine ldMa (vs := c.cs) ?_
    refine clone_f hm2 hkv.sR (by omega) (fun kv' F' N2 hw2 hF hN2 hkv' => ?_)
    obtain ⟨ak, ck, rfl, hck⟩ := hkv'.form
    refine ⟨ldV_a (row_M hb2) (by exact Nat.le_of_ble_eq_true rfl) rfl, ldV_c (row_M hgg2) rfl, ?_⟩
    refine pv_r (v := .agg (.slice ak key.length ck :: c.cs).toArray) (by kernel_rfl) ?_
    refine nws_r (cs := .slice ak key.length ck :: c.cs) (by kernel_rfl) (fun b3 hb3 => ?_)
    have hm2' := hm2.up hN2
    have hgN := hm2'.lt hgg2
    have hg3 : g ≠ b3 := by omega
    refine ⟨ldV_c (row_M ((upd_ne _ _ hg3).trans hgg2)) rfl, ?_⟩
    have ho3 : own (upd M2 b3 (some (.cells 43 (.slice ak key.length ck :: c.cs) (Value.slice ak key.length ck :: c.cs).length))) B 43 5 v t.length rows.flatten := ho2.keep (fun q hq => upd_ne _ _ (fun e => by have := ho2.lt hm2' q hq; omega)) (Nat.le_refl _)
    refine ho3.app (m := 1) (news := .slice ak key.length ck :: c.cs) (hm2'.new hb3 _) (by omega) ⟨rfl, .inr ⟨b3, 0, 1, _, rfl, Nat.le_refl _, .inr ⟨_, _, upd_same _ _ _⟩, rfl⟩⟩ (List.all_eq_true.1 rfl) (by omega) (by simp [maxLen]; omega) (fun v' M3 N3 h4 h5 h6 h7 => ?_)
    have hgg3 : M3 g = some (.cells 108 [v, .map (some bm)] 2) := ((h5 g h1.vg.1 (by omega)).1).trans ((upd_ne _ _ hg3).trans hgg2)
    have hbmN : bm < N2 := hm2'.lt (b := bm) (by rw [← hM2, upd_same])
    have hbm3 : M3 bm = some (.obj (.map es2 (clock + 1))) := ((h5 bm h1.vg.2 (by omega)).1).trans ((upd_ne _ _ (by omega)).trans (by rw [← hM2, upd_same]))
    refine pv_r rfl (pv_r rfl ?_)
    refine stM (cs' := [v', .map (some bm)]) ?_ hgg3 (by obtain ⟨a, c, rfl, _⟩ := h4.form; rfl) (by obtain ⟨a, c, rfl, _⟩ := h4.form; rfl) (by obtain ⟨a, c, rfl, _⟩ := h4.form; exact List.all_eq_true.1 rfl)
    have hv'g := (h5 g h1.vg.1 (by omega)).2
    have hv'm := (h5 bm h1.vg.2 (by omega)).2
    refine fun hc => ⟨_, wk_refl hc, fun hw' => k _ _ _ v' (rows ++ [.slice ak key.length ck :: c.cs]) hF (by omega) ⟨upd_same _ _ _, h1.gB, h1.bB, ⟨es2, _, (upd_ne _ _ hne).trans hbm3, hmo2⟩, ?_, ?_, ?_⟩ (fun q hq => ?_) (h7.set (by omega) _) hw'⟩
    · have h8 : own (upd M3 g (some (.cells 108 [v', .map (some bm)] 2))) B 43 5 v' (t.length + 1) (rows.flatten ++ .slice ak key.length ck :: c.cs) := h4.keep (fun q hq => upd_ne _ _ (fun e => hv'g (e ▸ hq))) (Nat.le_refl _)
      simpa using h8
    · have hr1 : rowD F' (.slice ak key.length ck :: c.cs) (key, c) := ⟨_, rfl, hkv', by simp only; omega⟩
      exact (h1.rr.mono fun r x hr => hr.mono hF).snoc hr1.one.1 hr1.one.2 hr1
    · rw [← layP_miss hno]; exact layP_nodup h.nd
    · have q1 : v.ownBlock ≠ some q := fun e => by have := (h1.oo.ge q e).1; omega
      have hgB := h1.gB
      have hbB := h1.bB
      rw [upd_ne _ _ (by omega), (h5 q q1 (by omega)).1, upd_ne _ _ (by omega), ← hM2, upd_ne _ _ (by omega)]; exact hM1 q hq
  · obtain ⟨⟨key', c'⟩, htj, hxk, hxv⟩ := hmo.2 j x hj
    have hkk : key' = key := by
      rw [hxk] at hx
      injection hx with hx
      exact txtB_inj hx
    subst hkk
    rw [layP_hit h.nd htj] at k
    rw [hxv]
    refine pv_r rfl (pv_r rfl (cnd_t ?_))
    have hjt := (List.getElem?_eq_some_iff.1 htj).1
    obtain ⟨row, hrow, ⟨kv1, hrw, hkv1, hkvl⟩, hread, hle, hrl⟩ := h1.rr.get htj
    simp only at hrw
    subst hrw
    obtain ⟨hol, ho⟩ := h1.oo
    rcases ho with ⟨_, h0⟩ | ⟨b, cp, rest, rfl, hlc, hcm, hbB, hMb⟩
    · omega
    have hbg : b ≠ g := fun e => h1.vg.1 (by rw [e]; rfl)
    have hbm' : b ≠ bm := fun e => h1.vg.2 (by rw [e]; rfl)
    have hlen : j * 5 + 5 ≤ rows.flatten.length := hle
    have hget : ∀ i, i < 5 → rows.flatten[j * 5 + i]? = (kv1 :: c'.cs)[i]? := fun i hi => by
      rw [← hread, List.getElem?_take, if_pos hi, List.getElem?_drop]
    refine pv_r rfl (pv_r rfl (ldM (v := .slice (some ⟨b, 0, none⟩) t.length cp) ?_))
    refine pv_r rfl (pv_r rfl (ldM (v := .slice (some ⟨b, 0, none⟩) t.length cp) ?_))
    refine iaN_r hjt (pv_r rfl ?_)
    refine ld_r (ldV_a (vs := c'.cs) (row_M hMb) (by rw [List.length_append]; omega) ?_) ?_
    · have e : (0 + j * 5 + 1) = j * 5 + 1 := by omega
      rw [e, List.drop_append_of_le_length (by omega), List.take_append_of_le_length (by rw [List.length_drop]; omega)]
      have h3 := congrArg (List.drop 1) hread
      rw [List.drop_take, List.drop_drop] at h3
      simpa using h3
    refine ldMa (vs := c.cs) ?_
    refine merge_c (fun N2 hN2 hw2 => ?_)
    refine ⟨ldV_c (row_M hgg) rfl, ?_⟩
    refine iaN_r hjt (pv_r rfl ?_)
    refine stM (cs' := (rows.set j (kv1 :: (c'.merge c).cs)).flatten ++ rest) ?_ hMb ?_ rfl (List.all_eq_true.1 rfl) (by rw [List.length_append]; omega)
    · refine fun hc => ⟨_, wk_refl hc, fun hw' => k _ _ _ (.slice (some ⟨b, 0, none⟩) t.length cp) (rows.set j (kv1 :: (c'.merge c).cs)) (subF.refl _) (by omega) ⟨(upd_ne _ _ (Ne.symm hbg)).trans hgg, h1.gB, h1.bB, ⟨es, clock, (upd_ne _ _ (Ne.symm hbm')).trans hmp, hmo.set htj⟩, ?_, ?_, ?_⟩ (fun q hq => (upd_ne _ _ (by omega)).trans (hM1 q hq)) hw'.m hw'⟩
      · refine ⟨?_, .inr ⟨b, cp, rest, by simp, by simpa using hlc, hcm, hbB, upd_same _ _ _⟩⟩
        rw [flatten_len (sz := 5)]
        · simp [h1.rr.all.1]
        · intro r hr
          rcases List.mem_or_eq_of_mem_set hr with hr | rfl
          · exact h1.rr.len r hr
          · rfl
      · have hr1 : rowD F (kv1 :: (c'.merge c).cs) (key', c'.merge c) := ⟨kv1, rfl, hkv1, hkvl⟩
        refine ⟨fun r hr => ?_, fun r hr => ?_, by simp [h1.rr.all.1], fun i r x hr hx => ?_⟩
        · rcases List.mem_or_eq_of_mem_set hr with hr | rfl
          · exact h1.rr.len r hr
          · rfl
        · rcases List.mem_or_eq_of_mem_set hr with hr | rfl
          · exact h1.rr.one r hr
          · exact hr1.one.2
        · by_cases hij : j = i
          · subst hij
            have hjr : j < rows.length := by rw [h1.rr.all.1]; exact hjt
            rw [List.getElem?_set_self hjr] at hr
            rw [List.getElem?_set_self hjt] at hx
            cases hr; cases hx; exact hr1
          · rw [List.getElem?_set_ne hij] at hr hx
            exact h1.rr.all.2 i r x hr hx
      · rw [← layP_hit h.nd htj]; exact layP_nodup h.nd
    · have e : (0 + j * 5 + 1) = j * 5 + 1 := by omega
      have hjr : j < rows.length := by rw [h1.rr.all.1]; exact hjt
      rw [e]
      show splice (rows.flatten ++ rest) (j * 5 + 1) (c'.merge c).cs = _
      have h4 : (c'.merge c).cs.length = 4 := rfl
      rw [splice_app (by omega), splice_tail (x := kv1) (by have := hget 0 (by decide); simpa using this) (by omega), flat_set rows j _ h1.rr.len rfl hjr]
end Go.Proofs.YthpacapdaembpaaDoor.A
open Go Go.RowKit Go.Proofs.YthpacapdaembpaaDoor.K Go.Proofs.YthpacapdaembpaaDoor.T
set_option linter.unusedVariables false
set_option linter.unusedSimpArgs false
namespace Go.Proofs.YthpacapdaembpaaDoor.A
variable {F F' : Nat → Option (List Value)} {M M' : Nat → Option Chunk} {N N' : Nat} {K : Kont} {E : PanK}
open Go.Sort hiding Below
theorem flat_at {sz : Nat} {rows : List (List Value)} (hl : ∀ r ∈ rows, r.length = sz) {i j : Nat} {r : List Value} (hi : rows[i]? = some r) (hj : j < sz) : rows.flatten[i * sz + j]? = r[j]? := by
  have h := flatten_take rows i r hl hi
  rw [← h, List.getElem?_take, if_pos hj, List.getElem?_drop]
/-- From a world that has moved on: blocks behind it, and draws. -/
theorem below_grow {W w' : World} (h : Below W.heap.size W w') (hd : W.drawn ≤ w'.drawn) : ∃ q os', w' = grow (W.drewN q) os' := by
  refine ⟨w'.drawn - W.drawn, w'.heap.extract W.heap.size w'.heap.size, ?_⟩
  have hh : w'.heap = W.heap ++ w'.heap.extract W.heap.size w'.heap.size := by
    apply Array.ext_getElem?
    intro k
    have hs := h.size
    rw [Array.getElem?_append]
    split
    · rename_i hk; exact h.block k hk
    · rename_i hk
      rw [Array.getElem?_extract]
      split
      · rw [show W.heap.size + (k - W.heap.size) = k by omega]
      · exact Array.getElem?_eq_none (by omega)
  obtain ⟨hp, tp, dr, os, out⟩ := w'
  simp only at hh hd
  have h1 := h.os; have h2 := h.tape; have h3 := h.output
  simp only at h1 h2 h3
  unfold grow World.drewN
  subst h1 h2 h3
  rw [← hh]
  congr 1
  simp only; omega
theorem sF_world {W : World} (hF : ∀ bk cs, F bk = some cs → ∃ arr e z, W.heap[bk]? = some (.cells arr e z) ∧ cs <+: arr.toList) {sz m : Nat} {v : Value} {cells : List Value} (h : sF F sz v m cells) : sF (F0 W) sz v m cells := by
  refine ⟨h.1, h.2.imp id fun ⟨b, o, c, cs, h1, h2, h3, h4⟩ => ?_⟩
  obtain ⟨arr, e, z, h5, h6⟩ := hF b cs h3
  refine ⟨b, o, c, arr.toList, h1, h2, by simp [F0, h5], ?_⟩
  obtain ⟨t, ht⟩ := h6
  rw [← ht]
  have hl := congrArg List.length h4
  rw [List.length_take, List.length_drop, h.1] at hl
  rcases Nat.eq_zero_or_pos (m * sz) with h0 | h0
  · rw [← h4, h0]; simp
  · rw [List.drop_append_of_le_length (by omega), List.take_append_of_le_length (by rw [List.length_drop]; omega)]; exact h4
theorem less_call {cs ds : List Value} {r q : Rw} (hr : rowD F cs r) (hq : rowD F ds q) (k : ∀ N', K (.int .i64 (kcmp r.1 q.1)) ⟨F, M, N'⟩) :
    call Tryd.prog 50 #[.agg cs.toArray, .agg ds.toArray] K E ⟨F, M, N⟩ := by
  refine call_text mixed Tryd.func50 (by kernel_rfl) (t50 _ E _ _) (fun hw => ?_)
  have hm := hw.m
  obtain ⟨v, rfl, hv, hvl⟩ := hr
  obtain ⟨u, rfl, hu, _⟩ := hq
  refine nw_r (cs := v :: r.2.cs) (fun b1 hb1 => ?_)
  refine nw_r (cs := u :: q.2.cs) (fun b2 hb2 => ?_)
  refine pv_r rfl (ldM (v := v) ?_)
  refine pv_r rfl (ldM (v := u) ?_)
  refine Cmp_c hv hu (by omega) fun hc => ?_
  exact ⟨⟨F, M, b2 + 1⟩, wk_end hc, fun hw' => k _⟩
/-- A row with its cells. -/
abbrev RowE (F : Nat → Option (List Value)) := { x : List Value × Rw // rowD F x.1 x.2 }
theorem rows_E : ∀ (rows : List (List Value)) (t : List Rw), rowsF (rowD F) 5 rows t → ∃ d : List (RowE F), d.map (·.1.1) = rows ∧ d.map (·.1.2) = t
  | [], [], _ => ⟨[], rfl, rfl⟩
  | [], _ :: _, h => by have := h.all.1; simp at this
  | _ :: _, [], h => by have := h.all.1; simp at this
  | r :: rows, x :: t, h => by
    obtain ⟨d, h1, h2⟩ := rows_E rows t ⟨fun r hr => h.len r (by simp [hr]), fun r hr => h.one r (by simp [hr]), by have := h.all.1; simp at this; exact this, fun i r x hr hx => h.all.2 (i + 1) r x (by simpa using hr) (by simpa using hx)⟩
    exact ⟨⟨(r, x), h.all.2 0 r x rfl rfl⟩ :: d, by simp [h1], by simp [h2]⟩
theorem E_rows (d : List (RowE F)) : rowsF (rowD F) 5 (d.map (·.1.1)) (d.map (·.1.2)) := by
  refine ⟨fun r hr => ?_, fun r hr => ?_, by simp, fun i r x hr hx => ?_⟩
  · obtain ⟨x, _, rfl⟩ := List.mem_map.1 hr; exact x.2.one.1
  · obtain ⟨x, _, rfl⟩ := List.mem_map.1 hr; exact x.2.one.2
  · rw [List.getElem?_map] at hr hx
    cases hd : d[i]? with
    | none => rw [hd] at hr; simp at hr
    | some y => rw [hd] at hr hx; simp at hr hx; subst hr; subst hx; exact y.2
theorem swo_cmp : SWO (ltOf fun (x y : RowE F) => kcmp x.1.2.1 y.1.2.1) := by
  refine ⟨fun x => by simp [ltOf, kcmp_self], fun x y z h1 h2 => ?_, fun x y z h1 h2 => ?_⟩
  · simp only [ltOf, decide_eq_true_eq] at h1 h2 ⊢
    exact kcmp_trans h1 h2
  · simp only [ltOf, decide_eq_false_iff_not] at h1 h2 ⊢
    intro h3
    have e1 := kcmp_neg x.1.2.1 y.1.2.1
    have e2 := kcmp_neg y.1.2.1 z.1.2.1
    rcases Int.lt_or_eq_of_le (show 0 ≤ kcmp x.1.2.1 y.1.2.1 by omega) with h4 | h4
    · have h5 : kcmp y.1.2.1 x.1.2.1 < 0 := by omega
      have := kcmp_trans h5 h3
      omega
    · have := kcmp_eq h4.symm
      rw [this] at h3
      omega
end Go.Proofs.YthpacapdaembpaaDoor.A
open Go Go.RowKit Go.Proofs.YthpacapdaembpaaDoor.K Go.Proofs.YthpacapdaembpaaDoor.T
set_option linter.unusedVariables false
set_option linter.unusedSimpArgs false
namespace Go.Proofs.YthpacapdaembpaaDoor.A
variable {F F' : Nat → Option (List Value)} {M M' : Nat → Option Chunk} {N N' : Nat} {K : Kont} {E : PanK}
open Go.Sort hiding Below
section
variable {α : Type} [Inhabited α] {enc : α → List Value} {kk n off : Nat} {w : World} {blk q : Nat} {d : Array α} {os : Array Obj}
theorem sw_other (hq : q ≠ blk) (hl : q < w.heap.size) : (sortWorldK enc kk w blk off n d os).heap[q]? = w.heap[q]? := by
  unfold sortWorldK putRowK putRow mapBlock grow Sort.ahead
  simp only
  rw [Array.getElem?_append_left (by simpa using hl), Array.getElem?_modify, if_neg (fun e => hq e.symm)]
theorem sw_at {arr : Array Value} {e : TypeId} {z : Nat × Nat} (h : w.heap[blk]? = some (.cells arr e z)) : (sortWorldK enc kk w blk off n d os).heap[blk]? = some (.cells (putCells id off (flatK enc kk d) arr) e z) := by
  have hl : blk < w.heap.size := (Array.getElem?_eq_some_iff.1 h).1
  unfold sortWorldK putRowK putRow mapBlock grow Sort.ahead
  simp only
  rw [Array.getElem?_append_left (by simpa using hl), Array.getElem?_modify, if_pos rfl, h]
  rfl
theorem sw_size : w.heap.size ≤ (sortWorldK enc kk w blk off n d os).heap.size := by
  unfold sortWorldK putRowK putRow mapBlock grow Sort.ahead
  simp
end
/-- The cells of rows, by place. -/
theorem flatK_rows (d : List (RowE F)) [Inhabited (RowE F)] (j : Nat) (hj : j < d.length * 5) : (flatK (fun x : RowE F => x.1.1) 5 d.toArray)[j]? = (d.map (·.1.1)).flatten[j]? := by
  have h5 : j / 5 < d.length := by omega
  have hz : j < d.toArray.size * 5 := by simpa using hj
  have e1 : (flatK (fun x : RowE F => x.1.1) 5 d.toArray)[j]? = some ((flatK (fun x : RowE F => x.1.1) 5 d.toArray)[j]!) := by
    rw [getElem!_def, Array.getElem?_eq_getElem (by simpa using hj)]
  rw [e1, get_flatK _ _ _ _ hz]
  have hr := E_rows d
  have hg : (d.map (·.1.1))[j / 5]? = some (d[j / 5].1.1) := by simp [h5]
  have h6 := flat_at hr.len hg (Nat.mod_lt j (by decide : 0 < 5))
  rw [show j / 5 * 5 + j % 5 = j by omega] at h6
  rw [h6]
  have e2 : d.toArray[j / 5]! = d[j / 5] := by rw [getElem!_def]; simp [h5]
  rw [e2]
  have hl : (d[j / 5].1.1).length = 5 := d[j / 5].2.one.1
  rw [List.getElem?_eq_getElem (by omega), getElem!_def, List.getElem?_eq_getElem (by omega)]
theorem flatK_toList (d : List (RowE F)) [Inhabited (RowE F)] : (flatK (fun x : RowE F => x.1.1) 5 d.toArray).toList = (d.map (·.1.1)).flatten := by
  have hl := flatten_len (d.map (·.1.1)) (E_rows d).len
  apply List.ext_getElem?
  intro j
  rw [Array.getElem?_toList]
  rcases Nat.lt_or_ge j (d.length * 5) with h | h
  · exact flatK_rows d j h
  · rw [Array.getElem?_eq_none (by simpa using h), List.getElem?_eq_none (by rw [hl]; simpa using h)]
/-- The row's cells behind the sort. -/
theorem put_prefix {a b rest : List Value} {B arr : Array Value} (hb : B.toList = b) (hab : a.length = b.length) (h : a ++ rest <+: arr.toList) : b ++ rest <+: (putCells id 0 B arr).toList := by
  have hsz : B.size = b.length := by rw [← hb]; simp
  obtain ⟨t, ht⟩ := h
  have hlen := congrArg List.length ht
  simp only [List.length_append, Array.length_toList] at hlen
  refine ⟨t, ?_⟩
  apply List.ext_getElem?
  intro i
  refine Eq.trans ?_ (Array.getElem?_toList).symm
  unfold putCells
  rw [Array.getElem?_mapIdx]
  rcases Nat.lt_or_ge i b.length with hi | hi
  · rw [List.append_assoc, List.getElem?_append_left hi, Array.getElem?_eq_getElem (by omega)]
    simp only [Option.map_some]
    rw [if_pos ⟨Nat.zero_le _, by omega⟩]
    have : B[i]? = b[i]? := by rw [← hb, Array.getElem?_toList]
    rw [← this, getElem!_def, Array.getElem?_eq_getElem (by omega)]
    simp [hsz, hi]
  · have e : arr[i]? = (a ++ rest ++ t)[i]? := by rw [ht, Array.getElem?_toList]
    have e2 : (a ++ rest ++ t)[i]? = (rest ++ t)[i - b.length]? := by rw [List.append_assoc, List.getElem?_append_right (by omega), hab]
    rw [List.append_assoc, List.getElem?_append_right hi, e, e2]
    cases hx : (rest ++ t)[i - b.length]? with
    | none => rfl
    | some v => simp only [Option.map_some]; rw [if_neg (by omega)]
end Go.Proofs.YthpacapdaembpaaDoor.A
open Go Go.RowKit Go.Proofs.YthpacapdaembpaaDoor.K Go.Proofs.YthpacapdaembpaaDoor.T
set_option linter.unusedVariables false
set_option linter.unusedSimpArgs false
namespace Go.Proofs.YthpacapdaembpaaDoor.A
variable {F F' : Nat → Option (List Value)} {M M' : Nat → Option Chunk} {N N' : Nat} {K : Kont} {E : PanK}
/-- What lies at an element's place. -/
theorem row_at {α : Type} {R : List Value → α → Prop} {sz : Nat} {v : Value} {l : List α} {rows : List (List Value)} (hv : sF F sz v l.length rows.flatten) (hr : rowsF R sz rows l) (hz : 0 < sz) {i : Nat} (hi : i < l.length) :
    ∃ b o c cs r, v = .slice (some ⟨b, o, none⟩) l.length c ∧ F b = some cs ∧ rows[i]? = some r ∧ R r l[i] ∧ r.length = sz ∧ (∀ x ∈ r, x.oneCell' = true) ∧ o + i * sz + sz ≤ cs.length ∧ (cs.drop (o + i * sz)).take sz = r ∧ ∀ j, j < sz → cs[o + i * sz + j]? = r[j]? := by
  obtain ⟨b, o, c, hab, cs, hF, hle, hcs⟩ := hv.at hz hi
  obtain ⟨r, h1, h2, h3, h4, h5⟩ := hr.get (List.getElem?_eq_getElem hi)
  have hfl := hr.flen
  have hj : ∀ j, j < sz → cs[o + i * sz + j]? = r[j]? := fun j hj => by
    rw [Nat.add_assoc, hcs (i * sz + j) (by rw [hfl] at h4; omega), ← h3, List.getElem?_take, if_pos hj, List.getElem?_drop]
  refine ⟨b, o, c, cs, r, hab, hF, h1, h2, h5, hr.one r (List.mem_of_getElem? h1), by rw [hfl] at h4; omega, ?_, hj⟩
  apply List.ext_getElem?
  intro j
  rw [List.getElem?_take]
  split
  · rename_i h; rw [List.getElem?_drop]; exact hj j h
  · rw [List.getElem?_eq_none (by omega)]
/-- An element is read, whole. -/
theorem row_r {α : Type} {R : List Value → α → Prop} {sz : Nat} {v : Value} {l : List α} {rows : List (List Value)} {K : Value → Kont} (hv : sF F sz v l.length rows.flatten) (hr : rowsF R sz rows l) (hz : 0 < sz) {i : Nat} (hi : i < l.length)
    (k : ∀ p r, rows[i]? = some r → R r l[i] → r.length = sz → (∀ x ∈ r, x.oneCell' = true) → K p (.agg r.toArray) ⟨F, M, N⟩) : pv (iaV none sz v (.int .i64 (i : Nat))) (fun p => ld true sz p (K p)) ⟨F, M, N⟩ := by
  obtain ⟨b, o, c, cs, r, rfl, hF, hrr, hR, hl, h1, hle, ht, _⟩ := row_at hv hr hz hi
  exact iaN_r hi (ld_r (ldV_a (row_F hF) hle ht) (k _ r hrr hR hl h1))
/-- A cell of an element is read. -/
theorem fld_r {α : Type} {R : List Value → α → Prop} {sz : Nat} {v : Value} {l : List α} {rows : List (List Value)} {K : Value → Value → Kont} (hv : sF F sz v l.length rows.flatten) (hr : rowsF R sz rows l) (hz : 0 < sz) {i : Nat} (hi : i < l.length) {off : Nat} (ho : off < sz)
    (k : ∀ p q r x, R r l[i] → r.length = sz → r[off]? = some x → K p q x ⟨F, M, N⟩) : pv (iaV none sz v (.int .i64 (i : Nat))) (fun p => pv (faV off p) fun q => ld false 1 q (K p q)) ⟨F, M, N⟩ := by
  obtain ⟨b, o, c, cs, r, rfl, hF, _, hR, hl, h1, hle, ht, hj⟩ := row_at hv hr hz hi
  have hx : r[off]? = some (r[off]'(by omega)) := List.getElem?_eq_getElem _
  exact iaN_r hi (pv_r rfl (ld_r (ldV_c (row_F hF) ((hj off ho).trans hx)) (k _ _ r _ hR hl hx)))
/-- A table. -/
def tblD (F : Nat → Option (List Value)) (v : Value) (t : List Rw) : Prop := ∃ rows, sF F 5 v t.length rows.flatten ∧ rowsF (rowD F) 5 rows t
theorem tblD.mono {v : Value} {t : List Rw} (h : tblD F v t) (hF : subF F F') : tblD F' v t := let ⟨rows, h1, h2⟩ := h; ⟨rows, h1.mono hF, h2.mono fun _ _ hr => hr.mono hF⟩
theorem tblD.form {v : Value} {t : List Rw} (h : tblD F v t) : ∃ a c, v = .slice a t.length c := let ⟨rows, h1, _⟩ := h; let ⟨a, c, h2, _⟩ := h1.form; ⟨a, c, h2⟩
theorem tblD.nil {c : Nat} : tblD F (.slice none 0 c) [] := ⟨[], sF.nil _ _ _, rowsF.nil _ _⟩
abbrev Fc := List Int × Int
def fctD (F : Nat → Option (List Value)) (cs : List Value) (f : Fc) : Prop := ∃ v, cs = [v, .int .i64 f.2] ∧ sF F 1 v f.1.length (ic f.1) ∧ f.1.length ≤ 140737488351232
theorem fctD.mono {cs : List Value} {f : Fc} (h : fctD F cs f) (hF : subF F F') : fctD F' cs f := let ⟨v, h1, h2, h3⟩ := h; ⟨v, h1, h2.mono hF, h3⟩
theorem fctD.one {cs : List Value} {r : Fc} (h : fctD F cs r) : cs.length = 2 ∧ ∀ c ∈ cs, c.oneCell' = true := by
  obtain ⟨v, rfl, hv, _⟩ := h
  obtain ⟨a, c, rfl, _⟩ := hv.form
  exact ⟨rfl, List.all_eq_true.1 rfl⟩
def fctsD (F : Nat → Option (List Value)) (v : Value) (l : List Fc) : Prop := ∃ rows, sF F 2 v l.length rows.flatten ∧ rowsF (fctD F) 2 rows l
theorem fctsD.mono {v : Value} {t : List Fc} (h : fctsD F v t) (hF : subF F F') : fctsD F' v t := let ⟨rows, h1, h2⟩ := h; ⟨rows, h1.mono hF, h2.mono fun _ _ hr => hr.mono hF⟩
/-- A key that a text can have. -/
def okK (k : List Int) : Prop := k.length ≤ 10000000000 ∧ ∀ x ∈ k, i64 x
def ofC (v : Int) : CE := ⟨1, v, v, v⟩
/-- What a call's own rows come to when nobody turns them any more. -/
theorem tbl_frz {v : Value} {t : List Rw} {rows : List (List Value)} (hc : (Hp.mk F M' N').wf) (ho : own M' N 43 5 v t.length rows.flatten) (hr : rowsF (rowD F) 5 rows t) : tblD (frzAll F M' N) v t :=
  ⟨rows, ho.rd.frz hc (fun b hb => .inl (ho.ge b hb).1), hr.mono fun _ _ h => h.mono (subF_frzAll hc)⟩
theorem frz_wf (hm : clean M N) (hk : ∀ q, q < N → M' q = M q) (hc : (Hp.mk F M' N').wf) : (Hp.mk F M' N').wk ⟨frzAll F M' N, M, N'⟩ := wk_all hm hk hc
/-- Some cells of an element are read. -/
theorem fldA_r {α : Type} {R : List Value → α → Prop} {sz : Nat} {v : Value} {l : List α} {rows : List (List Value)} {K : Value → Value → Kont} (hv : sF F sz v l.length rows.flatten) (hr : rowsF R sz rows l) (hz : 0 < sz) {i : Nat} (hi : i < l.length) {off n : Nat} (ho : off + n ≤ sz)
    (k : ∀ p q r, R r l[i] → r.length = sz → K p q (.agg ((r.drop off).take n).toArray) ⟨F, M, N⟩) : pv (iaV none sz v (.int .i64 (i : Nat))) (fun p => pv (faV off p) fun q => ld true n q (K p q)) ⟨F, M, N⟩ := by
  obtain ⟨b, o, c, cs, r, rfl, hF, _, hR, hl, h1, hle, ht, hj⟩ := row_at hv hr hz hi
  refine iaN_r hi (pv_r rfl (ld_r (ldV_a (row_F hF) (by omega) ?_) (k _ _ r hR hl)))
  apply List.ext_getElem?
  intro j
  rw [List.getElem?_take, List.getElem?_take, List.getElem?_drop, List.getElem?_drop]
  split
  · rw [show o + i * sz + off + j = o + i * sz + (off + j) by omega, hj _ (by omega)]
  · rfl
theorem key_r {v : Value} {t : List Rw} {rows : List (List Value)} {K : Value → Value → Kont} (hv : sF F 5 v t.length rows.flatten) (hr : rowsF (rowD F) 5 rows t) {i : Nat} (hi : i < t.length)
    (k : ∀ p q kv, sF F 1 kv t[i].1.length (ic t[i].1) → t[i].1.length ≤ 140737488351232 → K p q kv ⟨F, M, N⟩) : pv (iaV none 5 v (.int .i64 (i : Nat))) (fun p => pv (faV 0 p) fun q => ld false 1 q (K p q)) ⟨F, M, N⟩ :=
  fld_r hv hr (by decide) hi (by decide) fun p q r x hR _ hx => by
    obtain ⟨kv, rfl, h1, h2⟩ := hR
    simp at hx; subst hx
    exact k p q _ h1 h2
theorem cell_r {v : Value} {t : List Rw} {rows : List (List Value)} {K : Value → Value → Kont} (hv : sF F 5 v t.length rows.flatten) (hr : rowsF (rowD F) 5 rows t) {i : Nat} (hi : i < t.length)
    (k : ∀ p q, K p q (.agg t[i].2.cs.toArray) ⟨F, M, N⟩) : pv (iaV none 5 v (.int .i64 (i : Nat))) (fun p => pv (faV 1 p) fun q => ld true 4 q (K p q)) ⟨F, M, N⟩ :=
  fldA_r hv hr (by decide) hi (by decide) fun p q r hR _ => by
    obtain ⟨kv, rfl, h1, h2⟩ := hR
    exact k p q
end Go.Proofs.YthpacapdaembpaaDoor.A
open Go Go.RowKit Go.Proofs.YthpacapdaembpaaDoor.K Go.Proofs.YthpacapdaembpaaDoor.T
set_option linter.unusedVariables false
set_option linter.unusedSimpArgs false
namespace Go.Proofs.YthpacapdaembpaaDoor.A
variable {F F' : Nat → Option (List Value)} {M M' : Nat → Option Chunk} {N N' : Nat} {K : Kont} {E : PanK}
/-- Cmp, of the reference -/
theorem rCmp_c {u v : Value} {a b : List Int} (hu : sF F 1 u a.length (ic a)) (hv : sF F 1 v b.length (ic b)) (hla : a.length ≤ 140737488351232) (k : K (.int .i64 (kcmp a b)) ⟨F, M, N⟩) :
    callv Tryd.prog (.func (.func 30) #[] #[]) #[u, v] K E ⟨F, M, N⟩ := by
  refine callv_of_text mixed Tryd.func30 (by kernel_rfl) (t30 _ E _ _) (fun hw => ?_)
  obtain ⟨ua, uc, rfl, _⟩ := hu.form
  obtain ⟨va, vc, rfl, _⟩ := hv.form
  refine l30_1_0_1_0_0 (σ := Nat) (fun i => .int .i64 (i : Nat)) (fun i h => h = ⟨F, M, N⟩ ∧ i ≤ min a.length b.length ∧ kcmp a b = kcmp (a.drop i) (b.drop i)) (fun i => min a.length b.length - i) 0 rfl
    (fun hw1 => ⟨_, wk_refl hw1, rfl, Nat.zero_le _, rfl⟩) (fun k1 i j h1 hI hw1 next => ?_)
  obtain ⟨rfl, hi, he⟩ := hI
  have fin : i = min a.length b.length → kcmp a b = cmpI a.length b.length := fun h => by rw [he, kcmp_end h]
  have tail : i = min a.length b.length → ∀ (X : Kont), (∀ v, v = kcmp a b → X (.int .i64 v) ⟨F, M, N⟩) → pv (binV .none .lss (.int .i64 (a.length : Nat)) (.int .i64 (b.length : Nat))) (fun t3 => cnd t3 (X (.int .i64 (-1))) (pv (binV .none .gtr (.int .i64 (a.length : Nat)) (.int .i64 (b.length : Nat))) fun t6 => cnd t6 (X (.int .i64 1)) (X (.int .i64 0)))) ⟨F, M, N⟩ := by
    intro hi X hX
    have := fin hi
    unfold cmpI at this
    refine lss_r (fun h => cnd_t (hX _ ?_)) (fun h => cnd_f (gtr_r (fun h' => cnd_t (hX _ ?_)) (fun h' => cnd_f (hX _ ?_))))
    · rw [this, if_pos h]
    · rw [this, if_neg h, if_pos h']
    · rw [this, if_neg h, if_neg h']
  try simp only [gdTT, gdFF, gdTF, gdFT, pvS, pickT, pickF, faP, lenS, capS, nilP, exA, exB, exC, notB, cndT, cndF, Bool.not_true, Bool.not_false, Nat.zero_add, Nat.add_zero]
  refine lss_r (fun hlt => ?_) (fun hge => ?_)
  · try simp only [gdTT, gdFF, gdTF, gdFT, pvS, pickT, pickF, faP, lenS, capS, nilP, exA, exB, exC, notB, cndT, cndF, Bool.not_true, Bool.not_false, Nat.zero_add, Nat.add_zero]
    refine lss_r (fun hlt2 => ?_) (fun hge2 => ?_)
    · try simp only [gdTT, gdFF, gdTF, gdFT, pvS, pickT, pickF, faP, lenS, capS, nilP, exA, exB, exC, notB, cndT, cndF, Bool.not_true, Bool.not_false, Nat.zero_add, Nat.add_zero]
      have h1 : i < a.length := by omega
      have h2 : i < b.length := by omega
      rw [kcmp_at h1 h2] at he
      refine ixn_r hu h1 fun p1 => ixn_r hv h2 fun p2 => ?_
      refine lss_r (fun h => ?_) (fun h => ?_)
      · try simp only [gdTT, gdFF, gdTF, gdFT, pvS, pickT, pickF, faP, lenS, capS, nilP, exA, exB, exC, notB, cndT, cndF, Bool.not_true, Bool.not_false, Nat.zero_add, Nat.add_zero]
        refine fun hc => ⟨_, wk_refl hc, fun _ => ?_⟩
        unfold cmpI at he
        rw [if_pos h, if_neg (by decide)] at he; rw [← he]; exact k
      · try simp only [gdTT, gdFF, gdTF, gdFT, pvS, pickT, pickF, faP, lenS, capS, nilP, exA, exB, exC, notB, cndT, cndF, Bool.not_true, Bool.not_false, Nat.zero_add, Nat.add_zero]
        refine ixn_r hu h1 fun p1 => ixn_r hv h2 fun p2 => ?_
        refine gtr_r (fun h' => ?_) (fun h' => ?_)
        · try simp only [gdTT, gdFF, gdTF, gdFT, pvS, pickT, pickF, faP, lenS, capS, nilP, exA, exB, exC, notB, cndT, cndF, Bool.not_true, Bool.not_false, Nat.zero_add, Nat.add_zero]
          refine fun hc => ⟨_, wk_refl hc, fun _ => ?_⟩
          unfold cmpI at he
          rw [if_neg h, if_pos h', if_neg (by decide)] at he; rw [← he]; exact k
        · try simp only [gdTT, gdFF, gdTF, gdFT, pvS, pickT, pickF, faP, lenS, capS, nilP, exA, exB, exC, notB, cndT, cndF, Bool.not_true, Bool.not_false, Nat.zero_add, Nat.add_zero]
          refine inc_r (by omega) ?_
          have h0 : cmpI a[i] b[i] = 0 := by unfold cmpI; rw [if_neg h, if_neg h']
          rw [if_pos h0] at he
          exact next (i + 1) _ _ (by omega) (fun hw2 => ⟨_, wk_refl hw2, rfl, by omega, he⟩)
    · try simp only [gdTT, gdFF, gdTF, gdFT, pvS, pickT, pickF, faP, lenS, capS, nilP, exA, exB, exC, notB, cndT, cndF, Bool.not_true, Bool.not_false, Nat.zero_add, Nat.add_zero]
      rw [t30_1_1]
      try simp only [gdTT, gdFF, gdTF, gdFT, pvS, pickT, pickF, faP, lenS, capS, nilP, exA, exB, exC, notB, cndT, cndF, Bool.not_true, Bool.not_false, Nat.zero_add, Nat.add_zero]
      refine tail (by omega) (fun v h => h.wf → ∃ h', h.wk h' ∧ (h'.wf → K v h')) (fun v e hc => ⟨_, wk_refl hc, fun _ => by rw [e]; exact k⟩)
  · try simp only [gdTT, gdFF, gdTF, gdFT, pvS, pickT, pickF, faP, lenS, capS, nilP, exA, exB, exC, notB, cndT, cndF, Bool.not_true, Bool.not_false, Nat.zero_add, Nat.add_zero]
    rw [t30_1_1]
    try simp only [gdTT, gdFF, gdTF, gdFT, pvS, pickT, pickF, faP, lenS, capS, nilP, exA, exB, exC, notB, cndT, cndF, Bool.not_true, Bool.not_false, Nat.zero_add, Nat.add_zero]
    refine tail (by omega) (fun v h => h.wf → ∃ h', h.wk h' ∧ (h'.wf → K v h')) (fun v e hc => ⟨_, wk_refl hc, fun _ => by rw [e]; exact k⟩)
/-- ints, of the reference: a copy, that nobody turns. -/
theorem ints_c {v : Value} {l : List Int} (hm0 : clean M N) (hv : sR F M 1 v l.length (ic l)) (hl : l.length ≤ 10000000000000)
    (k : ∀ v' F' N', (Hp.mk F' M N').wf → subF F F' → N ≤ N' → sF F' 1 v' l.length (ic l) → K v' ⟨F', M, N'⟩) : callv Tryd.prog (.func (.func 82) #[] #[]) #[v] K E ⟨F, M, N⟩ := by
  refine callv_of_text mixed Tryd.func82 (by kernel_rfl) (t82 _ E _) (fun hw => ?_)
  refine own.app (B := N) own.nil hm0 (Nat.le_refl _) hv (ints_one _) (by omega) (by simp [maxLen]; omega) (fun v' M' N' h1 h2 h3 h4 hc => ?_)
  have hMM : ∀ q, q < N → M' q = M q := fun q hq => (h2 q (by simp [Value.ownBlock]) hq).1
  refine ⟨_, frz_wf hm0 hMM hc, fun hw' => k v' _ N' hw' (subF_frzAll hc) (by omega) ?_⟩
  have := h1.rd.frz hc (fun b hb => .inl (h1.ge b hb).1)
  simpa using this
theorem neqc_r {a b : CE} {h : Hp} (k : K (.bool (!decide (a = b))) h) : pv (eqCells .neq [0, 0, 0, 0] (.agg a.cs.toArray) (.agg b.cs.toArray)) K h := by
  refine ⟨_, ?_, k⟩
  obtain ⟨a1, a2, a3, a4⟩ := a
  obtain ⟨b1, b2, b3, b4⟩ := b
  simp only [eqCells, CE.cs]
  have hd : ∀ x y : Int, (x == y) = decide (x = y) := fun _ _ => rfl
  by_cases h1 : a1 = b1 <;> by_cases h2 : a2 = b2 <;> by_cases h3 : a3 = b3 <;> by_cases h4 : a4 = b4 <;> simp [flatVs, flatV, hd, h1, h2, h3, h4]
/-- Same, of the reference -/
theorem same_c {u v : Value} {a b : List Rw} (hu : tblD F u a) (hv : tblD F v b) (hla : a.length ≤ 140737488351232) (k : K (.bool (decide (a = b))) ⟨F, M, N⟩) :
    callv Tryd.prog (.func (.func 24) #[] #[]) #[u, v] K E ⟨F, M, N⟩ := by
  refine callv_of_text mixed Tryd.func24 (by kernel_rfl) (t24 _ E _ _) (fun hw => ?_)
  obtain ⟨ru, hu1, hu2⟩ := hu
  obtain ⟨rv, hv1, hv2⟩ := hv
  have hlen := hu1
  obtain ⟨ua, uc, rfl, huc⟩ := hu1.form
  obtain ⟨va, vc, rfl, _⟩ := hv1.form
  try simp only [gdTT, gdFF, gdTF, gdFT, pvS, pickT, pickF, faP, lenS, capS, nilP, exA, exB, exC, notB, cndT, cndF, Bool.not_true, Bool.not_false, Nat.zero_add, Nat.add_zero]
  refine neq_r (fun hne => ?_) (fun hne => ?_)
  · try simp only [gdTT, gdFF, gdTF, gdFT, pvS, pickT, pickF, faP, lenS, capS, nilP, exA, exB, exC, notB, cndT, cndF, Bool.not_true, Bool.not_false, Nat.zero_add, Nat.add_zero]
    have e : ¬ a = b := fun e => hne (by rw [e])
    rw [decide_eq_false e] at k
    exact fun hc => ⟨_, wk_refl hc, fun _ => k⟩
  have hab : a.length = b.length := by omega
  try simp only [gdTT, gdFF, gdTF, gdFT, pvS, pickT, pickF, faP, lenS, capS, nilP, exA, exB, exC, notB, cndT, cndF, Bool.not_true, Bool.not_false, Nat.zero_add, Nat.add_zero]
  refine l24_1_1_0_1_0_0 (σ := Nat) (fun i => .int .i64 (i : Nat)) (fun i h => h = ⟨F, M, N⟩ ∧ i ≤ a.length ∧ a.take i = b.take i) (fun i => a.length - i) 0 rfl
    (fun hw1 => ⟨_, wk_refl hw1, rfl, Nat.zero_le _, rfl⟩) (fun k1 i j h1 hI hw1 next => ?_)
  obtain ⟨rfl, hi, he⟩ := hI
  have no : ∀ (h1 : i < a.length) (h2 : i < b.length), a[i] ≠ b[i] → decide (a = b) = false := fun h1 h2 hn => decide_eq_false fun e => by subst e; exact hn rfl
  try simp only [gdTT, gdFF, gdTF, gdFT, pvS, pickT, pickF, faP, lenS, capS, nilP, exA, exB, exC, notB, cndT, cndF, Bool.not_true, Bool.not_false, Nat.zero_add, Nat.add_zero]
  refine lss_r (fun hlt => ?_) (fun hge => ?_)
  · try simp only [gdTT, gdFF, gdTF, gdFT, pvS, pickT, pickF, faP, lenS, capS, nilP, exA, exB, exC, notB, cndT, cndF, Bool.not_true, Bool.not_false, Nat.zero_add, Nat.add_zero]
    have h1 : i < a.length := by omega
    have h2 : i < b.length := by omega
    refine key_r hu1 hu2 h1 fun p q kv hkv hkl => key_r hv1 hv2 h2 fun p' q' kv' hkv' hkl' => ?_
    refine rCmp_c hkv hkv' hkl ?_
    refine neq_r (fun hn => ?_) (fun hn => ?_)
    · try simp only [gdTT, gdFF, gdTF, gdFT, pvS, pickT, pickF, faP, lenS, capS, nilP, exA, exB, exC, notB, cndT, cndF, Bool.not_true, Bool.not_false, Nat.zero_add, Nat.add_zero]
      rw [no h1 h2 (fun e => hn (by rw [e, kcmp_self]))] at k
      exact fun hc => ⟨_, wk_refl hc, fun _ => k⟩
    · try simp only [gdTT, gdFF, gdTF, gdFT, pvS, pickT, pickF, faP, lenS, capS, nilP, exA, exB, exC, notB, cndT, cndF, Bool.not_true, Bool.not_false, Nat.zero_add, Nat.add_zero]
      refine cell_r hu1 hu2 h1 fun p q => cell_r hv1 hv2 h2 fun p' q' => ?_
      have hk := kcmp_eq (show kcmp a[i].1 b[i].1 = 0 by omega)
      refine neqc_r ?_
      by_cases hcc : a[i].2 = b[i].2
      · rw [decide_eq_true hcc]
        try simp only [gdTT, gdFF, gdTF, gdFT, pvS, pickT, pickF, faP, lenS, capS, nilP, exA, exB, exC, notB, cndT, cndF, Bool.not_true, Bool.not_false, Nat.zero_add, Nat.add_zero]
        refine inc_r (by omega) ?_
        refine next (i + 1) _ _ (by omega) (fun hw2 => ⟨_, wk_refl hw2, rfl, by omega, ?_⟩)
        rw [List.take_add_one, List.take_add_one, he, List.getElem?_eq_getElem h1, List.getElem?_eq_getElem h2, show a[i] = b[i] from Prod.ext hk hcc]
      · rw [decide_eq_false hcc]
        try simp only [gdTT, gdFF, gdTF, gdFT, pvS, pickT, pickF, faP, lenS, capS, nilP, exA, exB, exC, notB, cndT, cndF, Bool.not_true, Bool.not_false, Nat.zero_add, Nat.add_zero]
        rw [no h1 h2 (fun e => hcc (by rw [e]))] at k
        exact fun hc => ⟨_, wk_refl hc, fun _ => k⟩
  · try simp only [gdTT, gdFF, gdTF, gdFT, pvS, pickT, pickF, faP, lenS, capS, nilP, exA, exB, exC, notB, cndT, cndF, Bool.not_true, Bool.not_false, Nat.zero_add, Nat.add_zero]
    rw [t24_1_1_1]
    rw [List.take_of_length_le (by omega), List.take_of_length_le (by omega)] at he
    rw [decide_eq_true he] at k
    exact fun hc => ⟨_, wk_refl hc, fun _ => k⟩
end Go.Proofs.YthpacapdaembpaaDoor.A
open Go Go.RowKit Go.Proofs.YthpacapdaembpaaDoor.K Go.Proofs.YthpacapdaembpaaDoor.T
set_option linter.unusedVariables false
set_option linter.unusedSimpArgs false
namespace Go.Proofs.YthpacapdaembpaaDoor.A
variable {F F' : Nat → Option (List Value)} {M M' : Nat → Option Chunk} {N N' : Nat} {K : Kont} {E : PanK}
theorem layR_take : ∀ (t : List Rw) (k : List Int) (c : CE) (i : Nat), (∀ x ∈ t.take i, kcmp x.1 k < 0) → layR t k c = t.take i ++ layR (t.drop i) k c
  | [], k, c, i, _ => by simp
  | (k1, c1) :: t, k, c, 0, _ => by simp
  | (k1, c1) :: t, k, c, i + 1, h => by
    have h1 : kcmp k1 k < 0 := h (k1, c1) (by simp)
    have := layR_take t k c i (fun x hx => h x (by simp [hx]))
    simp [layR, h1, this]
theorem row_cells {kv : Value} {c : CE} {key : List Int} (hkv : sF F 1 kv key.length (ic key)) : (kv :: c.cs).length = 5 ∧ (∀ x ∈ kv :: c.cs, x.oneCell' = true) := by
  obtain ⟨a, n, rfl, _⟩ := hkv.form
  exact ⟨rfl, List.all_eq_true.1 rfl⟩
theorem rows_app {α : Type} {R : List Value → α → Prop} {sz : Nat} {r1 r2 : List (List Value)} {x1 x2 : List α} (h1 : rowsF R sz r1 x1) (h2 : rowsF R sz r2 x2) : rowsF R sz (r1 ++ r2) (x1 ++ x2) := by
  refine ⟨fun r hr => ?_, fun r hr => ?_, by simp [h1.all.1, h2.all.1], fun i r x hr hx => ?_⟩
  · rcases List.mem_append.1 hr with h | h; exact h1.len r h; exact h2.len r h
  · rcases List.mem_append.1 hr with h | h; exact h1.one r h; exact h2.one r h
  · have hl := h1.all.1
    rcases Nat.lt_or_ge i r1.length with hi | hi
    · rw [List.getElem?_append_left hi] at hr
      rw [List.getElem?_append_left (by omega)] at hx
      exact h1.all.2 i r x hr hx
    · rw [List.getElem?_append_right hi] at hr
      rw [List.getElem?_append_right (by omega)] at hx
      rw [← hl] at hx
      exact h2.all.2 _ r x hr hx
theorem rows_drop {α : Type} {R : List Value → α → Prop} {sz : Nat} {rows : List (List Value)} {xs : List α} (h : rowsF R sz rows xs) (i : Nat) : rowsF R sz (rows.drop i) (xs.drop i) :=
  ⟨fun r hr => h.len r (List.mem_of_mem_drop hr), fun r hr => h.one r (List.mem_of_mem_drop hr), by simp [h.all.1], fun j r x hr hx => h.all.2 (i + j) r x (by simpa [List.getElem?_drop] using hr) (by simpa [List.getElem?_drop] using hx)⟩
theorem rows_take {α : Type} {R : List Value → α → Prop} {sz : Nat} {rows : List (List Value)} {xs : List α} (h : rowsF R sz rows xs) (i : Nat) : rowsF R sz (rows.take i) (xs.take i) :=
  ⟨fun r hr => h.len r (List.mem_of_mem_take hr), fun r hr => h.one r (List.mem_of_mem_take hr), by simp [h.all.1], fun j r x hr hx => by
    rw [List.getElem?_take] at hr hx
    split at hr
    · rename_i hj; rw [if_pos hj] at hx; exact h.all.2 j r x hr hx
    · cases hr⟩
theorem flatten_drop {sz : Nat} : ∀ (rows : List (List Value)) (i : Nat), (∀ r ∈ rows, r.length = sz) → rows.flatten.drop (i * sz) = (rows.drop i).flatten
  | [], i, _ => by simp
  | x :: rows, 0, _ => by simp
  | x :: rows, i + 1, h => by
    have hx := h x (by simp)
    rw [List.flatten_cons, List.drop_succ_cons, ← flatten_drop rows i (fun r hr => h r (by simp [hr])), Nat.succ_mul, show i * sz + sz = x.length + i * sz by omega, List.drop_length_add_append]
/-- l[i:] -/
theorem suf_r {α : Type} {R : List Value → α → Prop} {sz : Nat} {v : Value} {l : List α} {rows : List (List Value)} {K : Kont} {ki : IntKind} (hv : sF F sz v l.length rows.flatten) (hr : rowsF R sz rows l) {i : Nat} (hi : i ≤ l.length)
    (k : ∀ v', sF F sz v' (l.drop i).length (rows.drop i).flatten → K v' ⟨F, M, N⟩) : pv (slV sz v (some (.int ki (i : Nat))) none none) K ⟨F, M, N⟩ := by
  have hfd := flatten_drop rows i hr.len
  have hfl := (rows_drop hr i).flen
  have hc : ∃ a c, v = .slice a l.length c ∧ l.length ≤ c := hv.form
  obtain ⟨a, c, rfl, hlc⟩ := hc
  refine sl_r i l.length c hi hlc (Nat.le_refl _) ?_ (h4 := fun _ => ⟨rfl, hlc⟩)
  refine k _ ⟨hfl, ?_⟩
  rcases hv.2 with ⟨a', c', h1, h2⟩ | ⟨b, o, c', cs, h1, h2, h3, h4⟩
  · exact .inl ⟨_, _, by rw [show l.length - i = 0 by omega], by simp; omega⟩
  · injection h1 with h1 _ h1'
    subst h1; subst h1'
    rcases Nat.lt_or_ge i c with hic | hic
    · rw [if_neg (by omega)]
      refine .inr ⟨b, o + i * sz, c - i, cs, by simp [Addr.add_plain], by simp; omega, h3, ?_⟩
      rw [← hfd, ← h4, List.drop_take, List.drop_drop]
      congr 1
      rw [List.length_drop, Nat.sub_mul]
    · exact .inl ⟨_, _, by rw [show l.length - i = 0 by omega], by simp; omega⟩
/-- What ends Lay. -/
theorem rlay_fin {X : Kont} {B b2 i' : Nat} {u v kv : Value} {t pre : List Rw} {rows prs : List (List Value)} {key : List Int} {c : CE} (hM2 : M b2 = some (.cells 43 (kv :: c.cs) 5)) (hkv : sF F 1 kv key.length (ic key)) (hm : clean M N) (hB : B ≤ N)
    (ho : own M B 43 5 u pre.length prs.flatten) (hub : u.ownBlock ≠ some b2) (hp : rowsF (rowD F) 5 prs pre) (hv1 : sF F 5 v t.length rows.flatten) (hv2 : rowsF (rowD F) 5 rows t) (hi : i' ≤ t.length) (hl : pre.length + t.length ≤ 1000000000000)
    (hX : ∀ v' M' N', own M' B 43 5 v' (pre.length + 1 + (t.drop i').length) ((prs ++ [kv :: c.cs]) ++ rows.drop i').flatten → (∀ q, q < B → M' q = M q) → N ≤ N' → clean M' N' → X v' ⟨F, M', N'⟩) :
    (ld true 5 (.pointer (some ⟨b2, 0, none⟩)) fun t1 => nws 43 1 (bsC #[(.slice none 0 0), (.int .i64 0), (.int .i64 0), (.int .i64 0), (.int .i64 0)] 5 1 #[(0, t1)]) fun t2 =>
      appX 43 5 56 u t2 fun t3 => pv (slV 5 v (some (.int .i64 (i' : Nat))) none none) fun t4 => appX 43 5 56 t3 t4 fun t5 => X t5) ⟨F, M, N⟩ := by
  have hrc := row_cells (c := c) hkv
  obtain ⟨ka, kc, rfl, _⟩ := hkv.form
  refine ldMa (vs := .slice ka key.length kc :: c.cs) ?_ hM2
  refine nws_r (cs := .slice ka key.length kc :: c.cs) (by kernel_rfl) (fun b5 hb5 => ?_)
  have ho2 : own (upd M b5 (some (.cells 43 (.slice ka key.length kc :: c.cs) (Value.slice ka key.length kc :: c.cs).length))) B 43 5 u pre.length prs.flatten := ho.keep (fun q hq => upd_ne _ _ (fun e => by have := ho.lt hm q hq; omega)) (Nat.le_refl _)
  refine ho2.app (m := 1) (news := .slice ka key.length kc :: c.cs) (hm.new hb5 _) (by omega) ⟨rfl, .inr ⟨b5, 0, 1, _, rfl, Nat.le_refl _, .inr ⟨_, _, upd_same _ _ _⟩, rfl⟩⟩ hrc.2 (by omega) (by simp [maxLen]; omega) (fun u2 M2 N2 h4 h5 h6 h7 => ?_)
  refine suf_r hv1 hv2 hi (fun v2 hv' => ?_)
  have hrd := rows_drop hv2 i'
  refine h4.app h7 (by omega) hv'.sR hrd.f1 (by rw [List.length_drop]; omega) (by rw [List.length_drop]; simp [maxLen]; omega) (fun u3 M3 N3 h8 h9 h10 h11 => ?_)
  refine hX u3 M3 N3 (by simpa using h8) (fun q hq => ?_) (by omega) h11
  have q1 : u.ownBlock ≠ some q := fun e => by have := (ho.ge q e).1; omega
  obtain ⟨a1, a2⟩ := h5 q q1 (by omega)
  exact ((h9 q a2 (by omega)).1).trans (a1.trans (upd_ne _ _ (by omega)))
end Go.Proofs.YthpacapdaembpaaDoor.A
open Go Go.RowKit Go.Proofs.YthpacapdaembpaaDoor.K Go.Proofs.YthpacapdaembpaaDoor.T
set_option linter.unusedVariables false
set_option linter.unusedSimpArgs false
namespace Go.Proofs.YthpacapdaembpaaDoor.A
variable {F F' : Nat → Option (List Value)} {M M' : Nat → Option Chunk} {N N' : Nat} {K : Kont} {E : PanK}
/-- Lay, of the reference -/
theorem rlay_c {v kv : Value} {t : List Rw} {key : List Int} {c : CE} (hv : tblD F v t) (hkv : sF F 1 kv key.length (ic key)) (hkl : key.length ≤ 10000000000) (ht : t.length ≤ 100000000000)
    (k : ∀ v' F' N', (Hp.mk F' M N').wf → subF F F' → N ≤ N' → tblD F' v' (layR t key c) → K v' ⟨F', M, N'⟩) :
    callv Tryd.prog (.func (.func 51) #[] #[]) #[v, .agg (kv :: c.cs).toArray] K E ⟨F, M, N⟩ := by
  refine callv_of_text mixed Tryd.func51 (by kernel_rfl) (t51 _ E _ _) (fun hw => ?_)
  have hm : clean M N := hw.m
  obtain ⟨rows, hv1, hv2⟩ := hv
  obtain ⟨va, vc, hvf, hvc⟩ := hv1.form
  have hrc := row_cells (c := c) hkv
  have hlv : lenV v = some (.int .i64 (t.length : Nat)) := by rw [hvf]; rfl
  refine nw_r (cs := kv :: c.cs) (fun b0 hb0 => ?_)
  refine l51_1_1_1_0_0_0 (σ := Nat × Value) (fun s => s.2) (fun s => .int .i64 (s.1 : Nat))
    (fun s h => ∃ M' N', h = ⟨F, M', N'⟩ ∧ b0 < N' ∧ (∀ q, q < N → M' q = M q) ∧ M' b0 = some (.cells 43 (kv :: c.cs) 5) ∧ clean M' N' ∧ s.1 ≤ t.length ∧ own M' N 43 5 s.2 s.1 (rows.take s.1).flatten ∧ s.2.ownBlock ≠ some b0 ∧ ∀ x ∈ t.take s.1, kcmp x.1 key < 0) (fun s => t.length - s.1)
    (0, .slice none 0 0) rfl rfl (fun hw1 => ⟨_, wk_refl hw1, _, _, rfl, Nat.lt_succ_self _, fun q hq => upd_ne _ _ (by omega), by rw [upd_same]; rfl, hm.new hb0 _, Nat.zero_le _, own.nil, by simp [Value.ownBlock], by simp⟩) (fun k1 s j h1 hI hw1 next => ?_)
  obtain ⟨M1, N1, rfl, hbN, hM1, hb1, hm1, hs, ho, hob, hlt⟩ := hI
  have hrl := hv2.all.1
  by_cases hgo : ∃ h : s.1 < t.length, kcmp (t[s.1].1) key < 0
  · obtain ⟨h1, hl⟩ := hgo
    simp only [hlv]
    try simp only [gdTT, gdFF, gdTF, gdFT, pvS, pickT, pickF, faP, lenS, capS, nilP, exA, exB, exC, notB, cndT, cndF, Bool.not_true, Bool.not_false, Nat.zero_add, Nat.add_zero]
    refine lss_t (by omega) ?_
    try simp only [gdTT, gdFF, gdTF, gdFT, pvS, pickT, pickF, faP, lenS, capS, nilP, exA, exB, exC, notB, cndT, cndF, Bool.not_true, Bool.not_false, Nat.zero_add, Nat.add_zero]
    refine key_r hv1 hv2 h1 fun p q kv1 hkv1 hkl1 => ?_
    refine ldM (v := kv) ?_ hb1
    refine rCmp_c hkv1 hkv hkl1 ?_
    refine lss_t hl ?_
    try simp only [gdTT, gdFF, gdTF, gdFT, pvS, pickT, pickF, faP, lenS, capS, nilP, exA, exB, exC, notB, cndT, cndF, Bool.not_true, Bool.not_false, Nat.zero_add, Nat.add_zero]
    refine row_r hv1 hv2 (by decide) h1 (fun p r hrr hR hr5 hr1 => ?_)
    obtain ⟨kv2, rfl, hkv2, hkl2⟩ := hR
    obtain ⟨ka, kc, rfl, _⟩ := hkv2.form
    refine nws_r (cs := .slice ka t[s.1].1.length kc :: t[s.1].2.cs) (by kernel_rfl) (fun b5 hb5 => ?_)
    have hb5v : s.2.ownBlock ≠ some b5 := fun e => by have := ho.lt hm1 b5 e; omega
    have ho2 : own (upd M1 b5 (some (.cells 43 (.slice ka t[s.1].1.length kc :: t[s.1].2.cs) (Value.slice ka t[s.1].1.length kc :: t[s.1].2.cs).length))) N 43 5 s.2 s.1 (rows.take s.1).flatten := ho.keep (fun q hq => upd_ne _ _ (fun e => hb5v (e ▸ hq))) (Nat.le_refl _)
    refine ho2.app (m := 1) (news := .slice ka t[s.1].1.length kc :: t[s.1].2.cs) (hm1.new hb5 _) (by omega) ⟨rfl, .inr ⟨b5, 0, 1, _, rfl, Nat.le_refl _, .inr ⟨_, _, upd_same _ _ _⟩, rfl⟩⟩ hr1 (by omega) (by simp [maxLen]; omega) (fun u2 M2 N2 h4 h5 h6 h7 => ?_)
    refine inc_r (by omega) ?_
    refine next (s.1 + 1, u2) _ _ (by simp only; omega) (fun hw2 => ⟨_, wk_refl hw2, M2, N2, rfl, by omega, fun q hq => ?_, ((h5 b0 hob (by omega)).1).trans ((upd_ne _ _ (by omega)).trans hb1), h7, by simp only; omega, ?_, (h5 b0 hob (by omega)).2, ?_⟩)
    · have q1 : s.2.ownBlock ≠ some q := fun e => by have := (ho.ge q e).1; omega
      exact ((h5 q q1 (by omega)).1).trans ((upd_ne _ _ (by omega)).trans (hM1 q hq))
    · simp only
      rw [List.take_add_one, hrr, Option.toList_some, List.flatten_append]
      simpa using h4
    · simp only
      intro x hx
      rw [List.take_add_one, List.getElem?_eq_getElem h1] at hx
      rcases List.mem_append.1 hx with hx | hx
      · exact hlt x hx
      · simp at hx; rw [hx]; exact hl
  · have hstop : ∀ h : s.1 < t.length, ¬ kcmp (t[s.1].1) key < 0 := fun h hk => hgo ⟨h, hk⟩
    have htk : (t.take s.1).length = s.1 := by rw [List.length_take]; omega
    have hlay := layR_take t key c s.1 hlt
    simp only [hlv]
    try simp only [gdTT, gdFF, gdTF, gdFT, pvS, pickT, pickF, faP, lenS, capS, nilP, exA, exB, exC, notB, cndT, cndF, Bool.not_true, Bool.not_false, Nat.zero_add, Nat.add_zero]
    refine lss_r (fun hlt1 => ?_) (fun hge1 => ?_)
    have h1 : s.1 < t.length := by omega
    try simp only [gdTT, gdFF, gdTF, gdFT, pvS, pickT, pickF, faP, lenS, capS, nilP, exA, exB, exC, notB, cndT, cndF, Bool.not_true, Bool.not_false, Nat.zero_add, Nat.add_zero]
    refine key_r hv1 hv2 h1 fun p q kv1 hkv1 hkl1 => ?_
    refine ldM (v := kv) ?_ hb1
    refine rCmp_c hkv1 hkv hkl1 ?_
    refine lss_f (hstop h1) ?_
    all_goals
      try simp only [gdTT, gdFF, gdTF, gdFT, pvS, pickT, pickF, faP, lenS, capS, nilP, exA, exB, exC, notB, cndT, cndF, Bool.not_true, Bool.not_false, Nat.zero_add, Nat.add_zero]
      rw [t51_1_1_1_1]
      try simp only [gdTT, gdFF, gdTF, gdFT, pvS, pickT, pickF, faP, lenS, capS, nilP, exA, exB, exC, notB, cndT, cndF, Bool.not_true, Bool.not_false, Nat.zero_add, Nat.add_zero]
      refine ldM (v := kv) ?_ hb1
      refine ldMa (vs := c.cs) ?_ hb1
      refine ⟨?_, ?_⟩
    all_goals
      first
      | (refine ints_c hm1 hkv.sR (by omega) (fun kv' F2 N2 hw2 hF2 hN2 hkv' => ?_)
         refine ⟨ldV_a (row_M hb1) (by exact Nat.le_of_ble_eq_true rfl) rfl, ?_⟩
         obtain ⟨ka, kc, rfl, _⟩ := hkv'.form
         refine pv_r (v := .agg (.slice ka key.length kc :: c.cs).toArray) (by kernel_rfl) ?_
         refine nw_r (fun b2 hb2 => ?_)
         have hb1' : ∀ x, upd M1 b2 x b0 = some (.cells 43 (kv :: c.cs) 5) := fun x => (upd_ne _ _ (by omega)).trans hb1
         refine ⟨ldV_a (row_M (hb1' _)) (by exact Nat.le_of_ble_eq_true rfl) rfl, ?_⟩
         obtain ⟨N3, hN3⟩ : ∃ n, n = b2 + 1 := ⟨_, rfl⟩
         have hbn : b2 < N3 ∧ N2 ≤ b2 ∧ N1 ≤ b2 := by omega
         rw [← hN3])
      | (refine nw_r (fun b2 hb2 => ?_)
         have hb1' : ∀ x, upd M1 b2 x b0 = some (.cells 43 (kv :: c.cs) 5) := fun x => (upd_ne _ _ (by omega)).trans hb1
         refine ⟨ldV_a (row_M (hb1' _)) (by exact Nat.le_of_ble_eq_true rfl) rfl, ldV_c (row_M (hb1' _)) rfl, ?_⟩
         refine ints_c (hm1.new hb2 _) hkv.sR (by omega) (fun kv' F2 N2 hw2 hF2 hN2 hkv' => ?_)
         refine ⟨ldV_a (row_M (hb1' _)) (by exact Nat.le_of_ble_eq_true rfl) rfl, ?_⟩
         obtain ⟨ka, kc, rfl, _⟩ := hkv'.form
         refine pv_r (v := .agg (.slice ka key.length kc :: c.cs).toArray) (by kernel_rfl) ?_
         obtain ⟨N3, hN3⟩ : ∃ n, n = N2 := ⟨_, rfl⟩
         have hbn : b2 < N3 ∧ N1 ≤ b2 ∧ N1 ≤ b2 := by omega
         rw [← hN3])
    all_goals

      have hrc' := row_cells (c := c) hkv'
      refine stM (cs' := .slice ka key.length kc :: c.cs) ?_ (upd_same _ _ _)
      rw [upd_upd]
      have hx : ∀ x, upd M1 b2 x b2 = x := fun x => upd_same _ _ _
      have hv1' := hv1.mono hF2
      have hv2' : rowsF (rowD F2) 5 rows t := hv2.mono fun _ _ h => h.mono hF2
      have fin : ∀ (nc : CE) (i' : Nat) (M2 : Nat → Option Chunk) (N4 : Nat), layR (t.drop s.1) key c = (key, nc) :: t.drop i' → i' ≤ t.length → M2 = upd M1 b2 (some (.cells 43 (.slice ka key.length kc :: nc.cs) 5)) → N3 ≤ N4 →
          ∀ (u : Value) (M' : Nat → Option Chunk) (N' : Nat), own M' N 43 5 u ((t.take s.1).length + 1 + (t.drop i').length) ((rows.take s.1 ++ [.slice ka key.length kc :: nc.cs]) ++ rows.drop i').flatten → (∀ q, q < N → M' q = M2 q) → N4 ≤ N' → clean M' N' → (Hp.mk F2 M' N').wf → ∃ h', (Hp.mk F2 M' N').wk h' ∧ (h'.wf → K u h') := by
        intro nc i' M2 N4 e1 e2 e3 e4 u M' N' e5 e6 e7 e8 hc
        have hMM : ∀ q, q < N → M' q = M q := fun q hq => by rw [e6 q hq, e3, upd_ne _ _ (by omega)]; exact hM1 q hq
        have hr1 : rowD F2 (.slice ka key.length kc :: nc.cs) (key, nc) := ⟨_, rfl, hkv', by simp only; omega⟩
        have hrows : rowsF (rowD F2) 5 ((rows.take s.1 ++ [.slice ka key.length kc :: nc.cs]) ++ rows.drop i') ((t.take s.1 ++ [(key, nc)]) ++ t.drop i') := rows_app ((rows_take hv2' s.1).snoc hr1.one.1 hr1.one.2 hr1) (rows_drop hv2' i')
        have e9 : layR t key c = (t.take s.1 ++ [(key, nc)]) ++ t.drop i' := by rw [hlay, e1]; simp
        refine ⟨_, frz_wf hm hMM hc, fun hw' => k u _ N' hw' (hF2.trans (subF_frzAll hc)) (by omega) ?_⟩
        rw [e9]
        refine tbl_frz hc (rows := (rows.take s.1 ++ [.slice ka key.length kc :: nc.cs]) ++ rows.drop i') ?_ hrows
        have : ((t.take s.1 ++ [(key, nc)]) ++ t.drop i').length = (t.take s.1).length + 1 + (t.drop i').length := by simp; omega
        rw [this]; exact e5
      have hown : ∀ x, own (upd M1 b2 x) N 43 5 s.2 (t.take s.1).length (rows.take s.1).flatten := fun x => by
        rw [htk]; exact ho.keep (fun q hq => upd_ne _ _ (fun e => by have := ho.lt hm1 q hq; omega)) (Nat.le_refl _)
      have hub : s.2.ownBlock ≠ some b2 := fun e => by have := ho.lt hm1 b2 e; omega
      simp only [hlv]
      try simp only [gdTT, gdFF, gdTF, gdFT, pvS, pickT, pickF, faP, lenS, capS, nilP, exA, exB, exC, notB, cndT, cndF, Bool.not_true, Bool.not_false, Nat.zero_add, Nat.add_zero]
      by_cases h2 : s.1 < t.length
      · refine lss_t (by omega) ?_
        try simp only [gdTT, gdFF, gdTF, gdFT, pvS, pickT, pickF, faP, lenS, capS, nilP, exA, exB, exC, notB, cndT, cndF, Bool.not_true, Bool.not_false, Nat.zero_add, Nat.add_zero]
        refine key_r hv1' hv2' h2 fun p q kv1 hkv1 hkl1 => ?_
        refine ldM (v := kv) ?_ (hb1' _)
        refine rCmp_c hkv1 (hkv.mono hF2) hkl1 ?_
        by_cases heq : kcmp t[s.1].1 key = 0
        · refine eql_t heq ?_
          try simp only [gdTT, gdFF, gdTF, gdFT, pvS, pickT, pickF, faP, lenS, capS, nilP, exA, exB, exC, notB, cndT, cndF, Bool.not_true, Bool.not_false, Nat.zero_add, Nat.add_zero]
          refine cell_r hv1' hv2' h2 fun p q => ?_
          refine ldMa (vs := c.cs) ?_ (hb1' _)
          refine rmerge_c (fun N4 hN4 hw4 => ?_)
          refine stM (cs' := .slice ka key.length kc :: (t[s.1].2.rmerge c).cs) ?_ (upd_same _ _ _)
          rw [upd_upd]
          refine inc_r (by omega) ?_
          rw [t51_1_1_1_1_1_1]
          refine rlay_fin (kv := .slice ka key.length kc) (c := t[s.1].2.rmerge c) (i' := s.1 + 1) (t := t) (rows := rows) (pre := t.take s.1) (prs := rows.take s.1) (hx _) hkv' (hm1.set' (by omega) (by omega)) (by omega) (hown _) hub (rows_take hv2' s.1) hv1' hv2' h2 (by rw [htk]; omega)
            (fin (t[s.1].2.rmerge c) (s.1 + 1) _ N4 ?_ h2 rfl hN4)
          rw [List.drop_eq_getElem_cons h2]
          simp only [layR]
          rw [if_neg (by omega), if_pos heq, merge_eq]
        · refine eql_f heq ?_
          try simp only [gdTT, gdFF, gdTF, gdFT, pvS, pickT, pickF, faP, lenS, capS, nilP, exA, exB, exC, notB, cndT, cndF, Bool.not_true, Bool.not_false, Nat.zero_add, Nat.add_zero]
          rw [t51_1_1_1_1_1_1]
          refine rlay_fin (kv := .slice ka key.length kc) (c := c) (i' := s.1) (t := t) (rows := rows) (pre := t.take s.1) (prs := rows.take s.1) (hx _) hkv' (hm1.set' (by omega) (by omega)) (by omega) (hown _) hub (rows_take hv2' s.1) hv1' hv2' hs (by rw [htk]; omega)
            (fin c s.1 _ N3 ?_ hs rfl (Nat.le_refl _))
          rw [List.drop_eq_getElem_cons h2]
          simp only [layR]
          rw [if_neg (hstop h2), if_neg heq]
      · refine lss_f (by omega) ?_
        try simp only [gdTT, gdFF, gdTF, gdFT, pvS, pickT, pickF, faP, lenS, capS, nilP, exA, exB, exC, notB, cndT, cndF, Bool.not_true, Bool.not_false, Nat.zero_add, Nat.add_zero]
        rw [t51_1_1_1_1_1_1]
        refine rlay_fin (kv := .slice ka key.length kc) (c := c) (i' := s.1) (t := t) (rows := rows) (pre := t.take s.1) (prs := rows.take s.1) (hx _) hkv' (hm1.set' (by omega) (by omega)) (by omega) (hown _) hub (rows_take hv2' s.1) hv1' hv2' hs (by rw [htk]; omega)
          (fin c s.1 _ N3 ?_ hs rfl (Nat.le_refl _))
        rw [show t.drop s.1 = [] from List.drop_eq_nil_of_le (by omega)]
        rfl
end Go.Proofs.YthpacapdaembpaaDoor.A
namespace Go.Proofs
open Go.Shelf
def Tryd.sortRow_ren : Go.Shelf.Ren := ⟨fun | 6 => 77 | 15 => 97 | 14 => 96 | 28 => 112 | 29 => 113 | 20 => 104 | 21 => 105 | 22 => 106 | 23 => 107 | 24 => 108 | 25 => 109 | 26 => 110 | 27 => 111 | 46 => 116 | 47 => 117 | 48 => 118 | 49 => 119 | 50 => 120 | 57 => 126 | n => n, fun | 22 => 22 | 24 => 43 | 25 => 90 | 3 => 3 | 39 => 126 | 0 => 0 | 53 => 140 | 55 => 142 | 4 => 4 | 46 => 134 | 45 => 133 | 50 => 110 | 5 => 5 | 9 => 9 | 66 => 145 | 70 => 149 | 76 => 156 | 77 => 157 | n => n, fun | n => n⟩
theorem Tryd.sortRow : Go.Proofs.SlLaysF0.n6 Tryd.prog Tryd.sortRow_ren := {
  mixed := by kernel_rfl
  f6 := ⟨Tryd.f77.name, by decide, Tryd.func77.trans (congrArg some (by kernel_rfl))⟩
  f14 := ⟨Tryd.f96.name, by decide, Tryd.func96.trans (congrArg some (by kernel_rfl))⟩
  f15 := Tryd.func97.trans (congrArg some (by kernel_rfl))
  f20 := ⟨Tryd.f104.name, by decide, Tryd.func104.trans (congrArg some (by kernel_rfl))⟩
  f21 := ⟨Tryd.f105.name, by decide, Tryd.func105.trans (congrArg some (by kernel_rfl))⟩
  f22 := ⟨Tryd.f106.name, by decide, Tryd.func106.trans (congrArg some (by kernel_rfl))⟩
  f23 := ⟨Tryd.f107.name, by decide, Tryd.func107.trans (congrArg some (by kernel_rfl))⟩
  f24 := ⟨Tryd.f108.name, by decide, Tryd.func108.trans (congrArg some (by kernel_rfl))⟩
  f25 := ⟨Tryd.f109.name, by decide, Tryd.func109.trans (congrArg some (by kernel_rfl))⟩
  f26 := ⟨Tryd.f110.name, by decide, Tryd.func110.trans (congrArg some (by kernel_rfl))⟩
  f27 := ⟨Tryd.f111.name, by decide, Tryd.func111.trans (congrArg some (by kernel_rfl))⟩
  f28 := Tryd.func112.trans (congrArg some (by kernel_rfl))
  f29 := Tryd.func113.trans (congrArg some (by kernel_rfl))
  f46 := ⟨Tryd.f116.name, by decide, Tryd.func116.trans (congrArg some (by kernel_rfl))⟩
  f47 := Tryd.func117.trans (congrArg some (by kernel_rfl))
  f48 := Tryd.func118.trans (congrArg some (by kernel_rfl))
  f49 := ⟨Tryd.f119.name, by decide, Tryd.func119.trans (congrArg some (by kernel_rfl))⟩
  f50 := ⟨Tryd.f120.name, by decide, Tryd.func120.trans (congrArg some (by kernel_rfl))⟩
  f57 := ⟨Tryd.f126.name, by decide, Tryd.func126.trans (congrArg some (by kernel_rfl))⟩
  t0 := Tryd.underlying0
  a0 := Tryd.isAgg0
  z0 := Tryd.sizeOf0
  v0 := Tryd.zeroValue0
  t3 := Tryd.underlying3
  a3 := Tryd.isAgg3
  z3 := Tryd.sizeOf3
  v3 := Tryd.zeroValue3
  t4 := Tryd.underlying4
  a4 := Tryd.isAgg4
  z4 := Tryd.sizeOf4
  v4 := Tryd.zeroValue4
  t5 := Tryd.underlying5
  a5 := Tryd.isAgg5
  z5 := Tryd.sizeOf5
  v5 := Tryd.zeroValue5
  t9 := Tryd.underlying9
  a9 := Tryd.isAgg9
  z9 := Tryd.sizeOf9
  v9 := Tryd.zeroValue9
  t22 := Tryd.underlying22
  a22 := Tryd.isAgg22
  z22 := Tryd.sizeOf22
  v22 := Tryd.zeroValue22
  t25 := Tryd.underlying90
  a25 := Tryd.isAgg90
  z25 := Tryd.sizeOf90
  v25 := Tryd.zeroValue90
  t39 := Tryd.underlying126
  a39 := Tryd.isAgg126
  z39 := Tryd.sizeOf126
  v39 := Tryd.zeroValue126
  t45 := Tryd.underlying133
  a45 := Tryd.isAgg133
  z45 := Tryd.sizeOf133
  v45 := Tryd.zeroValue133
  t46 := Tryd.underlying134
  a46 := Tryd.isAgg134
  z46 := Tryd.sizeOf134
  v46 := Tryd.zeroValue134
  t50 := Tryd.underlying110
  a50 := Tryd.isAgg110
  z50 := Tryd.sizeOf110
  v50 := Tryd.zeroValue110
  t53 := Tryd.underlying140
  a53 := Tryd.isAgg140
  z53 := Tryd.sizeOf140
  v53 := Tryd.zeroValue140
  t55 := Tryd.underlying142
  a55 := Tryd.isAgg142
  z55 := Tryd.sizeOf142
  v55 := Tryd.zeroValue142
  t66 := Tryd.underlying145
  a66 := Tryd.isAgg145
  z66 := Tryd.sizeOf145
  v66 := Tryd.zeroValue145
  t70 := Tryd.underlying149
  a70 := Tryd.isAgg149
  z70 := Tryd.sizeOf149
  v70 := Tryd.zeroValue149
  t76 := Tryd.underlying156
  a76 := Tryd.isAgg156
  z76 := Tryd.sizeOf156
  v76 := Tryd.zeroValue156
  t77 := Tryd.underlying157
  a77 := Tryd.isAgg157
  z77 := Tryd.sizeOf157
  v77 := Tryd.zeroValue157 }
end Go.Proofs
open Go Go.RowKit Go.Proofs.YthpacapdaembpaaDoor.K Go.Proofs.YthpacapdaembpaaDoor.T
set_option linter.unusedVariables false
set_option linter.unusedSimpArgs false
namespace Go.Proofs.YthpacapdaembpaaDoor.A
variable {F F' : Nat → Option (List Value)} {M M' : Nat → Option Chunk} {N N' : Nat} {K : Kont} {E : PanK}
open Go.Sort hiding Below
open Go.Shelf
theorem agg_row (w : World) : (isAgg 43).run Tryd.prog w = .ok true w := by kernel_rfl
theorem size_row (w : World) : (Go.sizeOf 43).run Tryd.prog w = .ok 5 w := by kernel_rfl
/-- The compare, in each world that the sort passes through. -/
theorem cmp_lays [Inhabited (RowE F)] {w : World} {blk size : Nat} (hF : ∀ bk cs, F bk = some cs → bk ≠ blk ∧ bk < w.heap.size ∧ ∃ arr e z, w.heap[bk]? = some (.cells arr e z) ∧ cs <+: arr.toList) :
    CmpLays Tryd.prog 50 #[] (fun x : RowE F => x.1.1) 5 (fun x y => kcmp x.1.2.1 y.1.2.1) blk 0 size w := by
  intro m os dk _ x y
  have hW : ∀ bk cs, F bk = some cs → ∃ arr e z, (sortWorldK (fun x : RowE F => x.1.1) 5 w blk 0 m dk os).heap[bk]? = some (.cells arr e z) ∧ cs <+: arr.toList := fun bk cs h => by
    obtain ⟨h1, h2, arr, e, z, h3, h4⟩ := hF bk cs h
    exact ⟨arr, e, z, (sw_other h1 h2).trans h3, h4⟩
  have up : ∀ z : RowE F, rowD (F0 (sortWorldK (fun x : RowE F => x.1.1) 5 w blk 0 m dk os)) z.1.1 z.1.2 := fun z => by
    obtain ⟨v, h1, h2, h3⟩ := z.2
    exact ⟨v, h1, sF_world hW h2, h3⟩
  have h := calls1 (P := Tryd.prog) (w := sortWorldK (fun x : RowE F => x.1.1) 5 w blk 0 m dk os) (K := fun v => v = .int .i64 (kcmp x.1.2.1 y.1.2.1))
    (less_call (K := fun v _ => v = .int .i64 (kcmp x.1.2.1 y.1.2.1)) (E := fun _ _ => False) (up x) (up y) (fun N' => rfl))
  refine Calls.mono h fun e w' ⟨⟨v, he, hv⟩, hb, hd⟩ => ?_
  exact ⟨by rw [he, hv], below_grow hb hd⟩
theorem perm_map {α β : Type} {a b : List α} (f : α → β) (h : a.Perm b) : (a.map f).Perm (b.map f) := h.map f
/-- slices.SortFunc, of rows. -/
theorem sort_c {b cap tot : Nat} {rows : List (List Value)} {t : List Rw} {rest : List Value} (hM : M b = some (.cells 43 (rows.flatten ++ rest) tot)) (hr : rowsF (rowD F) 5 rows t) (hn : nodup t) (h0 : 0 < t.length) (hl : t.length < 4611686018427387904)
    (k : ∀ N' rows' t', N ≤ N' → rowsF (rowD F) 5 rows' t' → t.Perm t' → srt t' → K (.tuple #[]) ⟨F, upd M b (some (.cells 43 (rows'.flatten ++ rest) tot)), N'⟩) :
    callv Tryd.prog (.func (.func 77) #[] #[]) #[.slice (some ⟨b, 0, none⟩) t.length cap, .func (.func 50) #[] #[]] K E ⟨F, M, N⟩ := by
  refine .inl ⟨by kernel_rfl, fun w0 w r => ?_⟩
  obtain ⟨d, hd1, hd2⟩ := rows_E rows t hr
  have hdl : d.length = t.length := by rw [← hd2]; simp
  have hne : d ≠ [] := fun e => by rw [e] at hdl; simp at hdl; omega
  obtain ⟨x0, d0, hd0⟩ := List.exists_cons_of_ne_nil hne
  haveI : Inhabited (RowE F) := ⟨x0⟩
  obtain ⟨h1, h2, h3, arr, h4, h5, h6⟩ := r.cl b _ _ _ hM
  have hbw : b < w.heap.size := (Array.getElem?_eq_some_iff.1 h4).1
  have hfl := hr.flen
  have hH : HoldsK (fun x : RowE F => x.1.1) 5 w b 0 d.toArray := by
    intro j hj
    have hj' : j < d.length * 5 := by simpa using hj
    have e1 := flatK_rows d j hj'
    rw [hd1] at e1
    have e2 : rows.flatten[j]? = some (id (flatK (fun x : RowE F => x.1.1) 5 d.toArray)[j]!) := by
      rw [← e1, id, getElem!_def, Array.getElem?_eq_getElem (by simpa using hj')]
    refine ⟨?_, by simp [World.frozen?, h4]⟩
    rw [Nat.zero_add]
    refine r.cell (cs := rows.flatten ++ rest) (.inr ⟨_, _, hM⟩) ?_
    rw [List.getElem?_append_left (by omega)]; exact e2
  have hF : ∀ bk cs, F bk = some cs → bk ≠ b ∧ bk < w.heap.size ∧ ∃ arr e z, w.heap[bk]? = some (.cells arr e z) ∧ cs <+: arr.toList := fun bk cs h => by
    obtain ⟨a1, arr', e, z, a2, a3⟩ := r.fr bk cs h
    exact ⟨fun e => (by subst e; simp only at h3; rw [h] at h3; cases h3), (Array.getElem?_eq_some_iff.1 a2).1, arr', e, z, a2, a3⟩
  have eg : ∀ args w, (callFunc 50 args).run Tryd.prog w = .ok (.enter 50 args) w := enters_of Tryd.func50 (by kernel_rfl) rfl
  have hcon := AnyQ.slices_SortFunc Tryd.sortRow 5 agg_row size_row (fun x : RowE F => x.1.1) (fun x => x.2.one.1) (fun x v hv => x.2.one.2 v hv) (fun x y => kcmp x.1.2.1 y.1.2.1) swo_cmp 50 #[] b 0 cap d.toArray w eg (cmp_lays hF) hH hbw (by simpa [hdl] using hl)
  change Calls Tryd.prog 77 _ _ _ at hcon
  have hsz : d.toArray.size = t.length := by simpa using hdl
  rw [hsz] at hcon
  refine Calls.mono hcon fun e w' ⟨he, d', n, os, hp, hs, hw⟩ => ?_
  subst he
  have hsz' : d'.size = t.length := by rw [hp.1, hsz]
  have hp2 : d'.toList.Perm d := by
    have h7 := hp.2.2
    rw [← hsz, Array.extract_size] at h7
    rw [show d'.extract 0 d.toArray.size = d' from by rw [hsz, ← hsz', Array.extract_size]] at h7
    simpa using h7
  have hr' := E_rows d'.toList
  have hperm : t.Perm (d'.toList.map (·.1.2)) := by rw [← hd2]; exact hp2.symm.map _
  have hsrt : srt (d'.toList.map (·.1.2)) := by
    have hnd := hn.perm hperm
    unfold srt
    rw [List.pairwise_iff_getElem]
    intro i j hi hj hij
    have hnd' := List.pairwise_iff_getElem.1 hnd i j hi hj hij
    simp only [List.length_map, Array.length_toList] at hi hj
    have h8 := hs i j (Nat.zero_le _) hij (by omega)
    simp only [ltOf, decide_eq_false_iff_not] at h8
    rw [getElem!_pos d' j (by omega), getElem!_pos d' i (by omega)] at h8
    simp only [List.getElem_map, Array.getElem_toList] at hnd' ⊢
    have h9 := kcmp_neg d'[i].1.2.1 d'[j].1.2.1
    have h10 : kcmp d'[i].1.2.1 d'[j].1.2.1 ≠ 0 := fun e => hnd' (kcmp_eq e)
    omega
  refine ⟨⟨F, upd M b (some (.cells 43 ((d'.toList.map (·.1.1)).flatten ++ rest) tot)), w'.heap.size⟩, ?_, k _ _ _ (Nat.le_trans r.nx (hw ▸ sw_size)) hr' hperm hsrt⟩
  have hat := sw_at (enc := fun x : RowE F => x.1.1) (kk := 5) (n := n) (off := 0) (d := d') (os := os) h4
  have hsw : w.heap.size ≤ w'.heap.size := hw ▸ sw_size
  refine r.turn (w' := w') (b := b) h2 h3 (by rw [hw]; rfl) (by rw [hw]; rfl) (by rw [hw]; rfl) hsw (by omega) (fun q hq hql => by rw [hw]; exact sw_other hq hql) (some _) w'.heap.size (Nat.le_trans r.nx hsw) (Nat.le_refl _) (by omega) ?_ (by rw [hw]; exact Nat.le_add_right _ _)
  refine ⟨_, by rw [hw]; exact hat, by simpa [putCells] using h5, ?_⟩
  have hfl2 := flatK_toList d'.toList
  rw [Array.toArray_toList] at hfl2
  exact put_prefix (a := rows.flatten) hfl2 (by rw [hfl, hr'.flen]; simp [hsz']) h6
theorem sort_none {a : Option Addr} {c : Nat} (k : ∀ N', N ≤ N' → K (.tuple #[]) ⟨F, M, N'⟩) : callv Tryd.prog (.func (.func 77) #[] #[]) #[.slice a 0 c, .func (.func 50) #[] #[]] K E ⟨F, M, N⟩ := by
  refine .inl ⟨by kernel_rfl, fun w0 w r => ?_⟩
  have hcon := AnyF.slices_SortFunc_none Tryd.sortRow a c (.func (.func 50) #[] #[]) w
  change Calls Tryd.prog 77 _ _ _ at hcon
  refine Calls.mono hcon fun e w' ⟨he, hw⟩ => ?_
  subst he; subst hw
  exact ⟨⟨F, M, N⟩, r, k N (Nat.le_refl _)⟩
end Go.Proofs.YthpacapdaembpaaDoor.A
open Go Go.RowKit Go.Proofs.YthpacapdaembpaaDoor.K Go.Proofs.YthpacapdaembpaaDoor.T
set_option linter.unusedVariables false
set_option linter.unusedSimpArgs false
namespace Go.Proofs.YthpacapdaembpaaDoor.A
variable {F F' : Nat → Option (List Value)} {M M' : Nat → Option Chunk} {N N' : Nat} {K : Kont} {E : PanK}
/-- (*sheet).sorted -/
theorem sorted_c {B g bm : Nat} {v : Value} {rows : List (List Value)} {t : List Rw} (h : isSheet F M B g bm v rows t) (hm : clean M N) (hl : t.length ≤ 1099511627776)
    (k : ∀ M' N' rows' t', N ≤ N' → own M' B 43 5 v t'.length rows'.flatten → rowsF (rowD F) 5 rows' t' → t.Perm t' → srt t' → (∀ q, q < B → M' q = M q) → clean M' N' → (Hp.mk F M' N').wf → K v ⟨F, M', N'⟩) :
    callv Tryd.prog (.func (.func 47) #[] #[]) #[.pointer (some ⟨g, 0, none⟩)] K E ⟨F, M, N⟩ := by
  refine callv_of_text mixed Tryd.func47 (by kernel_rfl) (t47 _ E _) (fun hw => ?_)
  have hgg := h.gg
  refine pv_r rfl (pv_r rfl (ldM (v := v) ?_))
  rcases Nat.eq_zero_or_pos t.length with h0 | h0
  · have ht : t = [] := List.eq_nil_of_length_eq_zero h0
    subst ht
    have hoo := h.oo
    obtain ⟨a, c, hv, _⟩ := h.oo.form
    rw [hv]
    refine sort_none (fun N' hN => ?_)
    refine pv_r rfl (pv_r rfl (ldM (v := v) fun hc => ⟨_, wk_refl hc, fun hw' => k M N' rows [] hN h.oo h.rr (List.Perm.refl _) .nil (fun _ _ => rfl) (hm.up hN) hw'⟩))
  · rcases h.oo.2 with ⟨_, hz⟩ | ⟨b, c, rest, rfl, hc1, hc2, hbB, hMb⟩
    · omega
    refine sort_c hMb h.rr h.nd h0 (by omega) (fun N' rows' t' hN hr' hp hs => ?_)
    have hbg : g ≠ b := fun e => h.vg.1 (by rw [e]; rfl)
    have hbN := hm.lt hMb
    refine pv_r rfl (pv_r rfl (ldM (v := .slice (some ⟨b, 0, none⟩) t.length c) ?_ ((upd_ne _ _ hbg).trans hgg)))
    refine fun hc => ⟨_, wk_refl hc, fun hw' => k _ _ rows' t' hN ⟨hr'.flen, .inr ⟨b, c, rest, by rw [hp.length_eq], by rw [← hp.length_eq]; exact hc1, hc2, hbB, upd_same _ _ _⟩⟩ hr' hp hs (fun q hq => upd_ne _ _ (by omega)) ((hm.set hbN _).up hN) hw'⟩
/-- A row of a fact. -/
def fr1 (f : Fc) : Rw := (f.1, ofC f.2)
end Go.Proofs.YthpacapdaembpaaDoor.A
open Go Go.RowKit Go.Proofs.YthpacapdaembpaaDoor.K Go.Proofs.YthpacapdaembpaaDoor.T
set_option linter.unusedVariables false
set_option linter.unusedSimpArgs false
namespace Go.Proofs.YthpacapdaembpaaDoor.A
variable {F F' : Nat → Option (List Value)} {M M' : Nat → Option Chunk} {N N' : Nat} {K : Kont} {E : PanK}
theorem layR_tab_len (l : List Rw) : ∀ t : List Rw, (l.foldl (fun t r => layR t r.1 r.2) t).length ≤ t.length + l.length := by
  induction l with
  | nil => intro t; simp
  | cons r l ih => intro t; have := ih (layR t r.1 r.2); have h2 := layR_len t r.1 r.2; simp at this ⊢; omega
theorem tab_len (l : List Rw) : (tab l).length ≤ l.length := by have := layR_tab_len l []; simpa [tab] using this
theorem tab_take {α : Type} (f : α → Rw) (l : List α) {i : Nat} (h : i < l.length) : tab ((l.take (i + 1)).map f) = layR (tab ((l.take i).map f)) (f l[i]).1 (f l[i]).2 := by
  rw [List.take_add_one, List.getElem?_eq_getElem h, Option.toList_some, List.map_append, List.map_singleton, tab_snoc]
/-- Make, of the reference -/
theorem rmake_c {v : Value} {l : List Fc} (hv : fctsD F v l) (hl : l.length ≤ 1000000000) (hk : ∀ f ∈ l, f.1.length ≤ 10000000000)
    (k : ∀ v' F' N', (Hp.mk F' M N').wf → subF F F' → N ≤ N' → tblD F' v' (tab (l.map fr1)) → K v' ⟨F', M, N'⟩) :
    callv Tryd.prog (.func (.func 25) #[] #[]) #[v] K E ⟨F, M, N⟩ := by
  refine callv_of_text mixed Tryd.func25 (by kernel_rfl) (t25 _ E _) (fun hw => ?_)
  obtain ⟨rows, hv1, hv2⟩ := hv
  have hlv : lenV v = some (.int .i64 (l.length : Nat)) := by obtain ⟨a, c, rfl, _⟩ := hv1.form; rfl
  refine l25_1_1_0_1_0_0 (σ := Nat × Value) (fun s => s.2) (fun s => .int .i64 (s.1 : Nat)) (fun s h => ∃ F' N', h = ⟨F', M, N'⟩ ∧ subF F F' ∧ N ≤ N' ∧ s.1 ≤ l.length ∧ tblD F' s.2 (tab ((l.take s.1).map fr1))) (fun s => l.length - s.1) (0, .slice none 0 0) rfl rfl
    (fun hw1 => ⟨_, wk_refl hw1, _, _, rfl, subF.refl _, Nat.le_refl _, Nat.zero_le _, tblD.nil⟩) (fun k1 s j h1 hI hw1 next => ?_)
  obtain ⟨F1, N1, rfl, hF, hN, hi, ht⟩ := hI
  simp only [hlv]
  try simp only [gdTT, gdFF, gdTF, gdFT, pvS, pickT, pickF, faP, lenS, capS, nilP, exA, exB, exC, notB, cndT, cndF, Bool.not_true, Bool.not_false, Nat.zero_add, Nat.add_zero]
  refine lss_r (fun hlt => ?_) (fun hge => ?_)
  · have h1 : s.1 < l.length := by omega
    try simp only [gdTT, gdFF, gdTF, gdFT, pvS, pickT, pickF, faP, lenS, capS, nilP, exA, exB, exC, notB, cndT, cndF, Bool.not_true, Bool.not_false, Nat.zero_add, Nat.add_zero]
    obtain ⟨b, o, c, cs, r, rfl, hFb, hrr, ⟨kv, hr, hkv, hkl⟩, hrl, hr1, hle, htk, hj⟩ := row_at (hv1.mono hF) (hv2.mono fun _ _ h => h.mono hF) (by decide) h1
    subst hr
    have hx := hj 0 (by decide)
    refine iaN_r h1 ?_
    try simp only [gdTT, gdFF, gdTF, gdFT, pvS, pickT, pickF, faP, lenS, capS, nilP, exA, exB, exC, notB, cndT, cndF, Bool.not_true, Bool.not_false, Nat.zero_add, Nat.add_zero]
    refine ld_r (ldV_c (row_F hFb) hx) ?_
    refine iaN_r h1 ?_
    try simp only [gdTT, gdFF, gdTF, gdFT, pvS, pickT, pickF, faP, lenS, capS, nilP, exA, exB, exC, notB, cndT, cndF, Bool.not_true, Bool.not_false, Nat.zero_add, Nat.add_zero]
    refine ld_r (ldV_c (row_F hFb) (hj 1 (by decide))) ?_
    refine rof_c (fun N2 hN2 hw2 => ?_)
    refine ⟨ldV_c (row_F hFb) hx, ?_⟩
    obtain ⟨ka, kc, rfl, _⟩ := hkv.form
    refine pv_r (v := .agg (.slice ka l[s.1].1.length kc :: (ofC l[s.1].2).cs).toArray) (by kernel_rfl) ?_
    have hln := tab_len ((l.take s.1).map fr1)
    rw [List.length_map, List.length_take] at hln
    refine rlay_c ht hkv (hk _ (List.getElem_mem _)) (by omega) (fun v' F2 N3 hw3 hF2 hN3 ht' => ?_)
    refine inc_r (by omega) ?_
    refine next (s.1 + 1, v') _ _ (by simp only; omega) (fun hw4 => ⟨_, wk_refl hw4, F2, N3, rfl, hF.trans hF2, by omega, by simp only; omega, ?_⟩)
    simp only
    rw [tab_take fr1 l h1]
    exact ht'
  · try simp only [gdTT, gdFF, gdTF, gdFT, pvS, pickT, pickF, faP, lenS, capS, nilP, exA, exB, exC, notB, cndT, cndF, Bool.not_true, Bool.not_false, Nat.zero_add, Nat.add_zero]
    rw [t25_1_1_1]
    rw [List.take_of_length_le (by omega)] at ht
    exact fun hc => ⟨_, wk_refl hc, fun hw' => k _ _ _ hw' hF hN ht⟩
/-- Merge, of the reference -/
theorem rMerge_c {u v : Value} {a b : List Rw} (hu : tblD F u a) (hv : tblD F v b) (hla : a.length + b.length ≤ 1000000000) (hk : ∀ r ∈ a ++ b, r.1.length ≤ 10000000000)
    (k : ∀ v' F' N', (Hp.mk F' M N').wf → subF F F' → N ≤ N' → tblD F' v' (tab (a ++ b)) → K v' ⟨F', M, N'⟩) :
    callv Tryd.prog (.func (.func 28) #[] #[]) #[u, v] K E ⟨F, M, N⟩ := by
  refine callv_of_text mixed Tryd.func28 (by kernel_rfl) (t28 _ E _ _) (fun hw => ?_)
  obtain ⟨ru, hu1, hu2⟩ := hu
  obtain ⟨rv, hv1, hv2⟩ := hv
  have hlu : lenV u = some (.int .i64 (a.length : Nat)) := by obtain ⟨a, c, rfl, _⟩ := hu1.form; rfl
  have hlv : lenV v = some (.int .i64 (b.length : Nat)) := by obtain ⟨a, c, rfl, _⟩ := hv1.form; rfl
  refine l28_1_1_0_1_0_0 (σ := Nat × Value) (fun s => s.2) (fun s => .int .i64 (s.1 : Nat)) (fun s h => ∃ F' N', h = ⟨F', M, N'⟩ ∧ subF F F' ∧ N ≤ N' ∧ s.1 ≤ a.length ∧ tblD F' s.2 (tab (a.take s.1))) (fun s => a.length - s.1) (0, .slice none 0 0) rfl rfl
    (fun hw1 => ⟨_, wk_refl hw1, _, _, rfl, subF.refl _, Nat.le_refl _, Nat.zero_le _, tblD.nil⟩) (fun k1 s j h1 hI hw1 next => ?_)
  obtain ⟨F1, N1, rfl, hF, hN, hi, ht⟩ := hI
  simp only [hlu]
  try simp only [gdTT, gdFF, gdTF, gdFT, pvS, pickT, pickF, faP, lenS, capS, nilP, exA, exB, exC, notB, cndT, cndF, Bool.not_true, Bool.not_false, Nat.zero_add, Nat.add_zero]
  have hln := tab_len (a.take s.1)
  rw [List.length_take] at hln
  refine lss_r (fun hlt => ?_) (fun hge => ?_)
  · have h1 : s.1 < a.length := by omega
    try simp only [gdTT, gdFF, gdTF, gdFT, pvS, pickT, pickF, faP, lenS, capS, nilP, exA, exB, exC, notB, cndT, cndF, Bool.not_true, Bool.not_false, Nat.zero_add, Nat.add_zero]
    refine row_r (hu1.mono hF) (hu2.mono fun _ _ h => h.mono hF) (by decide) h1 fun p r hrr hR _ _ => ?_
    obtain ⟨kv, rfl, hkv, hkl⟩ := hR
    refine rlay_c ht hkv (hk _ (List.mem_append_left _ (List.getElem_mem _))) (by omega) (fun v' F2 N3 hw3 hF2 hN3 ht' => ?_)
    refine inc_r (by omega) ?_
    refine next (s.1 + 1, v') _ _ (by simp only; omega) (fun hw4 => ⟨_, wk_refl hw4, F2, N3, rfl, hF.trans hF2, by omega, by simp only; omega, ?_⟩)
    simp only
    have := tab_take id a h1
    simp only [List.map_id, id] at this
    rw [this]; exact ht'
  · try simp only [gdTT, gdFF, gdTF, gdFT, pvS, pickT, pickF, faP, lenS, capS, nilP, exA, exB, exC, notB, cndT, cndF, Bool.not_true, Bool.not_false, Nat.zero_add, Nat.add_zero]
    rw [t28_1_1_1]
    rw [List.take_of_length_le (by omega)] at ht
    refine l28_1_1_1_0_1_0_0 (σ := Nat × Value) (fun s => s.2) (fun s => .int .i64 (s.1 : Nat)) (fun s h => ∃ F' N', h = ⟨F', M, N'⟩ ∧ subF F F' ∧ N ≤ N' ∧ s.1 ≤ b.length ∧ tblD F' s.2 (tab (a ++ b.take s.1))) (fun s => b.length - s.1) (0, s.2) rfl rfl
      (fun hw1 => ⟨_, wk_refl hw1, _, _, rfl, hF, hN, Nat.zero_le _, by simpa using ht⟩) (fun k1 s j h1 hI hw1 next => ?_)
    obtain ⟨F1, N1, rfl, hF, hN, hi, ht⟩ := hI
    simp only [hlv]
    try simp only [gdTT, gdFF, gdTF, gdFT, pvS, pickT, pickF, faP, lenS, capS, nilP, exA, exB, exC, notB, cndT, cndF, Bool.not_true, Bool.not_false, Nat.zero_add, Nat.add_zero]
    have hln := tab_len (a ++ b.take s.1)
    rw [List.length_append, List.length_take] at hln
    refine lss_r (fun hlt => ?_) (fun hge => ?_)
    · have h1 : s.1 < b.length := by omega
      try simp only [gdTT, gdFF, gdTF, gdFT, pvS, pickT, pickF, faP, lenS, capS, nilP, exA, exB, exC, notB, cndT, cndF, Bool.not_true, Bool.not_false, Nat.zero_add, Nat.add_zero]
      refine row_r (hv1.mono hF) (hv2.mono fun _ _ h => h.mono hF) (by decide) h1 fun p r hrr hR _ _ => ?_
      obtain ⟨kv, rfl, hkv, hkl⟩ := hR
      refine rlay_c ht hkv (hk _ (List.mem_append_right _ (List.getElem_mem _))) (by omega) (fun v' F2 N3 hw3 hF2 hN3 ht' => ?_)
      refine inc_r (by omega) ?_
      refine next (s.1 + 1, v') _ _ (by simp only; omega) (fun hw4 => ⟨_, wk_refl hw4, F2, N3, rfl, hF.trans hF2, by omega, by simp only; omega, ?_⟩)
      simp only
      rw [List.take_add_one, List.getElem?_eq_getElem h1, Option.toList_some, ← List.append_assoc, tab_snoc]; exact ht'
    · try simp only [gdTT, gdFF, gdTF, gdFT, pvS, pickT, pickF, faP, lenS, capS, nilP, exA, exB, exC, notB, cndT, cndF, Bool.not_true, Bool.not_false, Nat.zero_add, Nat.add_zero]
      rw [t28_1_1_1_1]
      rw [List.take_of_length_le (by omega)] at ht
      exact fun hc => ⟨_, wk_refl hc, fun hw' => k _ _ _ hw' hF hN ht⟩
end Go.Proofs.YthpacapdaembpaaDoor.A
open Go Go.RowKit Go.Proofs.YthpacapdaembpaaDoor.K Go.Proofs.YthpacapdaembpaaDoor.T
set_option linter.unusedVariables false
set_option linter.unusedSimpArgs false
namespace Go.Proofs.YthpacapdaembpaaDoor.A
variable {F F' : Nat → Option (List Value)} {M M' : Nat → Option Chunk} {N N' : Nat} {K : Kont} {E : PanK}
/-- May a cell be? -/
def CE.ok (c : CE) : Bool := if c.n ≤ 0 then decide (c = ⟨0, 0, 0, 0⟩) else decide (c.lo ≤ c.hi ∧ (c.n > 1 ∨ (c.s = c.lo ∧ c.lo = c.hi)))
/-- Sound of a cell, of the reference -/
theorem rsound_c {c : CE} (k : ∀ N', N ≤ N' → (Hp.mk F M N').wf → K (.bool c.ok) ⟨F, M, N'⟩) : callv Tryd.prog (.func (.func 29) #[] #[]) #[.agg c.cs.toArray] K E ⟨F, M, N⟩ := by
  refine callv_of_text mixed Tryd.func29 (by kernel_rfl) (t29 _ E _) (fun hw => ?_)
  have hm := hw.m
  refine nw_r (cs := c.cs) (fun b hb => ?_)
  have fin : ∀ v, v = c.ok → ∀ h', h' = (⟨F, upd M b (some (.cells 41 c.cs c.cs.length)), b + 1⟩ : Hp) → h'.wf → ∃ h'', h'.wk h'' ∧ (h''.wf → K (.bool v) h'') := fun v e h' e' hc => by
    subst e; subst e'
    exact ⟨⟨F, M, b + 1⟩, wk_end hc, fun hw' => k _ (by omega) hw'⟩
  unfold CE.ok at fin
  try simp only [gdTT, gdFF, gdTF, gdFT, pvS, pickT, pickF, faP, lenS, capS, nilP, exA, exB, exC, notB, cndT, cndF, Bool.not_true, Bool.not_false, Nat.zero_add, Nat.add_zero]
  refine ldM (v := .int .i64 c.n) ?_
  refine leq_r (fun h => ?_) (fun h => ?_)
  · try simp only [gdTT, gdFF, gdTF, gdFT, pvS, pickT, pickF, faP, lenS, capS, nilP, exA, exB, exC, notB, cndT, cndF, Bool.not_true, Bool.not_false, Nat.zero_add, Nat.add_zero]
    refine ldMa (vs := c.cs) ?_
    refine pv_r (v := .agg (CE.mk 0 0 0 0).cs.toArray) (by kernel_rfl) ?_
    refine eqc_r (fin _ (by rw [if_pos h]) _ rfl)
  · try simp only [gdTT, gdFF, gdTF, gdFT, pvS, pickT, pickF, faP, lenS, capS, nilP, exA, exB, exC, notB, cndT, cndF, Bool.not_true, Bool.not_false, Nat.zero_add, Nat.add_zero]
    rw [if_neg h] at fin
    refine ldM (v := .int .i64 c.lo) ?_
    refine ldM (v := .int .i64 c.hi) ?_
    refine leq_r (fun h1 => ?_) (fun h1 => ?_)
    · try simp only [gdTT, gdFF, gdTF, gdFT, pvS, pickT, pickF, faP, lenS, capS, nilP, exA, exB, exC, notB, cndT, cndF, Bool.not_true, Bool.not_false, Nat.zero_add, Nat.add_zero]
      refine ldM (v := .int .i64 c.n) ?_
      refine gtr_r (fun h2 => ?_) (fun h2 => ?_)
      · try simp only [gdTT, gdFF, gdTF, gdFT, pvS, pickT, pickF, faP, lenS, capS, nilP, exA, exB, exC, notB, cndT, cndF, Bool.not_true, Bool.not_false, Nat.zero_add, Nat.add_zero]
        exact fin _ (decide_eq_true ⟨h1, .inl h2⟩).symm _ rfl
      · try simp only [gdTT, gdFF, gdTF, gdFT, pvS, pickT, pickF, faP, lenS, capS, nilP, exA, exB, exC, notB, cndT, cndF, Bool.not_true, Bool.not_false, Nat.zero_add, Nat.add_zero]
        refine ldM (v := .int .i64 c.s) (ldM (v := .int .i64 c.lo) ?_)
        refine eql_r (fun h3 => ?_) (fun h3 => ?_)
        · try simp only [gdTT, gdFF, gdTF, gdFT, pvS, pickT, pickF, faP, lenS, capS, nilP, exA, exB, exC, notB, cndT, cndF, Bool.not_true, Bool.not_false, Nat.zero_add, Nat.add_zero]
          refine ldM (v := .int .i64 c.lo) (ldM (v := .int .i64 c.hi) ?_)
          refine eql_r (fun h4 => ?_) (fun h4 => ?_)
          · try simp only [gdTT, gdFF, gdTF, gdFT, pvS, pickT, pickF, faP, lenS, capS, nilP, exA, exB, exC, notB, cndT, cndF, Bool.not_true, Bool.not_false, Nat.zero_add, Nat.add_zero]
            exact fin _ (decide_eq_true ⟨h1, .inr ⟨h3, h4⟩⟩).symm _ rfl
          · try simp only [gdTT, gdFF, gdTF, gdFT, pvS, pickT, pickF, faP, lenS, capS, nilP, exA, exB, exC, notB, cndT, cndF, Bool.not_true, Bool.not_false, Nat.zero_add, Nat.add_zero]
            exact fin _ (decide_eq_false fun q => by rcases q.2 with q | q; exact h2 q; exact h4 q.2).symm _ rfl
        · try simp only [gdTT, gdFF, gdTF, gdFT, pvS, pickT, pickF, faP, lenS, capS, nilP, exA, exB, exC, notB, cndT, cndF, Bool.not_true, Bool.not_false, Nat.zero_add, Nat.add_zero]
          exact fin _ (decide_eq_false fun q => by rcases q.2 with q | q; exact h2 q; exact h3 q.1).symm _ rfl
    · try simp only [gdTT, gdFF, gdTF, gdFT, pvS, pickT, pickF, faP, lenS, capS, nilP, exA, exB, exC, notB, cndT, cndF, Bool.not_true, Bool.not_false, Nat.zero_add, Nat.add_zero]
      exact fin _ (decide_eq_false fun q => h1 q.1).symm _ rfl
/-- cell.Sound -/
theorem sound_c {c : CE} (k : ∀ N', N ≤ N' → (Hp.mk F M N').wf → K (.bool c.ok) ⟨F, M, N'⟩) : callv Tryd.prog (.func (.func 78) #[] #[]) #[.agg c.cs.toArray] K E ⟨F, M, N⟩ := by
  refine callv_of_text mixed Tryd.func78 (by kernel_rfl) (t78 _ E _) (fun hw => ?_)
  have hm := hw.m
  refine nw_r (cs := c.cs) (fun b hb => ?_)
  have fin : ∀ v, v = c.ok → ∀ N', b + 1 ≤ N' → ∀ h', h' = (⟨F, upd M b (some (.cells 41 c.cs c.cs.length)), N'⟩ : Hp) → h'.wf → ∃ h'', h'.wk h'' ∧ (h''.wf → K (.bool v) h'') := fun v e N' hN h' e' hc => by
    subst e; subst e'
    exact ⟨⟨F, M, N'⟩, wk_end hc, fun hw' => k _ (by omega) hw'⟩
  unfold CE.ok at fin
  try simp only [gdTT, gdFF, gdTF, gdFT, pvS, pickT, pickF, faP, lenS, capS, nilP, exA, exB, exC, notB, cndT, cndF, Bool.not_true, Bool.not_false, Nat.zero_add, Nat.add_zero]
  refine ldM (v := .int .i64 c.n) ?_
  refine leq_r (fun h => ?_) (fun h => ?_)
  · try simp only [gdTT, gdFF, gdTF, gdFT, pvS, pickT, pickF, faP, lenS, capS, nilP, exA, exB, exC, notB, cndT, cndF, Bool.not_true, Bool.not_false, Nat.zero_add, Nat.add_zero]
    refine ldMa (vs := c.cs) ?_
    refine pv_r (v := .agg (CE.mk 0 0 0 0).cs.toArray) (by kernel_rfl) ?_
    refine eqc_r (fin _ (by rw [if_pos h]) _ (Nat.le_refl _) _ rfl)
  · try simp only [gdTT, gdFF, gdTF, gdFT, pvS, pickT, pickF, faP, lenS, capS, nilP, exA, exB, exC, notB, cndT, cndF, Bool.not_true, Bool.not_false, Nat.zero_add, Nat.add_zero]
    rw [if_neg h] at fin
    refine ldM (v := .int .i64 c.n) ?_
    refine eql_r (fun h1 => ?_) (fun h1 => ?_)
    · try simp only [gdTT, gdFF, gdTF, gdFT, pvS, pickT, pickF, faP, lenS, capS, nilP, exA, exB, exC, notB, cndT, cndF, Bool.not_true, Bool.not_false, Nat.zero_add, Nat.add_zero]
      refine ldMa (vs := c.cs) (ldM (v := .int .i64 c.s) ?_)
      refine of_c (fun N1 hN1 hw1 => ?_)
      refine ⟨ldV_a (row_M (upd_same _ _ _)) (by exact Nat.le_of_ble_eq_true rfl) rfl, ?_⟩
      refine eqc_r (fin _ ?_ _ hN1 _ rfl)
      obtain ⟨c1, c2, c3, c4⟩ := c
      simp only at h1 h ⊢
      subst h1
      congr 1
      simp
      omega
    · try simp only [gdTT, gdFF, gdTF, gdFT, pvS, pickT, pickF, faP, lenS, capS, nilP, exA, exB, exC, notB, cndT, cndF, Bool.not_true, Bool.not_false, Nat.zero_add, Nat.add_zero]
      refine ldM (v := .int .i64 c.lo) (ldM (v := .int .i64 c.hi) ?_)
      refine leq_r (fun h2 => ?_) (fun h2 => ?_)
      · exact fin _ (decide_eq_true ⟨h2, .inl (by omega)⟩).symm _ (Nat.le_refl _) _ rfl
      · exact fin _ (decide_eq_false fun q => h2 q.1).symm _ (Nat.le_refl _) _ rfl
/-- v < 0 -/
theorem neg_c {a : Int} {h : Hp} (k : K (.bool (decide (a < 0))) h) : callv Tryd.prog (.func (.func 80) #[] #[]) #[.int .i64 a] K E h := by
  obtain ⟨F, M, N⟩ := h
  refine callv_of_text mixed Tryd.func80 (by kernel_rfl) (t80 _ E _) (fun hw => ?_)
  refine lss_r (fun h => ?_) (fun h => ?_)
  · rw [decide_eq_true h] at k; exact fun hc => ⟨_, wk_refl hc, fun _ => k⟩
  · rw [decide_eq_false h] at k; exact fun hc => ⟨_, wk_refl hc, fun _ => k⟩
/-- Is one below 0? -/
def anyNeg (l : List Int) : Bool := l.any fun x => decide (x < 0)
theorem idx_c {v : Value} {l : List Int} (hv : sF F 1 v l.length (ic l)) (hl : l.length ≤ 140737488351232) (k : ∀ r : Int, (decide (r ≥ 0) = anyNeg l) → K (.int .i64 r) ⟨F, M, N⟩) :
    callv Tryd.prog (.func (.func 98) #[] #[]) #[v, .func (.func 80) #[] #[]] K E ⟨F, M, N⟩ := by
  refine callv_of_text mixed Tryd.func98 (by kernel_rfl) (t98 _ E _ _) (fun hw => ?_)
  refine lenF_r hv ?_
  refine l98_1_0_1_0_0 (σ := Nat) (fun i => .int .i64 (i : Nat)) (fun i h => h = ⟨F, M, N⟩ ∧ i ≤ l.length ∧ anyNeg l = anyNeg (l.drop i)) (fun i => l.length - i) 0 rfl
    (fun hw1 => ⟨_, wk_refl hw1, rfl, Nat.zero_le _, rfl⟩) (fun k1 i j h1 hI hw1 next => ?_)
  obtain ⟨rfl, hi, he⟩ := hI
  refine lss_r (fun hlt => ?_) (fun hge => ?_)
  · have h1 : i < l.length := by omega
    try simp only [gdTT, gdFF, gdTF, gdFT, pvS, pickT, pickF, faP, lenS, capS, nilP, exA, exB, exC, notB, cndT, cndF, Bool.not_true, Bool.not_false, Nat.zero_add, Nat.add_zero]
    refine ixn_r hv h1 fun p => neg_c ?_
    rw [List.drop_eq_getElem_cons h1] at he
    by_cases hn : l[i] < 0
    · rw [decide_eq_true hn]
      try simp only [gdTT, gdFF, gdTF, gdFT, pvS, pickT, pickF, faP, lenS, capS, nilP, exA, exB, exC, notB, cndT, cndF, Bool.not_true, Bool.not_false, Nat.zero_add, Nat.add_zero]
      refine fun hc => ⟨_, wk_refl hc, fun _ => k _ ?_⟩
      rw [he, decide_eq_true (by omega)]
      unfold anyNeg; rw [List.any_cons, decide_eq_true hn]; rfl
    · rw [decide_eq_false hn]
      try simp only [gdTT, gdFF, gdTF, gdFT, pvS, pickT, pickF, faP, lenS, capS, nilP, exA, exB, exC, notB, cndT, cndF, Bool.not_true, Bool.not_false, Nat.zero_add, Nat.add_zero]
      refine inc_r (by omega) ?_
      refine next (i + 1) _ _ (by omega) (fun hw2 => ⟨_, wk_refl hw2, rfl, by omega, ?_⟩)
      rw [he]; unfold anyNeg; rw [List.any_cons, decide_eq_false hn]; rfl
  · try simp only [gdTT, gdFF, gdTF, gdFT, pvS, pickT, pickF, faP, lenS, capS, nilP, exA, exB, exC, notB, cndT, cndF, Bool.not_true, Bool.not_false, Nat.zero_add, Nat.add_zero]
    rw [t98_1_1]
    refine fun hc => ⟨_, wk_refl hc, fun _ => k _ ?_⟩
    rw [he, List.drop_eq_nil_of_le (by omega)]; rfl
theorem cont_c {v : Value} {l : List Int} (hv : sF F 1 v l.length (ic l)) (hl : l.length ≤ 140737488351232) (k : K (.bool (anyNeg l)) ⟨F, M, N⟩) :
    callv Tryd.prog (.func (.func 79) #[] #[]) #[v, .func (.func 80) #[] #[]] K E ⟨F, M, N⟩ := by
  refine callv_of_text mixed Tryd.func79 (by kernel_rfl) (t79 _ E _ _) (fun hw => ?_)
  refine idx_c hv hl (fun r hr => ?_)
  refine geq_r (fun h => ?_) (fun h => ?_)
  · rw [decide_eq_true h] at hr; rw [← hr] at k; exact fun hc => ⟨_, wk_refl hc, fun _ => k⟩
  · rw [decide_eq_false h] at hr; rw [← hr] at k; exact fun hc => ⟨_, wk_refl hc, fun _ => k⟩
/-- May a row be in a table of so many places? -/
def okRow (p : Int) (r : Rw) : Bool := decide ((r.1.length : Int) = p) && decide (r.2.n > 0) && r.2.ok && !anyNeg r.1
/-- table.right -/
theorem right_c {cs : List Value} {r : Rw} {p : Int} (hr : rowD F cs r) (k : ∀ N', N ≤ N' → (Hp.mk F M N').wf → K (.bool (okRow p r)) ⟨F, M, N'⟩) :
    callv Tryd.prog (.func (.func 49) #[] #[]) #[.agg cs.toArray, .int .i64 p] K E ⟨F, M, N⟩ := by
  refine callv_of_text mixed Tryd.func49 (by kernel_rfl) (t49 _ E _ _) (fun hw => ?_)
  have hm := hw.m
  obtain ⟨v, rfl, hv, hvl⟩ := hr
  refine nw_r (cs := v :: r.2.cs) (fun b hb => ?_)
  have fin : ∀ v', v' = okRow p r → ∀ N', b + 1 ≤ N' → ∀ h', h' = (⟨F, upd M b (some (.cells 43 (v :: r.2.cs) (v :: r.2.cs).length)), N'⟩ : Hp) → h'.wf → ∃ h'', h'.wk h'' ∧ (h''.wf → K (.bool v') h'') := fun v' e N' hN h' e' hc => by
    subst e; subst e'
    exact ⟨⟨F, M, N'⟩, wk_end hc, fun hw' => k _ (by omega) hw'⟩
  unfold okRow at fin
  try simp only [gdTT, gdFF, gdTF, gdFT, pvS, pickT, pickF, faP, lenS, capS, nilP, exA, exB, exC, notB, cndT, cndF, Bool.not_true, Bool.not_false, Nat.zero_add, Nat.add_zero]
  refine ldM (v := v) (lenF_r hv ?_)
  refine eql_r (fun h => ?_) (fun h => ?_)
  · rw [decide_eq_true h] at fin
    try simp only [gdTT, gdFF, gdTF, gdFT, pvS, pickT, pickF, faP, lenS, capS, nilP, exA, exB, exC, notB, cndT, cndF, Bool.not_true, Bool.not_false, Nat.zero_add, Nat.add_zero]
    refine ldM (v := .int .i64 r.2.n) ?_
    refine gtr_r (fun h1 => ?_) (fun h1 => ?_)
    · rw [decide_eq_true h1] at fin
      try simp only [gdTT, gdFF, gdTF, gdFT, pvS, pickT, pickF, faP, lenS, capS, nilP, exA, exB, exC, notB, cndT, cndF, Bool.not_true, Bool.not_false, Nat.zero_add, Nat.add_zero]
      refine ldMa (vs := r.2.cs) ?_
      refine sound_c (fun N1 hN1 hw1 => ?_)
      cases hk : r.2.ok
      · rw [hk] at fin
        try simp only [gdTT, gdFF, gdTF, gdFT, pvS, pickT, pickF, faP, lenS, capS, nilP, exA, exB, exC, notB, cndT, cndF, Bool.not_true, Bool.not_false, Nat.zero_add, Nat.add_zero]
        exact fin _ (by simp) _ hN1 _ rfl
      · rw [hk] at fin
        try simp only [gdTT, gdFF, gdTF, gdFT, pvS, pickT, pickF, faP, lenS, capS, nilP, exA, exB, exC, notB, cndT, cndF, Bool.not_true, Bool.not_false, Nat.zero_add, Nat.add_zero]
        refine ldM (v := v) (cont_c hv hvl ?_)
        try simp only [gdTT, gdFF, gdTF, gdFT, pvS, pickT, pickF, faP, lenS, capS, nilP, exA, exB, exC, notB, cndT, cndF, Bool.not_true, Bool.not_false, Nat.zero_add, Nat.add_zero]
        exact fin _ (by simp) _ hN1 _ rfl
    · rw [decide_eq_false h1] at fin
      try simp only [gdTT, gdFF, gdTF, gdFT, pvS, pickT, pickF, faP, lenS, capS, nilP, exA, exB, exC, notB, cndT, cndF, Bool.not_true, Bool.not_false, Nat.zero_add, Nat.add_zero]
      exact fin _ (by simp) _ (Nat.le_refl _) _ rfl
  · rw [decide_eq_false h] at fin
    try simp only [gdTT, gdFF, gdTF, gdFT, pvS, pickT, pickF, faP, lenS, capS, nilP, exA, exB, exC, notB, cndT, cndF, Bool.not_true, Bool.not_false, Nat.zero_add, Nat.add_zero]
    exact fin _ (by simp) _ (Nat.le_refl _) _ rfl
end Go.Proofs.YthpacapdaembpaaDoor.A
open Go Go.RowKit Go.Proofs.YthpacapdaembpaaDoor.K Go.Proofs.YthpacapdaembpaaDoor.T
set_option linter.unusedVariables false
set_option linter.unusedSimpArgs false
namespace Go.Proofs.YthpacapdaembpaaDoor.A
variable {F F' : Nat → Option (List Value)} {M M' : Nat → Option Chunk} {N N' : Nat} {K : Kont} {E : PanK}
/-- Are rows a table, behind a key? -/
def soundL (p : Int) : Option (List Int) → List Rw → Bool
  | _, [] => true
  | o, r :: t => okRow p r && (match o with | none => true | some k => decide (kcmp k r.1 < 0)) && soundL p (some r.1) t
/-- Are rows a table? -/
def soundT (p : Int) (t : List Rw) : Bool := soundL p none t
def prevK (t : List Rw) (i : Nat) : Option (List Int) := if i = 0 then none else (t[i - 1]?).map (·.1)
theorem prevK_succ {t : List Rw} {i : Nat} (h : i < t.length) : prevK t (i + 1) = some t[i].1 := by simp [prevK, h]
theorem soundL_at {p : Int} {t : List Rw} {i : Nat} (h : i < t.length) : soundL p (prevK t i) (t.drop i) = (okRow p t[i] && (if h0 : 0 < i then decide (kcmp (t[i - 1]'(by omega)).1 t[i].1 < 0) else true) && soundL p (prevK t (i + 1)) (t.drop (i + 1))) := by
  rw [List.drop_eq_getElem_cons h, prevK_succ h]
  simp only [soundL]
  congr 2
  unfold prevK
  by_cases h0 : i = 0
  · simp [h0]
  · have : t[i - 1]? = some (t[i - 1]'(by omega)) := List.getElem?_eq_getElem _
    rw [if_neg h0, this, dif_pos (by omega)]
    rfl
/-- table.Sound -/
theorem tsound_c {v : Value} {t : List Rw} {p : Int} (hv : tblD F v t) (hl : t.length ≤ 140737488351232) (k : ∀ N', N ≤ N' → (Hp.mk F M N').wf → K (.bool (soundT p t)) ⟨F, M, N'⟩) :
    callv Tryd.prog (.func (.func 22) #[] #[]) #[v, .int .i64 p] K E ⟨F, M, N⟩ := by
  refine callv_of_text mixed Tryd.func22 (by kernel_rfl) (t22 _ E _ _) (fun hw => ?_)
  have hm : clean M N := hw.m
  obtain ⟨rows, hv1, hv2⟩ := hv
  refine lenF_r hv1 ?_
  refine l22_1_0_1_0_0 (σ := Nat) (fun i => .int .i64 (i : Nat)) (fun i h => ∃ N', h = ⟨F, M, N'⟩ ∧ N ≤ N' ∧ i ≤ t.length ∧ soundT p t = soundL p (prevK t i) (t.drop i)) (fun i => t.length - i) 0 rfl
    (fun hw1 => ⟨_, wk_refl hw1, _, rfl, Nat.le_refl _, Nat.zero_le _, rfl⟩) (fun k1 i j h1 hI hw1 next => ?_)
  obtain ⟨N1, rfl, hN, hi, he⟩ := hI
  refine lss_r (fun hlt => ?_) (fun hge => ?_)
  · have h1 : i < t.length := by omega
    rw [soundL_at h1] at he
    try simp only [gdTT, gdFF, gdTF, gdFT, pvS, pickT, pickF, faP, lenS, capS, nilP, exA, exB, exC, notB, cndT, cndF, Bool.not_true, Bool.not_false, Nat.zero_add, Nat.add_zero]
    refine row_r hv1 hv2 (by decide) h1 fun p' r _ hR _ _ => ?_
    have hRR := hR
    obtain ⟨kv, rfl, hkv, hkl⟩ := hR
    refine nw_r (fun b hb => ?_)
    refine stM (cs' := kv :: t[i].2.cs) ?_ (upd_same _ _ _) rfl rfl (by obtain ⟨a, c, rfl, _⟩ := hkv.form; exact List.all_eq_true.1 rfl)
    refine ldMa (vs := kv :: t[i].2.cs) ?_
    refine right_c hRR (fun N2 hN2 hw2 => ?_)
    have fin : ∀ v', v' = soundT p t → ∀ N', N2 ≤ N' → ∀ h', h' = (⟨F, upd (upd M b (some (.cells 43 [(.slice none 0 0), (.int .i64 0), (.int .i64 0), (.int .i64 0), (.int .i64 0)] [(Value.slice none 0 0), (.int .i64 0), (.int .i64 0), (.int .i64 0), (.int .i64 0)].length))) b (some (.cells 43 (kv :: t[i].2.cs) [(Value.slice none 0 0), (.int .i64 0), (.int .i64 0), (.int .i64 0), (.int .i64 0)].length)), N'⟩ : Hp) → h'.wf → ∃ h'', h'.wk h'' ∧ (h''.wf → K (.bool v') h'') := fun v' e N' hN h' e' hc => by
      subst e; subst e'
      exact ⟨⟨F, M, N'⟩, wk_drop hc (subM_drop (subM_drop (subM_refl _) (hm _ (by omega))) (hm _ (by omega))), fun hw' => k _ (by omega) hw'⟩
    cases hok : okRow p t[i]
    · rw [hok] at he
      try simp only [gdTT, gdFF, gdTF, gdFT, pvS, pickT, pickF, faP, lenS, capS, nilP, exA, exB, exC, notB, cndT, cndF, Bool.not_true, Bool.not_false, Nat.zero_add, Nat.add_zero]
      exact fin _ (by rw [he]; rfl) _ (Nat.le_refl _) _ rfl
    · rw [hok] at he
      try simp only [gdTT, gdFF, gdTF, gdFT, pvS, pickT, pickF, faP, lenS, capS, nilP, exA, exB, exC, notB, cndT, cndF, Bool.not_true, Bool.not_false, Nat.zero_add, Nat.add_zero]
      have nxt : (if h0 : 0 < i then decide (kcmp (t[i - 1]'(by omega)).1 t[i].1 < 0) else true) = true → ∀ N', N2 ≤ N' → ∀ (X : Value) (jj : Nat → Value), X = .int .i64 ((i + 1 : Nat) : Int) → ∀ h', h' = (⟨F, upd (upd M b (some (.cells 43 [(.slice none 0 0), (.int .i64 0), (.int .i64 0), (.int .i64 0), (.int .i64 0)] [(Value.slice none 0 0), (.int .i64 0), (.int .i64 0), (.int .i64 0), (.int .i64 0)].length))) b (some (.cells 43 (kv :: t[i].2.cs) [(Value.slice none 0 0), (.int .i64 0), (.int .i64 0), (.int .i64 0), (.int .i64 0)].length)), N'⟩ : Hp) → h'.wf → ∃ h'', h'.wk h'' ∧ (∃ N', h'' = ⟨F, M, N'⟩ ∧ N ≤ N' ∧ i + 1 ≤ t.length ∧ soundT p t = soundL p (prevK t (i + 1)) (t.drop (i + 1))) := fun e N' hN X jj hX h' e' hc => by
        subst e'
        exact ⟨⟨F, M, N'⟩, wk_drop hc (subM_drop (subM_drop (subM_refl _) (hm _ (by omega))) (hm _ (by omega))), N', rfl, by omega, h1, by rw [he, e]; rfl⟩
      refine gtr_r (fun hi0 => ?_) (fun hi0 => ?_)
      · have hi0' : 0 < i := by omega
        rw [dif_pos hi0'] at he nxt
        try simp only [gdTT, gdFF, gdTF, gdFT, pvS, pickT, pickF, faP, lenS, capS, nilP, exA, exB, exC, notB, cndT, cndF, Bool.not_true, Bool.not_false, Nat.zero_add, Nat.add_zero]
        refine sub_n (b := 1) (by omega) (by omega) ?_
        refine row_r hv1 hv2 (by decide) (show i - 1 < t.length by omega) fun p'' r' _ hR' _ _ => ?_
        refine ldMa (vs := kv :: t[i].2.cs) ?_
        refine less_c hR' hRR (fun N3 hN3 hw3 => ?_)
        refine geq_r (fun hc => ?_) (fun hc => ?_)
        · try simp only [gdTT, gdFF, gdTF, gdFT, pvS, pickT, pickF, faP, lenS, capS, nilP, exA, exB, exC, notB, cndT, cndF, Bool.not_true, Bool.not_false, Nat.zero_add, Nat.add_zero]
          exact fin _ (by rw [he, decide_eq_false (by omega)]; rfl) _ hN3 _ rfl
        · try simp only [gdTT, gdFF, gdTF, gdFT, pvS, pickT, pickF, faP, lenS, capS, nilP, exA, exB, exC, notB, cndT, cndF, Bool.not_true, Bool.not_false, Nat.zero_add, Nat.add_zero]
          refine inc_r (by omega) ?_
          exact next (i + 1) _ _ (by omega) (fun hw4 => nxt (decide_eq_true (by omega)) _ hN3 _ (fun _ => undef) rfl _ rfl hw4)
      · rw [dif_neg (by omega)] at he nxt
        try simp only [gdTT, gdFF, gdTF, gdFT, pvS, pickT, pickF, faP, lenS, capS, nilP, exA, exB, exC, notB, cndT, cndF, Bool.not_true, Bool.not_false, Nat.zero_add, Nat.add_zero]
        refine inc_r (by omega) ?_
        exact next (i + 1) _ _ (by omega) (fun hw4 => nxt rfl _ (Nat.le_refl _) _ (fun _ => undef) rfl _ rfl hw4)
  · try simp only [gdTT, gdFF, gdTF, gdFT, pvS, pickT, pickF, faP, lenS, capS, nilP, exA, exB, exC, notB, cndT, cndF, Bool.not_true, Bool.not_false, Nat.zero_add, Nat.add_zero]
    rw [t22_1_1]
    rw [List.drop_eq_nil_of_le (by omega)] at he
    have e2 : soundT p t = true := by rw [he]; rfl
    rw [e2] at k
    exact fun hc => ⟨_, wk_refl hc, fun hw' => k _ hN hw'⟩
end Go.Proofs.YthpacapdaembpaaDoor.A
open Go Go.RowKit Go.Proofs.YthpacapdaembpaaDoor.K Go.Proofs.YthpacapdaembpaaDoor.T
set_option linter.unusedVariables false
set_option linter.unusedSimpArgs false
namespace Go.Proofs.YthpacapdaembpaaDoor.A
variable {F F' : Nat → Option (List Value)} {M M' : Nat → Option Chunk} {N N' : Nat} {K : Kont} {E : PanK}
theorem ok_pos {c : CE} (h : c.ok = true) : (c.n > 0) ↔ ¬ c.n = 0 := by
  constructor
  · intro h1; omega
  · intro h1
    unfold CE.ok at h
    split at h
    · have := of_decide_eq_true h
      rw [this] at h1; exact absurd rfl h1
    · omega
theorem okRow_f1 {p : Int} {r : Rw} (h : anyNeg r.1 = true) : okRow p r = false := by unfold okRow; rw [h]; simp
theorem okRow_f2 {p : Int} {r : Rw} (h : ¬ (r.1.length : Int) = p) : okRow p r = false := by unfold okRow; rw [decide_eq_false h]; simp
theorem okRow_f3 {p : Int} {r : Rw} (h : r.2.ok = false) : okRow p r = false := by unfold okRow; rw [h]; simp
theorem okRow_f4 {p : Int} {r : Rw} (h : r.2.n = 0) : okRow p r = false := by unfold okRow; rw [h]; simp
theorem okRow_t {p : Int} {r : Rw} (h1 : anyNeg r.1 = false) (h2 : (r.1.length : Int) = p) (h3 : r.2.ok = true) (h4 : ¬ r.2.n = 0) : okRow p r = true := by
  unfold okRow; rw [h1, h3, decide_eq_true h2, decide_eq_true ((ok_pos h3).2 h4)]; rfl
/-- the cell's number of numbers -/
theorem n_r {v : Value} {t : List Rw} {rows : List (List Value)} {K : Value → Value → Value → Kont} (hv : sF F 5 v t.length rows.flatten) (hr : rowsF (rowD F) 5 rows t) {i : Nat} (hi : i < t.length)
    (k : ∀ p q q', K p q q' (.int .i64 t[i].2.n) ⟨F, M, N⟩) : pv (iaV none 5 v (.int .i64 (i : Nat))) (fun p => pv (faV 1 p) fun q => pv (faV 0 q) fun q' => ld false 1 q' (K p q q')) ⟨F, M, N⟩ := by
  obtain ⟨b, o, c, cs, r, rfl, hF, _, ⟨kv, rfl, _⟩, hl, h1, hle, ht, hj⟩ := row_at hv hr (by decide) hi
  exact iaN_r hi (pv_r rfl (pv_r rfl (ld_r (ldV_c (row_F hF) (hj 1 (by decide))) (k _ _ _))))
/-- Sound, of the reference -/
theorem rtsound_c {v : Value} {t : List Rw} {p : Int} (hv : tblD F v t) (hl : t.length ≤ 140737488351232) (k : ∀ N', N ≤ N' → (Hp.mk F M N').wf → K (.bool (soundT p t)) ⟨F, M, N'⟩) :
    callv Tryd.prog (.func (.func 23) #[] #[]) #[v, .int .i64 p] K E ⟨F, M, N⟩ := by
  refine callv_of_text mixed Tryd.func23 (by kernel_rfl) (t23 _ E _ _) (fun hw => ?_)
  obtain ⟨rows, hv1, hv2⟩ := hv
  have hlv : lenV v = some (.int .i64 (t.length : Nat)) := by obtain ⟨a, c, rfl, _⟩ := hv1.form; rfl
  refine l23_1_0_1_0_0 (σ := Nat) (fun i => .int .i64 (i : Nat)) (fun i h => ∃ N', h = ⟨F, M, N'⟩ ∧ N ≤ N' ∧ i ≤ t.length ∧ soundT p t = soundL p (prevK t i) (t.drop i)) (fun i => t.length - i) 0 rfl
    (fun hw1 => ⟨_, wk_refl hw1, _, rfl, Nat.le_refl _, Nat.zero_le _, rfl⟩) (fun k1 i j h1 hI hw1 next => ?_)
  obtain ⟨N1, rfl, hN, hi, he⟩ := hI
  simp only [hlv]
  try simp only [gdTT, gdFF, gdTF, gdFT, pvS, pickT, pickF, faP, lenS, capS, nilP, exA, exB, exC, notB, cndT, cndF, Bool.not_true, Bool.not_false, Nat.zero_add, Nat.add_zero]
  refine lss_r (fun hlt => ?_) (fun hge => ?_)
  · have h1 : i < t.length := by omega
    rw [soundL_at h1] at he
    try simp only [gdTT, gdFF, gdTF, gdFT, pvS, pickT, pickF, faP, lenS, capS, nilP, exA, exB, exC, notB, cndT, cndF, Bool.not_true, Bool.not_false, Nat.zero_add, Nat.add_zero]
    refine l23_1_0_1_0_0_1_0_0_0_1_0_0 (σ := Nat) (fun i => .int .i64 (i : Nat)) (fun m h => h = ⟨F, M, N1⟩ ∧ m ≤ t[i].1.length ∧ anyNeg t[i].1 = anyNeg (t[i].1.drop m)) (fun m => t[i].1.length - m) 0 rfl
      (fun hw1 => ⟨_, wk_refl hw1, rfl, Nat.zero_le _, rfl⟩) (fun k2 m j2 h2 hI2 hw2 next2 => ?_)
    obtain ⟨rfl, hm, hem⟩ := hI2
    have fin : ∀ N', N1 ≤ N' → soundT p t = false → ∀ h', h' = (⟨F, M, N'⟩ : Hp) → h'.wf → ∃ h'', h'.wk h'' ∧ (h''.wf → K (.bool false) h'') := fun N' hN' e h' e' hc => by
      subst e'
      rw [e] at k
      exact ⟨_, wk_refl hc, fun hw' => k _ (by omega) hw'⟩
    refine key_r hv1 hv2 h1 fun p' q kv hkv hkl => ?_
    refine lenF_r hkv ?_
    refine lss_r (fun hlt2 => ?_) (fun hge2 => ?_)
    · have h2 : m < t[i].1.length := by omega
      rw [List.drop_eq_getElem_cons h2] at hem
      try simp only [gdTT, gdFF, gdTF, gdFT, pvS, pickT, pickF, faP, lenS, capS, nilP, exA, exB, exC, notB, cndT, cndF, Bool.not_true, Bool.not_false, Nat.zero_add, Nat.add_zero]
      refine key_r hv1 hv2 h1 fun p' q kv hkv hkl => ?_
      refine ixn_r hkv h2 fun p'' => ?_
      refine lss_r (fun hn => ?_) (fun hn => ?_)
      · try simp only [gdTT, gdFF, gdTF, gdFT, pvS, pickT, pickF, faP, lenS, capS, nilP, exA, exB, exC, notB, cndT, cndF, Bool.not_true, Bool.not_false, Nat.zero_add, Nat.add_zero]
        refine fin _ (Nat.le_refl _) ?_ _ rfl
        rw [he, okRow_f1 (by rw [hem]; unfold anyNeg; rw [List.any_cons, decide_eq_true hn]; rfl)]; rfl
      · try simp only [gdTT, gdFF, gdTF, gdFT, pvS, pickT, pickF, faP, lenS, capS, nilP, exA, exB, exC, notB, cndT, cndF, Bool.not_true, Bool.not_false, Nat.zero_add, Nat.add_zero]
        refine inc_r (by omega) ?_
        exact next2 (m + 1) _ _ (by omega) (fun hw3 => ⟨_, wk_refl hw3, rfl, h2, by rw [hem]; unfold anyNeg; rw [List.any_cons, decide_eq_false hn]; rfl⟩)
    · try simp only [gdTT, gdFF, gdTF, gdFT, pvS, pickT, pickF, faP, lenS, capS, nilP, exA, exB, exC, notB, cndT, cndF, Bool.not_true, Bool.not_false, Nat.zero_add, Nat.add_zero]
      rw [t23_1_0_1_0_0_1_0_0_1]
      have hng : anyNeg t[i].1 = false := by rw [hem, List.drop_eq_nil_of_le (by omega)]; rfl
      refine key_r hv1 hv2 h1 fun p' q kv hkv hkl => ?_
      refine lenF_r hkv ?_
      refine neq_r (fun hlp => ?_) (fun hlp => ?_)
      · try simp only [gdTT, gdFF, gdTF, gdFT, pvS, pickT, pickF, faP, lenS, capS, nilP, exA, exB, exC, notB, cndT, cndF, Bool.not_true, Bool.not_false, Nat.zero_add, Nat.add_zero]
        exact fin _ (Nat.le_refl _) (by rw [he, okRow_f2 hlp]; rfl) _ rfl
      have hlp' : (t[i].1.length : Int) = p := by omega
      try simp only [gdTT, gdFF, gdTF, gdFT, pvS, pickT, pickF, faP, lenS, capS, nilP, exA, exB, exC, notB, cndT, cndF, Bool.not_true, Bool.not_false, Nat.zero_add, Nat.add_zero]
      refine cell_r hv1 hv2 h1 fun p' q => ?_
      refine rsound_c (fun N2 hN2 hw2 => ?_)
      cases hok : t[i].2.ok
      · try simp only [gdTT, gdFF, gdTF, gdFT, pvS, pickT, pickF, faP, lenS, capS, nilP, exA, exB, exC, notB, cndT, cndF, Bool.not_true, Bool.not_false, Nat.zero_add, Nat.add_zero]
        exact fin _ hN2 (by rw [he, okRow_f3 hok]; rfl) _ rfl
      try simp only [gdTT, gdFF, gdTF, gdFT, pvS, pickT, pickF, faP, lenS, capS, nilP, exA, exB, exC, notB, cndT, cndF, Bool.not_true, Bool.not_false, Nat.zero_add, Nat.add_zero]
      refine n_r hv1 hv2 h1 fun p' q q' => ?_
      refine eql_r (fun hn0 => ?_) (fun hn0 => ?_)
      · try simp only [gdTT, gdFF, gdTF, gdFT, pvS, pickT, pickF, faP, lenS, capS, nilP, exA, exB, exC, notB, cndT, cndF, Bool.not_true, Bool.not_false, Nat.zero_add, Nat.add_zero]
        exact fin _ hN2 (by rw [he, okRow_f4 hn0]; rfl) _ rfl
      rw [okRow_t hng hlp' hok hn0] at he
      try simp only [gdTT, gdFF, gdTF, gdFT, pvS, pickT, pickF, faP, lenS, capS, nilP, exA, exB, exC, notB, cndT, cndF, Bool.not_true, Bool.not_false, Nat.zero_add, Nat.add_zero]
      refine gtr_r (fun hi0 => ?_) (fun hi0 => ?_)
      · have hi0' : 0 < i := by omega
        rw [dif_pos hi0'] at he
        try simp only [gdTT, gdFF, gdTF, gdFT, pvS, pickT, pickF, faP, lenS, capS, nilP, exA, exB, exC, notB, cndT, cndF, Bool.not_true, Bool.not_false, Nat.zero_add, Nat.add_zero]
        refine sub_n (b := 1) (by omega) (by omega) ?_
        refine key_r hv1 hv2 (show i - 1 < t.length by omega) fun p1 q1 kv1 hkv1 hkl1 => ?_
        refine key_r hv1 hv2 h1 fun p' q kv hkv hkl => ?_
        refine rCmp_c hkv1 hkv hkl1 ?_
        refine geq_r (fun hc => ?_) (fun hc => ?_)
        · try simp only [gdTT, gdFF, gdTF, gdFT, pvS, pickT, pickF, faP, lenS, capS, nilP, exA, exB, exC, notB, cndT, cndF, Bool.not_true, Bool.not_false, Nat.zero_add, Nat.add_zero]
          exact fin _ hN2 (by rw [he, decide_eq_false (by omega)]; rfl) _ rfl
        · try simp only [gdTT, gdFF, gdTF, gdFT, pvS, pickT, pickF, faP, lenS, capS, nilP, exA, exB, exC, notB, cndT, cndF, Bool.not_true, Bool.not_false, Nat.zero_add, Nat.add_zero]
          rw [t23_1_0_1_0_0_1_1]
          refine inc_r (by omega) ?_
          exact next (i + 1) _ _ (by omega) (fun hw4 => ⟨_, wk_refl hw4, N2, rfl, by omega, h1, by rw [he, decide_eq_true (by omega)]; rfl⟩)
      · rw [dif_neg (by omega)] at he
        try simp only [gdTT, gdFF, gdTF, gdFT, pvS, pickT, pickF, faP, lenS, capS, nilP, exA, exB, exC, notB, cndT, cndF, Bool.not_true, Bool.not_false, Nat.zero_add, Nat.add_zero]
        rw [t23_1_0_1_0_0_1_1]
        refine inc_r (by omega) ?_
        exact next (i + 1) _ _ (by omega) (fun hw4 => ⟨_, wk_refl hw4, N2, rfl, by omega, h1, by rw [he]; rfl⟩)
  · try simp only [gdTT, gdFF, gdTF, gdFT, pvS, pickT, pickF, faP, lenS, capS, nilP, exA, exB, exC, notB, cndT, cndF, Bool.not_true, Bool.not_false, Nat.zero_add, Nat.add_zero]
    rw [t23_1_1]
    rw [List.drop_eq_nil_of_le (by omega)] at he
    have e2 : soundT p t = true := by rw [he]; rfl
    rw [e2] at k
    exact fun hc => ⟨_, wk_refl hc, fun hw' => k _ hN hw'⟩
end Go.Proofs.YthpacapdaembpaaDoor.A
open Go Go.RowKit Go.Proofs.YthpacapdaembpaaDoor.K
set_option linter.unusedVariables false
set_option maxRecDepth 100000
namespace Go.Proofs.YthpacapdaembpaaDoor.T
theorem t19 (K : Kont) (E : PanK) (x0 : Value)  : den Tryd.prog (sel (bodyOf Tryd.f19) []) (bodyQ Tryd.prog Tryd.f19.results.toList K E) #[x0, undef, undef, undef, undef, undef, undef, undef, undef, undef, undef, undef, undef, undef, undef, undef, undef, undef, undef, undef, undef, undef, undef, undef, undef, undef, undef, undef, undef, undef, undef, undef, undef, undef, undef, undef, undef, undef, undef, undef, undef, undef, undef, undef, undef, undef, undef, undef, undef, undef, undef, undef, undef, undef, undef, undef, undef, undef, undef, undef, undef, undef, undef, undef, undef, undef, undef, undef, undef, undef, undef, undef, undef] =
  lp (fun k1 => den Tryd.prog (sel (bodyOf Tryd.f19) [1, 1, 0, 1, 0, 0]) (thenD k1 (blk 0 (thenD (den Tryd.prog (sel (bodyOf Tryd.f19) [1, 1, 1]) (bodyQ Tryd.prog Tryd.f19.results.toList K E)) (bodyQ Tryd.prog Tryd.f19.results.toList K E))))) #[x0, undef, (.slice none 0 0), (.slice none 0 0), (.int .i64 0), undef, undef, undef, undef, undef, undef, undef, undef, undef, undef, undef, undef, undef, undef, undef, undef, undef, undef, undef, undef, undef, undef, undef, undef, undef, undef, undef, undef, undef, undef, undef, undef, undef, undef, undef, undef, undef, undef, undef, undef, undef, undef, undef, undef, undef, undef, undef, undef, undef, undef, undef, undef, undef, undef, undef, undef, undef, undef, undef, undef, undef, undef, undef, undef, undef, undef, undef, undef] := by kernel_rfl
def m19_1_1_0_1_0_0 (x0 x1 x2 x64 x65 x66 x67 x68 x69 x70 x71 x72 : Value) (v3 v4 : Value) (j : Nat → Value) : Env := #[x0, x1, x2, v3, v4, (j 5), (j 6), (j 7), (j 8), (j 9), (j 10), (j 11), (j 12), (j 13), (j 14), (j 15), (j 16), (j 17), (j 18), (j 19), (j 20), (j 21), (j 22), (j 23), (j 24), (j 25), (j 26), (j 27), (j 28), (j 29), (j 30), (j 31), (j 32), (j 33), (j 34), (j 35), (j 36), (j 37), (j 38), (j 39), (j 40), (j 41), (j 42), (j 43), (j 44), (j 45), (j 46), (j 47), (j 48), (j 49), (j 50), (j 51), (j 52), (j 53), (j 54), (j 55), (j 56), (j 57), (j 58), (j 59), (j 60), (j 61), (j 62), (j 63), x64, x65, x66, x67, x68, x69, x70, x71, x72]
theorem t19_1_1_0_1_0_0 (K : Kont) (E : PanK) (k1 : Env → Hp → Prop) (x0 x1 x2 x64 x65 x66 x67 x68 x69 x70 x71 x72 v3 v4 : Value) (j : Nat → Value) : den Tryd.prog (sel (bodyOf Tryd.f19) [1, 1, 0, 1, 0, 0]) (thenD k1 (blk 0 (thenD (den Tryd.prog (sel (bodyOf Tryd.f19) [1, 1, 1]) (bodyQ Tryd.prog Tryd.f19.results.toList K E)) (bodyQ Tryd.prog Tryd.f19.results.toList K E)))) (m19_1_1_0_1_0_0 x0 x1 x2 x64 x65 x66 x67 x68 x69 x70 x71 x72 v3 v4 j) =
  pv (lenV x0) fun t1 =>
  pv (binV .none .lss v4 t1) fun t2 =>
  gdK t2 true (fun k => k v4) fun t3 =>
  gdK t2 true (fun k => pv (binV .none .lss t3 (.int .i64 4)) k) fun t4 =>
  pv (pickV t2 t4 (.bool false)) fun t5 =>
  cnd t5 (
    pv (iaV none 2 x0 v4) fun t6 =>
    pv (faV 0 t6) fun t7 =>
    ld false 1 t7 fun t8 =>
    pv (binV .none .rem t8 (.int .u16 200)) fun t9 =>
    pv (cvV .i64 t9) fun t10 =>
    pv (binV .none .add (.int .i64 1) t10) fun t11 =>
    pv (bdC #[(.int .i64 0), (.slice none 0 0)] [(0, 1), (1, 1)] #[(0, t11)]) fun t12 =>
    nw 51 [(.int .i64 0), (.slice none 0 0)] fun t13 =>
    st 2 t13 t12 fun _ =>
    lp (fun k2 => den Tryd.prog (sel (bodyOf Tryd.f19) [1, 1, 0, 1, 0, 0, 1, 0, 0, 1, 1, 0, 1, 0, 0]) (thenD k2 (blk 2 (thenD (den Tryd.prog (sel (bodyOf Tryd.f19) [1, 1, 0, 1, 0, 0, 1, 0, 0, 1, 1, 1]) (blk 1 (thenD (den Tryd.prog (sel (bodyOf Tryd.f19) [1, 1, 0, 1, 0, 0, 1, 1]) (thenD k1 (blk 0 (thenD (den Tryd.prog (sel (bodyOf Tryd.f19) [1, 1, 1]) (bodyQ Tryd.prog Tryd.f19.results.toList K E)) (bodyQ Tryd.prog Tryd.f19.results.toList K E))))) (thenD k1 (blk 0 (thenD (den Tryd.prog (sel (bodyOf Tryd.f19) [1, 1, 1]) (bodyQ Tryd.prog Tryd.f19.results.toList K E)) (bodyQ Tryd.prog Tryd.f19.results.toList K E))))))) (blk 1 (thenD (den Tryd.prog (sel (bodyOf Tryd.f19) [1, 1, 0, 1, 0, 0, 1, 1]) (thenD k1 (blk 0 (thenD (den Tryd.prog (sel (bodyOf Tryd.f19) [1, 1, 1]) (bodyQ Tryd.prog Tryd.f19.results.toList K E)) (bodyQ Tryd.prog Tryd.f19.results.toList K E))))) (thenD k1 (blk 0 (thenD (den Tryd.prog (sel (bodyOf Tryd.f19) [1, 1, 1]) (bodyQ Tryd.prog Tryd.f19.results.toList K E)) (bodyQ Tryd.prog Tryd.f19.results.toList K E)))))))))) #[x0, x1, x2, v3, v4, t13, (.int .i64 1), (.int .i64 0), v4, x0, t1, t2, t2, t3, t4, t5, (j 16), (j 17), x0, v4, t6, t7, t8, t9, t10, t11, t12, (j 27), (j 28), (j 29), (j 30), (j 31), (j 32), (j 33), (j 34), (j 35), (j 36), (j 37), (j 38), (j 39), (j 40), (j 41), (j 42), (j 43), (j 44), (j 45), (j 46), (j 47), (j 48), (j 49), (j 50), (j 51), (j 52), (j 53), (j 54), (j 55), (j 56), (j 57), (j 58), (j 59), (j 60), (j 61), (j 62), (j 63), x64, x65, x66, x67, x68, x69, x70, x71, x72]) (
    den Tryd.prog (sel (bodyOf Tryd.f19) [1, 1, 1]) (bodyQ Tryd.prog Tryd.f19.results.toList K E) #[x0, x1, x2, v3, v4, (j 5), (j 6), (j 7), v4, x0, t1, t2, t2, t3, t4, t5, (j 16), (j 17), (j 18), (j 19), (j 20), (j 21), (j 22), (j 23), (j 24), (j 25), (j 26), (j 27), (j 28), (j 29), (j 30), (j 31), (j 32), (j 33), (j 34), (j 35), (j 36), (j 37), (j 38), (j 39), (j 40), (j 41), (j 42), (j 43), (j 44), (j 45), (j 46), (j 47), (j 48), (j 49), (j 50), (j 51), (j 52), (j 53), (j 54), (j 55), (j 56), (j 57), (j 58), (j 59), (j 60), (j 61), (j 62), (j 63), x64, x65, x66, x67, x68, x69, x70, x71, x72]) := by kernel_rfl
theorem t19_1_1_1 (K : Kont) (E : PanK) (x0 x1 x2 x3 x4 x5 x6 x7 x8 x9 x10 x11 x12 x13 x14 x15 x16 x17 x18 x19 x20 x21 x22 x23 x24 x25 x26 x27 x28 x29 x30 x31 x32 x33 x34 x35 x36 x37 x38 x39 x40 x41 x42 x43 x44 x45 x46 x47 x48 x49 x50 x51 x52 x53 x54 x55 x56 x57 x58 x59 x60 x61 x62 x63 x64 x65 x66 x67 x68 x69 x70 x71 x72 : Value)  : den Tryd.prog (sel (bodyOf Tryd.f19) [1, 1, 1]) (bodyQ Tryd.prog Tryd.f19.results.toList K E) #[x0, x1, x2, x3, x4, x5, x6, x7, x8, x9, x10, x11, x12, x13, x14, x15, x16, x17, x18, x19, x20, x21, x22, x23, x24, x25, x26, x27, x28, x29, x30, x31, x32, x33, x34, x35, x36, x37, x38, x39, x40, x41, x42, x43, x44, x45, x46, x47, x48, x49, x50, x51, x52, x53, x54, x55, x56, x57, x58, x59, x60, x61, x62, x63, x64, x65, x66, x67, x68, x69, x70, x71, x72] =
  pv (lenV x3) fun t1 =>
  pv (binV .none .eql t1 (.int .i64 0)) fun t2 =>
  cnd t2 (
    nws 3 1 (bsC #[(.int .i64 0)] 1 1 #[(0, (.int .i64 10))]) fun t3 =>
    pv (bdC #[(.int .i64 0), (.slice none 0 0)] [(0, 1), (1, 1)] #[(0, (.int .i64 100)), (1, t3)]) fun t4 =>
    nws 51 1 (bsC #[(.int .i64 0), (.slice none 0 0)] 2 1 #[(0, t4)]) fun t5 =>
    appX 51 2 32 x3 t5 fun t6 =>
    den Tryd.prog (sel (bodyOf Tryd.f19) [1, 1, 1, 1]) (bodyQ Tryd.prog Tryd.f19.results.toList K E) #[x0, x1, x2, t6, x4, x5, x6, x7, x8, x9, x10, x11, x12, x13, x14, x15, x16, x17, x18, x19, x20, x21, x22, x23, x24, x25, x26, x27, x28, x29, x30, x31, x32, x33, x34, x35, x36, x37, x38, x39, x40, x41, x42, x43, x44, x45, x46, x47, x48, x49, x50, x51, x52, x53, x54, x55, x56, x57, x58, x59, x60, x61, x62, x63, x3, t1, t2, x3, t3, t4, t5, t6, x72]) (
    den Tryd.prog (sel (bodyOf Tryd.f19) [1, 1, 1, 1]) (bodyQ Tryd.prog Tryd.f19.results.toList K E) #[x0, x1, x2, x3, x4, x5, x6, x7, x8, x9, x10, x11, x12, x13, x14, x15, x16, x17, x18, x19, x20, x21, x22, x23, x24, x25, x26, x27, x28, x29, x30, x31, x32, x33, x34, x35, x36, x37, x38, x39, x40, x41, x42, x43, x44, x45, x46, x47, x48, x49, x50, x51, x52, x53, x54, x55, x56, x57, x58, x59, x60, x61, x62, x63, x3, t1, t2, x67, x68, x69, x70, x71, x72]) := by kernel_rfl
def m19_1_1_0_1_0_0_1_0_0_1_1_0_1_0_0 (x0 x1 x2 x3 x4 x5 x8 x9 x10 x11 x12 x13 x14 x15 x16 x17 x18 x19 x20 x21 x22 x23 x24 x25 x26 x60 x61 x62 x63 x64 x65 x66 x67 x68 x69 x70 x71 x72 : Value) (v6 v7 : Value) (j : Nat → Value) : Env := #[x0, x1, x2, x3, x4, x5, v6, v7, x8, x9, x10, x11, x12, x13, x14, x15, x16, x17, x18, x19, x20, x21, x22, x23, x24, x25, x26, (j 27), (j 28), (j 29), (j 30), (j 31), (j 32), (j 33), (j 34), (j 35), (j 36), (j 37), (j 38), (j 39), (j 40), (j 41), (j 42), (j 43), (j 44), (j 45), (j 46), (j 47), (j 48), (j 49), (j 50), (j 51), (j 52), (j 53), (j 54), (j 55), (j 56), (j 57), (j 58), (j 59), x60, x61, x62, x63, x64, x65, x66, x67, x68, x69, x70, x71, x72]
theorem t19_1_1_0_1_0_0_1_0_0_1_1_0_1_0_0 (K : Kont) (E : PanK) (k1 k2 : Env → Hp → Prop) (x0 x1 x2 x3 x4 x5 x8 x9 x10 x11 x12 x13 x14 x15 x16 x17 x18 x19 x20 x21 x22 x23 x24 x25 x26 x60 x61 x62 x63 x64 x65 x66 x67 x68 x69 x70 x71 x72 v6 v7 : Value) (j : Nat → Value) : den Tryd.prog (sel (bodyOf Tryd.f19) [1, 1, 0, 1, 0, 0, 1, 0, 0, 1, 1, 0, 1, 0, 0]) (thenD k2 (blk 2 (thenD (den Tryd.prog (sel (bodyOf Tryd.f19) [1, 1, 0, 1, 0, 0, 1, 0, 0, 1, 1, 1]) (blk 1 (thenD (den Tryd.prog (sel (bodyOf Tryd.f19) [1, 1, 0, 1, 0, 0, 1, 1]) (thenD k1 (blk 0 (thenD (den Tryd.prog (sel (bodyOf Tryd.f19) [1, 1, 1]) (bodyQ Tryd.prog Tryd.f19.results.toList K E)) (bodyQ Tryd.prog Tryd.f19.results.toList K E))))) (thenD k1 (blk 0 (thenD (den Tryd.prog (sel (bodyOf Tryd.f19) [1, 1, 1]) (bodyQ Tryd.prog Tryd.f19.results.toList K E)) (bodyQ Tryd.prog Tryd.f19.results.toList K E))))))) (blk 1 (thenD (den Tryd.prog (sel (bodyOf Tryd.f19) [1, 1, 0, 1, 0, 0, 1, 1]) (thenD k1 (blk 0 (thenD (den Tryd.prog (sel (bodyOf Tryd.f19) [1, 1, 1]) (bodyQ Tryd.prog Tryd.f19.results.toList K E)) (bodyQ Tryd.prog Tryd.f19.results.toList K E))))) (thenD k1 (blk 0 (thenD (den Tryd.prog (sel (bodyOf Tryd.f19) [1, 1, 1]) (bodyQ Tryd.prog Tryd.f19.results.toList K E)) (bodyQ Tryd.prog Tryd.f19.results.toList K E))))))))) (m19_1_1_0_1_0_0_1_0_0_1_1_0_1_0_0 x0 x1 x2 x3 x4 x5 x8 x9 x10 x11 x12 x13 x14 x15 x16 x17 x18 x19 x20 x21 x22 x23 x24 x25 x26 x60 x61 x62 x63 x64 x65 x66 x67 x68 x69 x70 x71 x72 v6 v7 j) =
  pv (iaV none 2 x0 x4) fun t1 =>
  pv (faV 1 t1) fun t2 =>
  ld false 1 t2 fun t3 =>
  pv (lenV t3) fun t4 =>
  pv (binV .none .lss v7 t4) fun t5 =>
  gdK t5 true (fun k => k v7) fun t6 =>
  gdK t5 true (fun k => pv (binV .none .lss t6 (.int .i64 4)) k) fun t7 =>
  pv (pickV t5 t7 (.bool false)) fun t8 =>
  cnd t8 (
    pv (iaV none 2 x0 x4) fun t9 =>
    pv (faV 1 t9) fun t10 =>
    ld false 1 t10 fun t11 =>
    pv (iaV none 1 t11 v7) fun t12 =>
    ld false 1 t12 fun t13 =>
    pv (binV .none .rem t13 (.int .u8 4)) fun t14 =>
    pv (cvV .i64 t14) fun t15 =>
    pv (binV .none .add (.int .i64 2) t15) fun t16 =>
    pv (binV .none .mul v6 t16) fun t17 =>
    pv (faV 1 x5) fun t18 =>
    ld false 1 t18 fun t19 =>
    nws 3 1 (bsC #[(.int .i64 0)] 1 1 #[(0, t17)]) fun t20 =>
    appX 3 1 8 t19 t20 fun t21 =>
    pv (faV 1 x5) fun t22 =>
    st 1 t22 t21 fun _ =>
    pv (binV .none .add v7 (.int .i64 1)) fun t23 =>
    k2 (m19_1_1_0_1_0_0_1_0_0_1_1_0_1_0_0 x0 x1 x2 x3 x4 x5 x8 x9 x10 x11 x12 x13 x14 x15 x16 x17 x18 x19 x20 x21 x22 x23 x24 x25 x26 x60 x61 x62 x63 x64 x65 x66 x67 x68 x69 x70 x71 x72 t17 t23 (jf #[x0, x1, x2, x3, x4, x5, t17, t23, x8, x9, x10, x11, x12, x13, x14, x15, x16, x17, x18, x19, x20, x21, x22, x23, x24, x25, x26, v7, x0, x4, t1, t2, t3, t4, t5, t5, t6, t7, t8, v7, t23, v6, x0, x4, t9, t10, t11, v7, t12, t13, t14, t15, t16, t17, t18, t19, t17, t20, t21, t22, x60, x61, x62, x63, x64, x65, x66, x67, x68, x69, x70, x71, x72]))) (
    den Tryd.prog (sel (bodyOf Tryd.f19) [1, 1, 0, 1, 0, 0, 1, 0, 0, 1, 1, 1]) (blk 1 (thenD (den Tryd.prog (sel (bodyOf Tryd.f19) [1, 1, 0, 1, 0, 0, 1, 1]) (thenD k1 (blk 0 (thenD (den Tryd.prog (sel (bodyOf Tryd.f19) [1, 1, 1]) (bodyQ Tryd.prog Tryd.f19.results.toList K E)) (bodyQ Tryd.prog Tryd.f19.results.toList K E))))) (thenD k1 (blk 0 (thenD (den Tryd.prog (sel (bodyOf Tryd.f19) [1, 1, 1]) (bodyQ Tryd.prog Tryd.f19.results.toList K E)) (bodyQ Tryd.prog Tryd.f19.results.toList K E)))))) #[x0, x1, x2, x3, x4, x5, v6, v7, x8, x9, x10, x11, x12, x13, x14, x15, x16, x17, x18, x19, x20, x21, x22, x23, x24, x25, x26, v7, x0, x4, t1, t2, t3, t4, t5, t5, t6, t7, t8, (j 39), (j 40), (j 41), (j 42), (j 43), (j 44), (j 45), (j 46), (j 47), (j 48), (j 49), (j 50), (j 51), (j 52), (j 53), (j 54), (j 55), (j 56), (j 57), (j 58), (j 59), x60, x61, x62, x63, x64, x65, x66, x67, x68, x69, x70, x71, x72]) := by kernel_rfl
theorem t19_1_1_0_1_0_0_1_0_0_1_1_1 (K : Kont) (E : PanK) (k1 : Env → Hp → Prop) (x0 x1 x2 x3 x4 x5 x6 x7 x8 x9 x10 x11 x12 x13 x14 x15 x16 x17 x18 x19 x20 x21 x22 x23 x24 x25 x26 x27 x28 x29 x30 x31 x32 x33 x34 x35 x36 x37 x38 x39 x40 x41 x42 x43 x44 x45 x46 x47 x48 x49 x50 x51 x52 x53 x54 x55 x56 x57 x58 x59 x60 x61 x62 x63 x64 x65 x66 x67 x68 x69 x70 x71 x72 : Value)  : den Tryd.prog (sel (bodyOf Tryd.f19) [1, 1, 0, 1, 0, 0, 1, 0, 0, 1, 1, 1]) (blk 1 (thenD (den Tryd.prog (sel (bodyOf Tryd.f19) [1, 1, 0, 1, 0, 0, 1, 1]) (thenD k1 (blk 0 (thenD (den Tryd.prog (sel (bodyOf Tryd.f19) [1, 1, 1]) (bodyQ Tryd.prog Tryd.f19.results.toList K E)) (bodyQ Tryd.prog Tryd.f19.results.toList K E))))) (thenD k1 (blk 0 (thenD (den Tryd.prog (sel (bodyOf Tryd.f19) [1, 1, 1]) (bodyQ Tryd.prog Tryd.f19.results.toList K E)) (bodyQ Tryd.prog Tryd.f19.results.toList K E)))))) #[x0, x1, x2, x3, x4, x5, x6, x7, x8, x9, x10, x11, x12, x13, x14, x15, x16, x17, x18, x19, x20, x21, x22, x23, x24, x25, x26, x27, x28, x29, x30, x31, x32, x33, x34, x35, x36, x37, x38, x39, x40, x41, x42, x43, x44, x45, x46, x47, x48, x49, x50, x51, x52, x53, x54, x55, x56, x57, x58, x59, x60, x61, x62, x63, x64, x65, x66, x67, x68, x69, x70, x71, x72] =
  ld true 2 x5 fun t1 =>
  nws 51 1 (bsC #[(.int .i64 0), (.slice none 0 0)] 2 1 #[(0, t1)]) fun t2 =>
  appX 51 2 32 x3 t2 fun t3 =>
  den Tryd.prog (sel (bodyOf Tryd.f19) [1, 1, 0, 1, 0, 0, 1, 1]) (thenD k1 (blk 0 (thenD (den Tryd.prog (sel (bodyOf Tryd.f19) [1, 1, 1]) (bodyQ Tryd.prog Tryd.f19.results.toList K E)) (bodyQ Tryd.prog Tryd.f19.results.toList K E)))) #[x0, x1, x2, t3, x4, x5, x6, x7, x8, x9, x10, x11, x12, x13, x14, x15, x16, x17, x18, x19, x20, x21, x22, x23, x24, x25, x26, x27, x28, x29, x30, x31, x32, x33, x34, x35, x36, x37, x38, x39, x40, x41, x42, x43, x44, x45, x46, x47, x48, x49, x50, x51, x52, x53, x54, x55, x56, x57, x58, x59, x3, t1, t2, t3, x64, x65, x66, x67, x68, x69, x70, x71, x72] := by kernel_rfl
theorem t19_1_1_1_1 (K : Kont) (E : PanK) (x0 x1 x2 x3 x4 x5 x6 x7 x8 x9 x10 x11 x12 x13 x14 x15 x16 x17 x18 x19 x20 x21 x22 x23 x24 x25 x26 x27 x28 x29 x30 x31 x32 x33 x34 x35 x36 x37 x38 x39 x40 x41 x42 x43 x44 x45 x46 x47 x48 x49 x50 x51 x52 x53 x54 x55 x56 x57 x58 x59 x60 x61 x62 x63 x64 x65 x66 x67 x68 x69 x70 x71 x72 : Value)  : den Tryd.prog (sel (bodyOf Tryd.f19) [1, 1, 1, 1]) (bodyQ Tryd.prog Tryd.f19.results.toList K E) #[x0, x1, x2, x3, x4, x5, x6, x7, x8, x9, x10, x11, x12, x13, x14, x15, x16, x17, x18, x19, x20, x21, x22, x23, x24, x25, x26, x27, x28, x29, x30, x31, x32, x33, x34, x35, x36, x37, x38, x39, x40, x41, x42, x43, x44, x45, x46, x47, x48, x49, x50, x51, x52, x53, x54, x55, x56, x57, x58, x59, x60, x61, x62, x63, x64, x65, x66, x67, x68, x69, x70, x71, x72] =
  K x3 := by kernel_rfl
theorem t19_1_1_0_1_0_0_1_1 (K : Kont) (E : PanK) (k1 : Env → Hp → Prop) (x0 x1 x2 x3 x4 x5 x6 x7 x8 x9 x10 x11 x12 x13 x14 x15 x16 x17 x18 x19 x20 x21 x22 x23 x24 x25 x26 x27 x28 x29 x30 x31 x32 x33 x34 x35 x36 x37 x38 x39 x40 x41 x42 x43 x44 x45 x46 x47 x48 x49 x50 x51 x52 x53 x54 x55 x56 x57 x58 x59 x60 x61 x62 x63 x64 x65 x66 x67 x68 x69 x70 x71 x72 : Value)  : den Tryd.prog (sel (bodyOf Tryd.f19) [1, 1, 0, 1, 0, 0, 1, 1]) (thenD k1 (blk 0 (thenD (den Tryd.prog (sel (bodyOf Tryd.f19) [1, 1, 1]) (bodyQ Tryd.prog Tryd.f19.results.toList K E)) (bodyQ Tryd.prog Tryd.f19.results.toList K E)))) #[x0, x1, x2, x3, x4, x5, x6, x7, x8, x9, x10, x11, x12, x13, x14, x15, x16, x17, x18, x19, x20, x21, x22, x23, x24, x25, x26, x27, x28, x29, x30, x31, x32, x33, x34, x35, x36, x37, x38, x39, x40, x41, x42, x43, x44, x45, x46, x47, x48, x49, x50, x51, x52, x53, x54, x55, x56, x57, x58, x59, x60, x61, x62, x63, x64, x65, x66, x67, x68, x69, x70, x71, x72] =
  pv (binV .none .add x4 (.int .i64 1)) fun t1 =>
  k1 (m19_1_1_0_1_0_0 x0 x1 x2 x64 x65 x66 x67 x68 x69 x70 x71 x72 x3 t1 (jf #[x0, x1, x2, x3, t1, x5, x6, x7, x8, x9, x10, x11, x12, x13, x14, x15, x4, t1, x18, x19, x20, x21, x22, x23, x24, x25, x26, x27, x28, x29, x30, x31, x32, x33, x34, x35, x36, x37, x38, x39, x40, x41, x42, x43, x44, x45, x46, x47, x48, x49, x50, x51, x52, x53, x54, x55, x56, x57, x58, x59, x60, x61, x62, x63, x64, x65, x66, x67, x68, x69, x70, x71, x72])) := by kernel_rfl
theorem l19_1_1_0_1_0_0 {K : Kont} {E : PanK} {σ : Type} {x0 x1 x2 x64 x65 x66 x67 x68 x69 x70 x71 x72 v3 v4 y5 y6 y7 y8 y9 y10 y11 y12 y13 y14 y15 y16 y17 y18 y19 y20 y21 y22 y23 y24 y25 y26 y27 y28 y29 y30 y31 y32 y33 y34 y35 y36 y37 y38 y39 y40 y41 y42 y43 y44 y45 y46 y47 y48 y49 y50 y51 y52 y53 y54 y55 y56 y57 y58 y59 y60 y61 y62 y63 : Value} {h : Hp} (f3 f4 : σ → Value) (I : σ → Hp → Prop) (μ : σ → Nat) (s0 : σ) (e3 : v3 = f3 s0) (e4 : v4 = f4 s0) (h0 : h.wf → ∃ h', h.wk h' ∧ I s0 h')
  (round : ∀ (k1 : Env → Hp → Prop) (s : σ) (j : Nat → Value) (h : Hp), I s h → h.wf → (∀ s' j' h', μ s' < μ s → (h'.wf → ∃ h'', h'.wk h'' ∧ I s' h'') → k1 (m19_1_1_0_1_0_0 x0 x1 x2 x64 x65 x66 x67 x68 x69 x70 x71 x72 (f3 s') (f4 s') j') h') → (
  pv (lenV x0) fun t1 =>
  pv (binV .none .lss (f4 s) t1) fun t2 =>
  gdK t2 true (fun k => k (f4 s)) fun t3 =>
  gdK t2 true (fun k => pv (binV .none .lss t3 (.int .i64 4)) k) fun t4 =>
  pv (pickV t2 t4 (.bool false)) fun t5 =>
  cnd t5 (
    pv (iaV none 2 x0 (f4 s)) fun t6 =>
    pv (faV 0 t6) fun t7 =>
    ld false 1 t7 fun t8 =>
    pv (binV .none .rem t8 (.int .u16 200)) fun t9 =>
    pv (cvV .i64 t9) fun t10 =>
    pv (binV .none .add (.int .i64 1) t10) fun t11 =>
    pv (bdC #[(.int .i64 0), (.slice none 0 0)] [(0, 1), (1, 1)] #[(0, t11)]) fun t12 =>
    nw 51 [(.int .i64 0), (.slice none 0 0)] fun t13 =>
    st 2 t13 t12 fun _ =>
    lp (fun k2 => den Tryd.prog (sel (bodyOf Tryd.f19) [1, 1, 0, 1, 0, 0, 1, 0, 0, 1, 1, 0, 1, 0, 0]) (thenD k2 (blk 2 (thenD (den Tryd.prog (sel (bodyOf Tryd.f19) [1, 1, 0, 1, 0, 0, 1, 0, 0, 1, 1, 1]) (blk 1 (thenD (den Tryd.prog (sel (bodyOf Tryd.f19) [1, 1, 0, 1, 0, 0, 1, 1]) (thenD k1 (blk 0 (thenD (den Tryd.prog (sel (bodyOf Tryd.f19) [1, 1, 1]) (bodyQ Tryd.prog Tryd.f19.results.toList K E)) (bodyQ Tryd.prog Tryd.f19.results.toList K E))))) (thenD k1 (blk 0 (thenD (den Tryd.prog (sel (bodyOf Tryd.f19) [1, 1, 1]) (bodyQ Tryd.prog Tryd.f19.results.toList K E)) (bodyQ Tryd.prog Tryd.f19.results.toList K E))))))) (blk 1 (thenD (den Tryd.prog (sel (bodyOf Tryd.f19) [1, 1, 0, 1, 0, 0, 1, 1]) (thenD k1 (blk 0 (thenD (den Tryd.prog (sel (bodyOf Tryd.f19) [1, 1, 1]) (bodyQ Tryd.prog Tryd.f19.results.toList K E)) (bodyQ Tryd.prog Tryd.f19.results.toList K E))))) (thenD k1 (blk 0 (thenD (den Tryd.prog (sel (bodyOf Tryd.f19) [1, 1, 1]) (bodyQ Tryd.prog Tryd.f19.results.toList K E)) (bodyQ Tryd.prog Tryd.f19.results.toList K E)))))))))) #[x0, x1, x2, (f3 s), (f4 s), t13, (.int .i64 1), (.int .i64 0), (f4 s), x0, t1, t2, t2, t3, t4, t5, (j 16), (j 17), x0, (f4 s), t6, t7, t8, t9, t10, t11, t12, (j 27), (j 28), (j 29), (j 30), (j 31), (j 32), (j 33), (j 34), (j 35), (j 36), (j 37), (j 38), (j 39), (j 40), (j 41), (j 42), (j 43), (j 44), (j 45), (j 46), (j 47), (j 48), (j 49), (j 50), (j 51), (j 52), (j 53), (j 54), (j 55), (j 56), (j 57), (j 58), (j 59), (j 60), (j 61), (j 62), (j 63), x64, x65, x66, x67, x68, x69, x70, x71, x72]) (
    den Tryd.prog (sel (bodyOf Tryd.f19) [1, 1, 1]) (bodyQ Tryd.prog Tryd.f19.results.toList K E) #[x0, x1, x2, (f3 s), (f4 s), (j 5), (j 6), (j 7), (f4 s), x0, t1, t2, t2, t3, t4, t5, (j 16), (j 17), (j 18), (j 19), (j 20), (j 21), (j 22), (j 23), (j 24), (j 25), (j 26), (j 27), (j 28), (j 29), (j 30), (j 31), (j 32), (j 33), (j 34), (j 35), (j 36), (j 37), (j 38), (j 39), (j 40), (j 41), (j 42), (j 43), (j 44), (j 45), (j 46), (j 47), (j 48), (j 49), (j 50), (j 51), (j 52), (j 53), (j 54), (j 55), (j 56), (j 57), (j 58), (j 59), (j 60), (j 61), (j 62), (j 63), x64, x65, x66, x67, x68, x69, x70, x71, x72])) h) :
  lp (fun k1 => den Tryd.prog (sel (bodyOf Tryd.f19) [1, 1, 0, 1, 0, 0]) (thenD k1 (blk 0 (thenD (den Tryd.prog (sel (bodyOf Tryd.f19) [1, 1, 1]) (bodyQ Tryd.prog Tryd.f19.results.toList K E)) (bodyQ Tryd.prog Tryd.f19.results.toList K E))))) #[x0, x1, x2, v3, v4, y5, y6, y7, y8, y9, y10, y11, y12, y13, y14, y15, y16, y17, y18, y19, y20, y21, y22, y23, y24, y25, y26, y27, y28, y29, y30, y31, y32, y33, y34, y35, y36, y37, y38, y39, y40, y41, y42, y43, y44, y45, y46, y47, y48, y49, y50, y51, y52, y53, y54, y55, y56, y57, y58, y59, y60, y61, y62, y63, x64, x65, x66, x67, x68, x69, x70, x71, x72] h := by
  subst e3
  subst e4
  have e : (#[x0, x1, x2, (f3 s0), (f4 s0), y5, y6, y7, y8, y9, y10, y11, y12, y13, y14, y15, y16, y17, y18, y19, y20, y21, y22, y23, y24, y25, y26, y27, y28, y29, y30, y31, y32, y33, y34, y35, y36, y37, y38, y39, y40, y41, y42, y43, y44, y45, y46, y47, y48, y49, y50, y51, y52, y53, y54, y55, y56, y57, y58, y59, y60, y61, y62, y63, x64, x65, x66, x67, x68, x69, x70, x71, x72] : Env) = m19_1_1_0_1_0_0 x0 x1 x2 x64 x65 x66 x67 x68 x69 x70 x71 x72 (f3 s0) (f4 s0) (jf #[x0, x1, x2, (f3 s0), (f4 s0), y5, y6, y7, y8, y9, y10, y11, y12, y13, y14, y15, y16, y17, y18, y19, y20, y21, y22, y23, y24, y25, y26, y27, y28, y29, y30, y31, y32, y33, y34, y35, y36, y37, y38, y39, y40, y41, y42, y43, y44, y45, y46, y47, y48, y49, y50, y51, y52, y53, y54, y55, y56, y57, y58, y59, y60, y61, y62, y63, x64, x65, x66, x67, x68, x69, x70, x71, x72]) := by kernel_rfl
  rw [e]
  exact loop_r (fun s j => m19_1_1_0_1_0_0 x0 x1 x2 x64 x65 x66 x67 x68 x69 x70 x71 x72 (f3 s) (f4 s) j) I μ (fun k s j h hI hw next => by rw [t19_1_1_0_1_0_0]; exact round k s j h hI hw next) s0 (jf #[x0, x1, x2, (f3 s0), (f4 s0), y5, y6, y7, y8, y9, y10, y11, y12, y13, y14, y15, y16, y17, y18, y19, y20, y21, y22, y23, y24, y25, y26, y27, y28, y29, y30, y31, y32, y33, y34, y35, y36, y37, y38, y39, y40, y41, y42, y43, y44, y45, y46, y47, y48, y49, y50, y51, y52, y53, y54, y55, y56, y57, y58, y59, y60, y61, y62, y63, x64, x65, x66, x67, x68, x69, x70, x71, x72]) h0
theorem l19_1_1_0_1_0_0_1_0_0_1_1_0_1_0_0 {K : Kont} {E : PanK} {k1 : Env → Hp → Prop} {σ : Type} {x0 x1 x2 x3 x4 x5 x8 x9 x10 x11 x12 x13 x14 x15 x16 x17 x18 x19 x20 x21 x22 x23 x24 x25 x26 x60 x61 x62 x63 x64 x65 x66 x67 x68 x69 x70 x71 x72 v6 v7 y27 y28 y29 y30 y31 y32 y33 y34 y35 y36 y37 y38 y39 y40 y41 y42 y43 y44 y45 y46 y47 y48 y49 y50 y51 y52 y53 y54 y55 y56 y57 y58 y59 : Value} {h : Hp} (f6 f7 : σ → Value) (I : σ → Hp → Prop) (μ : σ → Nat) (s0 : σ) (e6 : v6 = f6 s0) (e7 : v7 = f7 s0) (h0 : h.wf → ∃ h', h.wk h' ∧ I s0 h')
  (round : ∀ (k2 : Env → Hp → Prop) (s : σ) (j : Nat → Value) (h : Hp), I s h → h.wf → (∀ s' j' h', μ s' < μ s → (h'.wf → ∃ h'', h'.wk h'' ∧ I s' h'') → k2 (m19_1_1_0_1_0_0_1_0_0_1_1_0_1_0_0 x0 x1 x2 x3 x4 x5 x8 x9 x10 x11 x12 x13 x14 x15 x16 x17 x18 x19 x20 x21 x22 x23 x24 x25 x26 x60 x61 x62 x63 x64 x65 x66 x67 x68 x69 x70 x71 x72 (f6 s') (f7 s') j') h') → (
  pv (iaV none 2 x0 x4) fun t1 =>
  pv (faV 1 t1) fun t2 =>
  ld false 1 t2 fun t3 =>
  pv (lenV t3) fun t4 =>
  pv (binV .none .lss (f7 s) t4) fun t5 =>
  gdK t5 true (fun k => k (f7 s)) fun t6 =>
  gdK t5 true (fun k => pv (binV .none .lss t6 (.int .i64 4)) k) fun t7 =>
  pv (pickV t5 t7 (.bool false)) fun t8 =>
  cnd t8 (
    pv (iaV none 2 x0 x4) fun t9 =>
    pv (faV 1 t9) fun t10 =>
    ld false 1 t10 fun t11 =>
    pv (iaV none 1 t11 (f7 s)) fun t12 =>
    ld false 1 t12 fun t13 =>
    pv (binV .none .rem t13 (.int .u8 4)) fun t14 =>
    pv (cvV .i64 t14) fun t15 =>
    pv (binV .none .add (.int .i64 2) t15) fun t16 =>
    pv (binV .none .mul (f6 s) t16) fun t17 =>
    pv (faV 1 x5) fun t18 =>
    ld false 1 t18 fun t19 =>
    nws 3 1 (bsC #[(.int .i64 0)] 1 1 #[(0, t17)]) fun t20 =>
    appX 3 1 8 t19 t20 fun t21 =>
    pv (faV 1 x5) fun t22 =>
    st 1 t22 t21 fun _ =>
    pv (binV .none .add (f7 s) (.int .i64 1)) fun t23 =>
    k2 (m19_1_1_0_1_0_0_1_0_0_1_1_0_1_0_0 x0 x1 x2 x3 x4 x5 x8 x9 x10 x11 x12 x13 x14 x15 x16 x17 x18 x19 x20 x21 x22 x23 x24 x25 x26 x60 x61 x62 x63 x64 x65 x66 x67 x68 x69 x70 x71 x72 t17 t23 (jf #[x0, x1, x2, x3, x4, x5, t17, t23, x8, x9, x10, x11, x12, x13, x14, x15, x16, x17, x18, x19, x20, x21, x22, x23, x24, x25, x26, (f7 s), x0, x4, t1, t2, t3, t4, t5, t5, t6, t7, t8, (f7 s), t23, (f6 s), x0, x4, t9, t10, t11, (f7 s), t12, t13, t14, t15, t16, t17, t18, t19, t17, t20, t21, t22, x60, x61, x62, x63, x64, x65, x66, x67, x68, x69, x70, x71, x72]))) (
    den Tryd.prog (sel (bodyOf Tryd.f19) [1, 1, 0, 1, 0, 0, 1, 0, 0, 1, 1, 1]) (blk 1 (thenD (den Tryd.prog (sel (bodyOf Tryd.f19) [1, 1, 0, 1, 0, 0, 1, 1]) (thenD k1 (blk 0 (thenD (den Tryd.prog (sel (bodyOf Tryd.f19) [1, 1, 1]) (bodyQ Tryd.prog Tryd.f19.results.toList K E)) (bodyQ Tryd.prog Tryd.f19.results.toList K E))))) (thenD k1 (blk 0 (thenD (den Tryd.prog (sel (bodyOf Tryd.f19) [1, 1, 1]) (bodyQ Tryd.prog Tryd.f19.results.toList K E)) (bodyQ Tryd.prog Tryd.f19.results.toList K E)))))) #[x0, x1, x2, x3, x4, x5, (f6 s), (f7 s), x8, x9, x10, x11, x12, x13, x14, x15, x16, x17, x18, x19, x20, x21, x22, x23, x24, x25, x26, (f7 s), x0, x4, t1, t2, t3, t4, t5, t5, t6, t7, t8, (j 39), (j 40), (j 41), (j 42), (j 43), (j 44), (j 45), (j 46), (j 47), (j 48), (j 49), (j 50), (j 51), (j 52), (j 53), (j 54), (j 55), (j 56), (j 57), (j 58), (j 59), x60, x61, x62, x63, x64, x65, x66, x67, x68, x69, x70, x71, x72])) h) :
  lp (fun k2 => den Tryd.prog (sel (bodyOf Tryd.f19) [1, 1, 0, 1, 0, 0, 1, 0, 0, 1, 1, 0, 1, 0, 0]) (thenD k2 (blk 2 (thenD (den Tryd.prog (sel (bodyOf Tryd.f19) [1, 1, 0, 1, 0, 0, 1, 0, 0, 1, 1, 1]) (blk 1 (thenD (den Tryd.prog (sel (bodyOf Tryd.f19) [1, 1, 0, 1, 0, 0, 1, 1]) (thenD k1 (blk 0 (thenD (den Tryd.prog (sel (bodyOf Tryd.f19) [1, 1, 1]) (bodyQ Tryd.prog Tryd.f19.results.toList K E)) (bodyQ Tryd.prog Tryd.f19.results.toList K E))))) (thenD k1 (blk 0 (thenD (den Tryd.prog (sel (bodyOf Tryd.f19) [1, 1, 1]) (bodyQ Tryd.prog Tryd.f19.results.toList K E)) (bodyQ Tryd.prog Tryd.f19.results.toList K E))))))) (blk 1 (thenD (den Tryd.prog (sel (bodyOf Tryd.f19) [1, 1, 0, 1, 0, 0, 1, 1]) (thenD k1 (blk 0 (thenD (den Tryd.prog (sel (bodyOf Tryd.f19) [1, 1, 1]) (bodyQ Tryd.prog Tryd.f19.results.toList K E)) (bodyQ Tryd.prog Tryd.f19.results.toList K E))))) (thenD k1 (blk 0 (thenD (den Tryd.prog (sel (bodyOf Tryd.f19) [1, 1, 1]) (bodyQ Tryd.prog Tryd.f19.results.toList K E)) (bodyQ Tryd.prog Tryd.f19.results.toList K E)))))))))) #[x0, x1, x2, x3, x4, x5, v6, v7, x8, x9, x10, x11, x12, x13, x14, x15, x16, x17, x18, x19, x20, x21, x22, x23, x24, x25, x26, y27, y28, y29, y30, y31, y32, y33, y34, y35, y36, y37, y38, y39, y40, y41, y42, y43, y44, y45, y46, y47, y48, y49, y50, y51, y52, y53, y54, y55, y56, y57, y58, y59, x60, x61, x62, x63, x64, x65, x66, x67, x68, x69, x70, x71, x72] h := by
  subst e6
  subst e7
  have e : (#[x0, x1, x2, x3, x4, x5, (f6 s0), (f7 s0), x8, x9, x10, x11, x12, x13, x14, x15, x16, x17, x18, x19, x20, x21, x22, x23, x24, x25, x26, y27, y28, y29, y30, y31, y32, y33, y34, y35, y36, y37, y38, y39, y40, y41, y42, y43, y44, y45, y46, y47, y48, y49, y50, y51, y52, y53, y54, y55, y56, y57, y58, y59, x60, x61, x62, x63, x64, x65, x66, x67, x68, x69, x70, x71, x72] : Env) = m19_1_1_0_1_0_0_1_0_0_1_1_0_1_0_0 x0 x1 x2 x3 x4 x5 x8 x9 x10 x11 x12 x13 x14 x15 x16 x17 x18 x19 x20 x21 x22 x23 x24 x25 x26 x60 x61 x62 x63 x64 x65 x66 x67 x68 x69 x70 x71 x72 (f6 s0) (f7 s0) (jf #[x0, x1, x2, x3, x4, x5, (f6 s0), (f7 s0), x8, x9, x10, x11, x12, x13, x14, x15, x16, x17, x18, x19, x20, x21, x22, x23, x24, x25, x26, y27, y28, y29, y30, y31, y32, y33, y34, y35, y36, y37, y38, y39, y40, y41, y42, y43, y44, y45, y46, y47, y48, y49, y50, y51, y52, y53, y54, y55, y56, y57, y58, y59, x60, x61, x62, x63, x64, x65, x66, x67, x68, x69, x70, x71, x72]) := by kernel_rfl
  rw [e]
  exact loop_r (fun s j => m19_1_1_0_1_0_0_1_0_0_1_1_0_1_0_0 x0 x1 x2 x3 x4 x5 x8 x9 x10 x11 x12 x13 x14 x15 x16 x17 x18 x19 x20 x21 x22 x23 x24 x25 x26 x60 x61 x62 x63 x64 x65 x66 x67 x68 x69 x70 x71 x72 (f6 s) (f7 s) j) I μ (fun k s j h hI hw next => by rw [t19_1_1_0_1_0_0_1_0_0_1_1_0_1_0_0]; exact round k s j h hI hw next) s0 (jf #[x0, x1, x2, x3, x4, x5, (f6 s0), (f7 s0), x8, x9, x10, x11, x12, x13, x14, x15, x16, x17, x18, x19, x20, x21, x22, x23, x24, x25, x26, y27, y28, y29, y30, y31, y32, y33, y34, y35, y36, y37, y38, y39, y40, y41, y42, y43, y44, y45, y46, y47, y48, y49, y50, y51, y52, y53, y54, y55, y56, y57, y58, y59, x60, x61, x62, x63, x64, x65, x66, x67, x68, x69, x70, x71, x72]) h0

theorem t21 (K : Kont) (E : PanK) (x0 x1 x2 : Value)  : den Tryd.prog (sel (bodyOf Tryd.f21) []) (bodyQ Tryd.prog Tryd.f21.results.toList K E) #[x0, x1, x2, undef, undef, undef, undef, undef, undef, undef, undef, undef, undef, undef, undef, undef, undef, undef, undef, undef, undef, undef, undef, undef, undef, undef, undef, undef, undef, undef, undef, undef, undef, undef, undef, undef, undef, undef, undef, undef, undef, undef, undef] =
  lp (fun k1 => den Tryd.prog (sel (bodyOf Tryd.f21) [1, 1, 0, 1, 0, 0]) (thenD k1 (blk 0 (thenD (den Tryd.prog (sel (bodyOf Tryd.f21) [1, 1, 1]) (bodyQ Tryd.prog Tryd.f21.results.toList K E)) (bodyQ Tryd.prog Tryd.f21.results.toList K E))))) #[x0, x1, x2, undef, undef, undef, (.slice none 0 0), (.slice none 0 0), (.int .i64 0), undef, undef, undef, undef, undef, undef, undef, undef, undef, undef, undef, undef, undef, undef, undef, undef, undef, undef, undef, undef, undef, undef, undef, undef, undef, undef, undef, undef, undef, undef, undef, undef, undef, undef] := by kernel_rfl
def m21_1_1_0_1_0_0 (x0 x1 x2 x3 x4 x5 x6 x42 : Value) (v7 v8 : Value) (j : Nat → Value) : Env := #[x0, x1, x2, x3, x4, x5, x6, v7, v8, (j 9), (j 10), (j 11), (j 12), (j 13), (j 14), (j 15), (j 16), (j 17), (j 18), (j 19), (j 20), (j 21), (j 22), (j 23), (j 24), (j 25), (j 26), (j 27), (j 28), (j 29), (j 30), (j 31), (j 32), (j 33), (j 34), (j 35), (j 36), (j 37), (j 38), (j 39), (j 40), (j 41), x42]
theorem t21_1_1_0_1_0_0 (K : Kont) (E : PanK) (k1 : Env → Hp → Prop) (x0 x1 x2 x3 x4 x5 x6 x42 v7 v8 : Value) (j : Nat → Value) : den Tryd.prog (sel (bodyOf Tryd.f21) [1, 1, 0, 1, 0, 0]) (thenD k1 (blk 0 (thenD (den Tryd.prog (sel (bodyOf Tryd.f21) [1, 1, 1]) (bodyQ Tryd.prog Tryd.f21.results.toList K E)) (bodyQ Tryd.prog Tryd.f21.results.toList K E)))) (m21_1_1_0_1_0_0 x0 x1 x2 x3 x4 x5 x6 x42 v7 v8 j) =
  pv (lenV x1) fun t1 =>
  pv (binV .none .lss v8 t1) fun t2 =>
  gdK t2 true (fun k => k v8) fun t3 =>
  gdK t2 true (fun k => pv (binV .none .lss t3 (.int .i64 200)) k) fun t4 =>
  pv (pickV t2 t4 (.bool false)) fun t5 =>
  cnd t5 (
    pv (iaV none 1 x1 v8) fun t6 =>
    ld false 1 t6 fun t7 =>
    callv Tryd.prog (.func (.func 48) #[] #[]) #[x0, t7] (fun t8 =>
    pv (bdC #[(.slice none 0 0), (.int .i64 0)] [(0, 1), (1, 1)] #[(0, t8)]) fun t9 =>
    nw 39 [(.slice none 0 0), (.int .i64 0)] fun t10 =>
    st 2 t10 t9 fun _ =>
    pv (lenV x2) fun t11 =>
    pv (binV .none .gtr t11 (.int .i64 0)) fun t12 =>
    cnd t12 (
      pv (lenV x2) fun t13 =>
      pv (binV .none .rem v8 t13) fun t14 =>
      pv (iaV none 1 x2 t14) fun t15 =>
      ld false 1 t15 fun t16 =>
      pv (faV 1 t10) fun t17 =>
      st 1 t17 t16 fun _ =>
      den Tryd.prog (sel (bodyOf Tryd.f21) [1, 1, 0, 1, 0, 0, 1, 0, 0, 1, 1]) (blk 1 (thenD (den Tryd.prog (sel (bodyOf Tryd.f21) [1, 1, 0, 1, 0, 0, 1, 1]) (thenD k1 (blk 0 (thenD (den Tryd.prog (sel (bodyOf Tryd.f21) [1, 1, 1]) (bodyQ Tryd.prog Tryd.f21.results.toList K E)) (bodyQ Tryd.prog Tryd.f21.results.toList K E))))) (thenD k1 (blk 0 (thenD (den Tryd.prog (sel (bodyOf Tryd.f21) [1, 1, 1]) (bodyQ Tryd.prog Tryd.f21.results.toList K E)) (bodyQ Tryd.prog Tryd.f21.results.toList K E)))))) #[x0, x1, x2, x3, x4, x5, x6, v7, v8, t10, v8, x1, t1, t2, t2, t3, t4, t5, (j 18), (j 19), x0, x1, v8, t6, t7, t8, t9, x2, t11, t12, x2, v8, x2, t13, t14, t15, t16, t17, (j 38), (j 39), (j 40), (j 41), x42]) (
      den Tryd.prog (sel (bodyOf Tryd.f21) [1, 1, 0, 1, 0, 0, 1, 0, 0, 1, 1]) (blk 1 (thenD (den Tryd.prog (sel (bodyOf Tryd.f21) [1, 1, 0, 1, 0, 0, 1, 1]) (thenD k1 (blk 0 (thenD (den Tryd.prog (sel (bodyOf Tryd.f21) [1, 1, 1]) (bodyQ Tryd.prog Tryd.f21.results.toList K E)) (bodyQ Tryd.prog Tryd.f21.results.toList K E))))) (thenD k1 (blk 0 (thenD (den Tryd.prog (sel (bodyOf Tryd.f21) [1, 1, 1]) (bodyQ Tryd.prog Tryd.f21.results.toList K E)) (bodyQ Tryd.prog Tryd.f21.results.toList K E)))))) #[x0, x1, x2, x3, x4, x5, x6, v7, v8, t10, v8, x1, t1, t2, t2, t3, t4, t5, (j 18), (j 19), x0, x1, v8, t6, t7, t8, t9, x2, t11, t12, (j 30), (j 31), (j 32), (j 33), (j 34), (j 35), (j 36), (j 37), (j 38), (j 39), (j 40), (j 41), x42])) E) (
    den Tryd.prog (sel (bodyOf Tryd.f21) [1, 1, 1]) (bodyQ Tryd.prog Tryd.f21.results.toList K E) #[x0, x1, x2, x3, x4, x5, x6, v7, v8, (j 9), v8, x1, t1, t2, t2, t3, t4, t5, (j 18), (j 19), (j 20), (j 21), (j 22), (j 23), (j 24), (j 25), (j 26), (j 27), (j 28), (j 29), (j 30), (j 31), (j 32), (j 33), (j 34), (j 35), (j 36), (j 37), (j 38), (j 39), (j 40), (j 41), x42]) := by kernel_rfl
theorem t21_1_1_1 (K : Kont) (E : PanK) (x0 x1 x2 x3 x4 x5 x6 x7 x8 x9 x10 x11 x12 x13 x14 x15 x16 x17 x18 x19 x20 x21 x22 x23 x24 x25 x26 x27 x28 x29 x30 x31 x32 x33 x34 x35 x36 x37 x38 x39 x40 x41 x42 : Value)  : den Tryd.prog (sel (bodyOf Tryd.f21) [1, 1, 1]) (bodyQ Tryd.prog Tryd.f21.results.toList K E) #[x0, x1, x2, x3, x4, x5, x6, x7, x8, x9, x10, x11, x12, x13, x14, x15, x16, x17, x18, x19, x20, x21, x22, x23, x24, x25, x26, x27, x28, x29, x30, x31, x32, x33, x34, x35, x36, x37, x38, x39, x40, x41, x42] =
  K x7 := by kernel_rfl
theorem t21_1_1_0_1_0_0_1_0_0_1_1 (K : Kont) (E : PanK) (k1 : Env → Hp → Prop) (x0 x1 x2 x3 x4 x5 x6 x7 x8 x9 x10 x11 x12 x13 x14 x15 x16 x17 x18 x19 x20 x21 x22 x23 x24 x25 x26 x27 x28 x29 x30 x31 x32 x33 x34 x35 x36 x37 x38 x39 x40 x41 x42 : Value)  : den Tryd.prog (sel (bodyOf Tryd.f21) [1, 1, 0, 1, 0, 0, 1, 0, 0, 1, 1]) (blk 1 (thenD (den Tryd.prog (sel (bodyOf Tryd.f21) [1, 1, 0, 1, 0, 0, 1, 1]) (thenD k1 (blk 0 (thenD (den Tryd.prog (sel (bodyOf Tryd.f21) [1, 1, 1]) (bodyQ Tryd.prog Tryd.f21.results.toList K E)) (bodyQ Tryd.prog Tryd.f21.results.toList K E))))) (thenD k1 (blk 0 (thenD (den Tryd.prog (sel (bodyOf Tryd.f21) [1, 1, 1]) (bodyQ Tryd.prog Tryd.f21.results.toList K E)) (bodyQ Tryd.prog Tryd.f21.results.toList K E)))))) #[x0, x1, x2, x3, x4, x5, x6, x7, x8, x9, x10, x11, x12, x13, x14, x15, x16, x17, x18, x19, x20, x21, x22, x23, x24, x25, x26, x27, x28, x29, x30, x31, x32, x33, x34, x35, x36, x37, x38, x39, x40, x41, x42] =
  ld true 2 x9 fun t1 =>
  nws 39 1 (bsC #[(.slice none 0 0), (.int .i64 0)] 2 1 #[(0, t1)]) fun t2 =>
  appX 39 2 32 x7 t2 fun t3 =>
  den Tryd.prog (sel (bodyOf Tryd.f21) [1, 1, 0, 1, 0, 0, 1, 1]) (thenD k1 (blk 0 (thenD (den Tryd.prog (sel (bodyOf Tryd.f21) [1, 1, 1]) (bodyQ Tryd.prog Tryd.f21.results.toList K E)) (bodyQ Tryd.prog Tryd.f21.results.toList K E)))) #[x0, x1, x2, x3, x4, x5, x6, t3, x8, x9, x10, x11, x12, x13, x14, x15, x16, x17, x18, x19, x20, x21, x22, x23, x24, x25, x26, x27, x28, x29, x30, x31, x32, x33, x34, x35, x36, x37, x7, t1, t2, t3, x42] := by kernel_rfl
theorem t21_1_1_0_1_0_0_1_1 (K : Kont) (E : PanK) (k1 : Env → Hp → Prop) (x0 x1 x2 x3 x4 x5 x6 x7 x8 x9 x10 x11 x12 x13 x14 x15 x16 x17 x18 x19 x20 x21 x22 x23 x24 x25 x26 x27 x28 x29 x30 x31 x32 x33 x34 x35 x36 x37 x38 x39 x40 x41 x42 : Value)  : den Tryd.prog (sel (bodyOf Tryd.f21) [1, 1, 0, 1, 0, 0, 1, 1]) (thenD k1 (blk 0 (thenD (den Tryd.prog (sel (bodyOf Tryd.f21) [1, 1, 1]) (bodyQ Tryd.prog Tryd.f21.results.toList K E)) (bodyQ Tryd.prog Tryd.f21.results.toList K E)))) #[x0, x1, x2, x3, x4, x5, x6, x7, x8, x9, x10, x11, x12, x13, x14, x15, x16, x17, x18, x19, x20, x21, x22, x23, x24, x25, x26, x27, x28, x29, x30, x31, x32, x33, x34, x35, x36, x37, x38, x39, x40, x41, x42] =
  pv (binV .none .add x8 (.int .i64 1)) fun t1 =>
  k1 (m21_1_1_0_1_0_0 x0 x1 x2 x3 x4 x5 x6 x42 x7 t1 (jf #[x0, x1, x2, x3, x4, x5, x6, x7, t1, x9, x10, x11, x12, x13, x14, x15, x16, x17, x8, t1, x20, x21, x22, x23, x24, x25, x26, x27, x28, x29, x30, x31, x32, x33, x34, x35, x36, x37, x38, x39, x40, x41, x42])) := by kernel_rfl
theorem l21_1_1_0_1_0_0 {K : Kont} {E : PanK} {σ : Type} {x0 x1 x2 x3 x4 x5 x6 x42 v7 v8 y9 y10 y11 y12 y13 y14 y15 y16 y17 y18 y19 y20 y21 y22 y23 y24 y25 y26 y27 y28 y29 y30 y31 y32 y33 y34 y35 y36 y37 y38 y39 y40 y41 : Value} {h : Hp} (f7 f8 : σ → Value) (I : σ → Hp → Prop) (μ : σ → Nat) (s0 : σ) (e7 : v7 = f7 s0) (e8 : v8 = f8 s0) (h0 : h.wf → ∃ h', h.wk h' ∧ I s0 h')
  (round : ∀ (k1 : Env → Hp → Prop) (s : σ) (j : Nat → Value) (h : Hp), I s h → h.wf → (∀ s' j' h', μ s' < μ s → (h'.wf → ∃ h'', h'.wk h'' ∧ I s' h'') → k1 (m21_1_1_0_1_0_0 x0 x1 x2 x3 x4 x5 x6 x42 (f7 s') (f8 s') j') h') → (
  pv (lenV x1) fun t1 =>
  pv (binV .none .lss (f8 s) t1) fun t2 =>
  gdK t2 true (fun k => k (f8 s)) fun t3 =>
  gdK t2 true (fun k => pv (binV .none .lss t3 (.int .i64 200)) k) fun t4 =>
  pv (pickV t2 t4 (.bool false)) fun t5 =>
  cnd t5 (
    pv (iaV none 1 x1 (f8 s)) fun t6 =>
    ld false 1 t6 fun t7 =>
    callv Tryd.prog (.func (.func 48) #[] #[]) #[x0, t7] (fun t8 =>
    pv (bdC #[(.slice none 0 0), (.int .i64 0)] [(0, 1), (1, 1)] #[(0, t8)]) fun t9 =>
    nw 39 [(.slice none 0 0), (.int .i64 0)] fun t10 =>
    st 2 t10 t9 fun _ =>
    pv (lenV x2) fun t11 =>
    pv (binV .none .gtr t11 (.int .i64 0)) fun t12 =>
    cnd t12 (
      pv (lenV x2) fun t13 =>
      pv (binV .none .rem (f8 s) t13) fun t14 =>
      pv (iaV none 1 x2 t14) fun t15 =>
      ld false 1 t15 fun t16 =>
      pv (faV 1 t10) fun t17 =>
      st 1 t17 t16 fun _ =>
      den Tryd.prog (sel (bodyOf Tryd.f21) [1, 1, 0, 1, 0, 0, 1, 0, 0, 1, 1]) (blk 1 (thenD (den Tryd.prog (sel (bodyOf Tryd.f21) [1, 1, 0, 1, 0, 0, 1, 1]) (thenD k1 (blk 0 (thenD (den Tryd.prog (sel (bodyOf Tryd.f21) [1, 1, 1]) (bodyQ Tryd.prog Tryd.f21.results.toList K E)) (bodyQ Tryd.prog Tryd.f21.results.toList K E))))) (thenD k1 (blk 0 (thenD (den Tryd.prog (sel (bodyOf Tryd.f21) [1, 1, 1]) (bodyQ Tryd.prog Tryd.f21.results.toList K E)) (bodyQ Tryd.prog Tryd.f21.results.toList K E)))))) #[x0, x1, x2, x3, x4, x5, x6, (f7 s), (f8 s), t10, (f8 s), x1, t1, t2, t2, t3, t4, t5, (j 18), (j 19), x0, x1, (f8 s), t6, t7, t8, t9, x2, t11, t12, x2, (f8 s), x2, t13, t14, t15, t16, t17, (j 38), (j 39), (j 40), (j 41), x42]) (
      den Tryd.prog (sel (bodyOf Tryd.f21) [1, 1, 0, 1, 0, 0, 1, 0, 0, 1, 1]) (blk 1 (thenD (den Tryd.prog (sel (bodyOf Tryd.f21) [1, 1, 0, 1, 0, 0, 1, 1]) (thenD k1 (blk 0 (thenD (den Tryd.prog (sel (bodyOf Tryd.f21) [1, 1, 1]) (bodyQ Tryd.prog Tryd.f21.results.toList K E)) (bodyQ Tryd.prog Tryd.f21.results.toList K E))))) (thenD k1 (blk 0 (thenD (den Tryd.prog (sel (bodyOf Tryd.f21) [1, 1, 1]) (bodyQ Tryd.prog Tryd.f21.results.toList K E)) (bodyQ Tryd.prog Tryd.f21.results.toList K E)))))) #[x0, x1, x2, x3, x4, x5, x6, (f7 s), (f8 s), t10, (f8 s), x1, t1, t2, t2, t3, t4, t5, (j 18), (j 19), x0, x1, (f8 s), t6, t7, t8, t9, x2, t11, t12, (j 30), (j 31), (j 32), (j 33), (j 34), (j 35), (j 36), (j 37), (j 38), (j 39), (j 40), (j 41), x42])) E) (
    den Tryd.prog (sel (bodyOf Tryd.f21) [1, 1, 1]) (bodyQ Tryd.prog Tryd.f21.results.toList K E) #[x0, x1, x2, x3, x4, x5, x6, (f7 s), (f8 s), (j 9), (f8 s), x1, t1, t2, t2, t3, t4, t5, (j 18), (j 19), (j 20), (j 21), (j 22), (j 23), (j 24), (j 25), (j 26), (j 27), (j 28), (j 29), (j 30), (j 31), (j 32), (j 33), (j 34), (j 35), (j 36), (j 37), (j 38), (j 39), (j 40), (j 41), x42])) h) :
  lp (fun k1 => den Tryd.prog (sel (bodyOf Tryd.f21) [1, 1, 0, 1, 0, 0]) (thenD k1 (blk 0 (thenD (den Tryd.prog (sel (bodyOf Tryd.f21) [1, 1, 1]) (bodyQ Tryd.prog Tryd.f21.results.toList K E)) (bodyQ Tryd.prog Tryd.f21.results.toList K E))))) #[x0, x1, x2, x3, x4, x5, x6, v7, v8, y9, y10, y11, y12, y13, y14, y15, y16, y17, y18, y19, y20, y21, y22, y23, y24, y25, y26, y27, y28, y29, y30, y31, y32, y33, y34, y35, y36, y37, y38, y39, y40, y41, x42] h := by
  subst e7
  subst e8
  have e : (#[x0, x1, x2, x3, x4, x5, x6, (f7 s0), (f8 s0), y9, y10, y11, y12, y13, y14, y15, y16, y17, y18, y19, y20, y21, y22, y23, y24, y25, y26, y27, y28, y29, y30, y31, y32, y33, y34, y35, y36, y37, y38, y39, y40, y41, x42] : Env) = m21_1_1_0_1_0_0 x0 x1 x2 x3 x4 x5 x6 x42 (f7 s0) (f8 s0) (jf #[x0, x1, x2, x3, x4, x5, x6, (f7 s0), (f8 s0), y9, y10, y11, y12, y13, y14, y15, y16, y17, y18, y19, y20, y21, y22, y23, y24, y25, y26, y27, y28, y29, y30, y31, y32, y33, y34, y35, y36, y37, y38, y39, y40, y41, x42]) := by kernel_rfl
  rw [e]
  exact loop_r (fun s j => m21_1_1_0_1_0_0 x0 x1 x2 x3 x4 x5 x6 x42 (f7 s) (f8 s) j) I μ (fun k s j h hI hw next => by rw [t21_1_1_0_1_0_0]; exact round k s j h hI hw next) s0 (jf #[x0, x1, x2, x3, x4, x5, x6, (f7 s0), (f8 s0), y9, y10, y11, y12, y13, y14, y15, y16, y17, y18, y19, y20, y21, y22, y23, y24, y25, y26, y27, y28, y29, y30, y31, y32, y33, y34, y35, y36, y37, y38, y39, y40, y41, x42]) h0

theorem t48 (K : Kont) (E : PanK) (x0 x1 : Value)  : den Tryd.prog (sel (bodyOf Tryd.f48) []) (bodyQ Tryd.prog Tryd.f48.results.toList K E) #[x0, x1, undef, undef, undef, undef, undef, undef, undef, undef, undef, undef, undef, undef, undef, undef, undef, undef, undef, undef, undef, undef, undef, undef, undef, undef, undef, undef, undef, undef, undef, undef, undef, undef] =
  lp (fun k1 => den Tryd.prog (sel (bodyOf Tryd.f48) [1, 1, 0, 1, 0, 0]) (thenD k1 (blk 0 (thenD (den Tryd.prog (sel (bodyOf Tryd.f48) [1, 1, 1]) (bodyQ Tryd.prog Tryd.f48.results.toList K E)) (bodyQ Tryd.prog Tryd.f48.results.toList K E))))) #[x0, x1, undef, undef, (.slice none 0 0), (.slice none 0 0), (.int .i64 0), undef, undef, undef, undef, undef, undef, undef, undef, undef, undef, undef, undef, undef, undef, undef, undef, undef, undef, undef, undef, undef, undef, undef, undef, undef, undef, undef] := by kernel_rfl
def m48_1_1_0_1_0_0 (x0 x1 x2 x3 x4 x33 : Value) (v5 v6 : Value) (j : Nat → Value) : Env := #[x0, x1, x2, x3, x4, v5, v6, (j 7), (j 8), (j 9), (j 10), (j 11), (j 12), (j 13), (j 14), (j 15), (j 16), (j 17), (j 18), (j 19), (j 20), (j 21), (j 22), (j 23), (j 24), (j 25), (j 26), (j 27), (j 28), (j 29), (j 30), (j 31), (j 32), x33]
theorem t48_1_1_0_1_0_0 (K : Kont) (E : PanK) (k1 : Env → Hp → Prop) (x0 x1 x2 x3 x4 x33 v5 v6 : Value) (j : Nat → Value) : den Tryd.prog (sel (bodyOf Tryd.f48) [1, 1, 0, 1, 0, 0]) (thenD k1 (blk 0 (thenD (den Tryd.prog (sel (bodyOf Tryd.f48) [1, 1, 1]) (bodyQ Tryd.prog Tryd.f48.results.toList K E)) (bodyQ Tryd.prog Tryd.f48.results.toList K E)))) (m48_1_1_0_1_0_0 x0 x1 x2 x3 x4 x33 v5 v6 j) =
  pv (lenV x0) fun t1 =>
  pv (binV .none .lss v6 t1) fun t2 =>
  cnd t2 (
    pv (lenV x1) fun t3 =>
    pv (binV .none .lss v6 t3) fun t4 =>
    cnd t4 (
      pv (iaV none 1 x1 v6) fun t5 =>
      ld false 1 t5 fun t6 =>
      pv (cvV .i64 t6) fun t7 =>
      den Tryd.prog (sel (bodyOf Tryd.f48) [1, 1, 0, 1, 0, 0, 1, 0, 0, 1, 1]) (blk 1 (thenD (den Tryd.prog (sel (bodyOf Tryd.f48) [1, 1, 0, 1, 0, 0, 1, 1]) (thenD k1 (blk 0 (thenD (den Tryd.prog (sel (bodyOf Tryd.f48) [1, 1, 1]) (bodyQ Tryd.prog Tryd.f48.results.toList K E)) (bodyQ Tryd.prog Tryd.f48.results.toList K E))))) (thenD k1 (blk 0 (thenD (den Tryd.prog (sel (bodyOf Tryd.f48) [1, 1, 1]) (bodyQ Tryd.prog Tryd.f48.results.toList K E)) (bodyQ Tryd.prog Tryd.f48.results.toList K E)))))) #[x0, x1, x2, x3, x4, v5, v6, t7, v6, x0, t1, t2, (j 12), (j 13), v6, x1, t3, t4, x1, v6, t5, t6, t7, (j 23), (j 24), (j 25), (j 26), (j 27), (j 28), (j 29), (j 30), (j 31), (j 32), x33]) (
      den Tryd.prog (sel (bodyOf Tryd.f48) [1, 1, 0, 1, 0, 0, 1, 0, 0, 1, 1]) (blk 1 (thenD (den Tryd.prog (sel (bodyOf Tryd.f48) [1, 1, 0, 1, 0, 0, 1, 1]) (thenD k1 (blk 0 (thenD (den Tryd.prog (sel (bodyOf Tryd.f48) [1, 1, 1]) (bodyQ Tryd.prog Tryd.f48.results.toList K E)) (bodyQ Tryd.prog Tryd.f48.results.toList K E))))) (thenD k1 (blk 0 (thenD (den Tryd.prog (sel (bodyOf Tryd.f48) [1, 1, 1]) (bodyQ Tryd.prog Tryd.f48.results.toList K E)) (bodyQ Tryd.prog Tryd.f48.results.toList K E)))))) #[x0, x1, x2, x3, x4, v5, v6, (.int .i64 0), v6, x0, t1, t2, (j 12), (j 13), v6, x1, t3, t4, (j 18), (j 19), (j 20), (j 21), (j 22), (j 23), (j 24), (j 25), (j 26), (j 27), (j 28), (j 29), (j 30), (j 31), (j 32), x33])) (
    den Tryd.prog (sel (bodyOf Tryd.f48) [1, 1, 1]) (bodyQ Tryd.prog Tryd.f48.results.toList K E) #[x0, x1, x2, x3, x4, v5, v6, (j 7), v6, x0, t1, t2, (j 12), (j 13), (j 14), (j 15), (j 16), (j 17), (j 18), (j 19), (j 20), (j 21), (j 22), (j 23), (j 24), (j 25), (j 26), (j 27), (j 28), (j 29), (j 30), (j 31), (j 32), x33]) := by kernel_rfl
theorem t48_1_1_1 (K : Kont) (E : PanK) (x0 x1 x2 x3 x4 x5 x6 x7 x8 x9 x10 x11 x12 x13 x14 x15 x16 x17 x18 x19 x20 x21 x22 x23 x24 x25 x26 x27 x28 x29 x30 x31 x32 x33 : Value)  : den Tryd.prog (sel (bodyOf Tryd.f48) [1, 1, 1]) (bodyQ Tryd.prog Tryd.f48.results.toList K E) #[x0, x1, x2, x3, x4, x5, x6, x7, x8, x9, x10, x11, x12, x13, x14, x15, x16, x17, x18, x19, x20, x21, x22, x23, x24, x25, x26, x27, x28, x29, x30, x31, x32, x33] =
  K x5 := by kernel_rfl
theorem t48_1_1_0_1_0_0_1_0_0_1_1 (K : Kont) (E : PanK) (k1 : Env → Hp → Prop) (x0 x1 x2 x3 x4 x5 x6 x7 x8 x9 x10 x11 x12 x13 x14 x15 x16 x17 x18 x19 x20 x21 x22 x23 x24 x25 x26 x27 x28 x29 x30 x31 x32 x33 : Value)  : den Tryd.prog (sel (bodyOf Tryd.f48) [1, 1, 0, 1, 0, 0, 1, 0, 0, 1, 1]) (blk 1 (thenD (den Tryd.prog (sel (bodyOf Tryd.f48) [1, 1, 0, 1, 0, 0, 1, 1]) (thenD k1 (blk 0 (thenD (den Tryd.prog (sel (bodyOf Tryd.f48) [1, 1, 1]) (bodyQ Tryd.prog Tryd.f48.results.toList K E)) (bodyQ Tryd.prog Tryd.f48.results.toList K E))))) (thenD k1 (blk 0 (thenD (den Tryd.prog (sel (bodyOf Tryd.f48) [1, 1, 1]) (bodyQ Tryd.prog Tryd.f48.results.toList K E)) (bodyQ Tryd.prog Tryd.f48.results.toList K E)))))) #[x0, x1, x2, x3, x4, x5, x6, x7, x8, x9, x10, x11, x12, x13, x14, x15, x16, x17, x18, x19, x20, x21, x22, x23, x24, x25, x26, x27, x28, x29, x30, x31, x32, x33] =
  pv (iaV none 2 x0 x6) fun t1 =>
  pv (faV 0 t1) fun t2 =>
  ld false 1 t2 fun t3 =>
  pv (binV .none .rem x7 t3) fun t4 =>
  nws 3 1 (bsC #[(.int .i64 0)] 1 1 #[(0, t4)]) fun t5 =>
  appX 3 1 8 x5 t5 fun t6 =>
  den Tryd.prog (sel (bodyOf Tryd.f48) [1, 1, 0, 1, 0, 0, 1, 1]) (thenD k1 (blk 0 (thenD (den Tryd.prog (sel (bodyOf Tryd.f48) [1, 1, 1]) (bodyQ Tryd.prog Tryd.f48.results.toList K E)) (bodyQ Tryd.prog Tryd.f48.results.toList K E)))) #[x0, x1, x2, x3, x4, t6, x6, x7, x8, x9, x10, x11, x12, x13, x14, x15, x16, x17, x18, x19, x20, x21, x22, x5, x7, x0, x6, t1, t2, t3, t4, t5, t6, x33] := by kernel_rfl
theorem t48_1_1_0_1_0_0_1_1 (K : Kont) (E : PanK) (k1 : Env → Hp → Prop) (x0 x1 x2 x3 x4 x5 x6 x7 x8 x9 x10 x11 x12 x13 x14 x15 x16 x17 x18 x19 x20 x21 x22 x23 x24 x25 x26 x27 x28 x29 x30 x31 x32 x33 : Value)  : den Tryd.prog (sel (bodyOf Tryd.f48) [1, 1, 0, 1, 0, 0, 1, 1]) (thenD k1 (blk 0 (thenD (den Tryd.prog (sel (bodyOf Tryd.f48) [1, 1, 1]) (bodyQ Tryd.prog Tryd.f48.results.toList K E)) (bodyQ Tryd.prog Tryd.f48.results.toList K E)))) #[x0, x1, x2, x3, x4, x5, x6, x7, x8, x9, x10, x11, x12, x13, x14, x15, x16, x17, x18, x19, x20, x21, x22, x23, x24, x25, x26, x27, x28, x29, x30, x31, x32, x33] =
  pv (binV .none .add x6 (.int .i64 1)) fun t1 =>
  k1 (m48_1_1_0_1_0_0 x0 x1 x2 x3 x4 x33 x5 t1 (jf #[x0, x1, x2, x3, x4, x5, t1, x7, x8, x9, x10, x11, x6, t1, x14, x15, x16, x17, x18, x19, x20, x21, x22, x23, x24, x25, x26, x27, x28, x29, x30, x31, x32, x33])) := by kernel_rfl
theorem l48_1_1_0_1_0_0 {K : Kont} {E : PanK} {σ : Type} {x0 x1 x2 x3 x4 x33 v5 v6 y7 y8 y9 y10 y11 y12 y13 y14 y15 y16 y17 y18 y19 y20 y21 y22 y23 y24 y25 y26 y27 y28 y29 y30 y31 y32 : Value} {h : Hp} (f5 f6 : σ → Value) (I : σ → Hp → Prop) (μ : σ → Nat) (s0 : σ) (e5 : v5 = f5 s0) (e6 : v6 = f6 s0) (h0 : h.wf → ∃ h', h.wk h' ∧ I s0 h')
  (round : ∀ (k1 : Env → Hp → Prop) (s : σ) (j : Nat → Value) (h : Hp), I s h → h.wf → (∀ s' j' h', μ s' < μ s → (h'.wf → ∃ h'', h'.wk h'' ∧ I s' h'') → k1 (m48_1_1_0_1_0_0 x0 x1 x2 x3 x4 x33 (f5 s') (f6 s') j') h') → (
  pv (lenV x0) fun t1 =>
  pv (binV .none .lss (f6 s) t1) fun t2 =>
  cnd t2 (
    pv (lenV x1) fun t3 =>
    pv (binV .none .lss (f6 s) t3) fun t4 =>
    cnd t4 (
      pv (iaV none 1 x1 (f6 s)) fun t5 =>
      ld false 1 t5 fun t6 =>
      pv (cvV .i64 t6) fun t7 =>
      den Tryd.prog (sel (bodyOf Tryd.f48) [1, 1, 0, 1, 0, 0, 1, 0, 0, 1, 1]) (blk 1 (thenD (den Tryd.prog (sel (bodyOf Tryd.f48) [1, 1, 0, 1, 0, 0, 1, 1]) (thenD k1 (blk 0 (thenD (den Tryd.prog (sel (bodyOf Tryd.f48) [1, 1, 1]) (bodyQ Tryd.prog Tryd.f48.results.toList K E)) (bodyQ Tryd.prog Tryd.f48.results.toList K E))))) (thenD k1 (blk 0 (thenD (den Tryd.prog (sel (bodyOf Tryd.f48) [1, 1, 1]) (bodyQ Tryd.prog Tryd.f48.results.toList K E)) (bodyQ Tryd.prog Tryd.f48.results.toList K E)))))) #[x0, x1, x2, x3, x4, (f5 s), (f6 s), t7, (f6 s), x0, t1, t2, (j 12), (j 13), (f6 s), x1, t3, t4, x1, (f6 s), t5, t6, t7, (j 23), (j 24), (j 25), (j 26), (j 27), (j 28), (j 29), (j 30), (j 31), (j 32), x33]) (
      den Tryd.prog (sel (bodyOf Tryd.f48) [1, 1, 0, 1, 0, 0, 1, 0, 0, 1, 1]) (blk 1 (thenD (den Tryd.prog (sel (bodyOf Tryd.f48) [1, 1, 0, 1, 0, 0, 1, 1]) (thenD k1 (blk 0 (thenD (den Tryd.prog (sel (bodyOf Tryd.f48) [1, 1, 1]) (bodyQ Tryd.prog Tryd.f48.results.toList K E)) (bodyQ Tryd.prog Tryd.f48.results.toList K E))))) (thenD k1 (blk 0 (thenD (den Tryd.prog (sel (bodyOf Tryd.f48) [1, 1, 1]) (bodyQ Tryd.prog Tryd.f48.results.toList K E)) (bodyQ Tryd.prog Tryd.f48.results.toList K E)))))) #[x0, x1, x2, x3, x4, (f5 s), (f6 s), (.int .i64 0), (f6 s), x0, t1, t2, (j 12), (j 13), (f6 s), x1, t3, t4, (j 18), (j 19), (j 20), (j 21), (j 22), (j 23), (j 24), (j 25), (j 26), (j 27), (j 28), (j 29), (j 30), (j 31), (j 32), x33])) (
    den Tryd.prog (sel (bodyOf Tryd.f48) [1, 1, 1]) (bodyQ Tryd.prog Tryd.f48.results.toList K E) #[x0, x1, x2, x3, x4, (f5 s), (f6 s), (j 7), (f6 s), x0, t1, t2, (j 12), (j 13), (j 14), (j 15), (j 16), (j 17), (j 18), (j 19), (j 20), (j 21), (j 22), (j 23), (j 24), (j 25), (j 26), (j 27), (j 28), (j 29), (j 30), (j 31), (j 32), x33])) h) :
  lp (fun k1 => den Tryd.prog (sel (bodyOf Tryd.f48) [1, 1, 0, 1, 0, 0]) (thenD k1 (blk 0 (thenD (den Tryd.prog (sel (bodyOf Tryd.f48) [1, 1, 1]) (bodyQ Tryd.prog Tryd.f48.results.toList K E)) (bodyQ Tryd.prog Tryd.f48.results.toList K E))))) #[x0, x1, x2, x3, x4, v5, v6, y7, y8, y9, y10, y11, y12, y13, y14, y15, y16, y17, y18, y19, y20, y21, y22, y23, y24, y25, y26, y27, y28, y29, y30, y31, y32, x33] h := by
  subst e5
  subst e6
  have e : (#[x0, x1, x2, x3, x4, (f5 s0), (f6 s0), y7, y8, y9, y10, y11, y12, y13, y14, y15, y16, y17, y18, y19, y20, y21, y22, y23, y24, y25, y26, y27, y28, y29, y30, y31, y32, x33] : Env) = m48_1_1_0_1_0_0 x0 x1 x2 x3 x4 x33 (f5 s0) (f6 s0) (jf #[x0, x1, x2, x3, x4, (f5 s0), (f6 s0), y7, y8, y9, y10, y11, y12, y13, y14, y15, y16, y17, y18, y19, y20, y21, y22, y23, y24, y25, y26, y27, y28, y29, y30, y31, y32, x33]) := by kernel_rfl
  rw [e]
  exact loop_r (fun s j => m48_1_1_0_1_0_0 x0 x1 x2 x3 x4 x33 (f5 s) (f6 s) j) I μ (fun k s j h hI hw next => by rw [t48_1_1_0_1_0_0]; exact round k s j h hI hw next) s0 (jf #[x0, x1, x2, x3, x4, (f5 s0), (f6 s0), y7, y8, y9, y10, y11, y12, y13, y14, y15, y16, y17, y18, y19, y20, y21, y22, y23, y24, y25, y26, y27, y28, y29, y30, y31, y32, x33]) h0

end Go.Proofs.YthpacapdaembpaaDoor.T
open Go Go.RowKit Go.Proofs.YthpacapdaembpaaDoor.K Go.Proofs.YthpacapdaembpaaDoor.T
set_option linter.unusedVariables false
set_option linter.unusedSimpArgs false
namespace Go.Proofs.YthpacapdaembpaaDoor.A
variable {F F' : Nat → Option (List Value)} {M M' : Nat → Option Chunk} {N N' : Nat} {K : Kont} {E : PanK}
/-- A call, from less that is known. -/
theorem callv_go {P : Program} {f : FuncId} {first captured args : Array Value} {h : Hp} (H : h.wf → ∃ h', h.wk h' ∧ callv P (.func (.func f) first captured) args K E h') : callv P (.func (.func f) first captured) args K E h := by
  by_cases hw : h.wf
  · obtain ⟨h', hk, hc⟩ := H hw
    rcases hc with ⟨h1, h2⟩ | h2
    · exact .inl ⟨h1, fun w0 w r => h2 w0 w (r.wk hk)⟩
    · exact .inr fun w0 w r => h2 w0 w (r.wk hk)
  · exact .inr fun w0 w r => absurd r.wf hw
theorem frz_at {b : Nat} {e : TypeId} {cs : List Value} {tot : Nat} (hb : N ≤ b) (hM : M b = some (.cells e cs tot)) : frzAll F M N b = some cs := by simp [frzAll, hb, hM]
theorem sF_lit {b m c sz : Nat} {cells : List Value} (hF : F b = some cells) (hl : cells.length = m * sz) (hc : m ≤ c) : sF F sz (.slice (some ⟨b, 0, none⟩) m c) m cells :=
  ⟨hl, .inr ⟨b, 0, c, cells, rfl, hc, hF, by rw [List.drop_zero, ← hl, List.take_length]⟩⟩
/-- a field of an element's cell -/
theorem cf_r {v : Value} {t : List Rw} {rows : List (List Value)} {K : Value → Value → Value → Kont} (off : Nat) {x : Value} (hv : sF F 5 v t.length rows.flatten) (hr : rowsF (rowD F) 5 rows t) {i : Nat} (hi : i < t.length) (hx : t[i].2.cs[off]? = some x)
    (k : ∀ p q q', K p q q' x ⟨F, M, N⟩) : pv (iaV none 5 v (.int .i64 (i : Nat))) (fun p => pv (faV 1 p) fun q => pv (faV off q) fun q' => ld false 1 q' (K p q q')) ⟨F, M, N⟩ := by
  obtain ⟨b, o, c, cs, r, rfl, hF, _, ⟨kv, rfl, _⟩, hl, h1, hle, ht, hj⟩ := row_at hv hr (by decide) hi
  have ho : off < 4 := (List.getElem?_eq_some_iff.1 hx).1
  exact iaN_r hi (pv_r rfl (pv_r rfl (ld_r (ldV_c (row_F hF) ((by rw [Nat.add_assoc, Nat.add_comm 1 off]; exact (hj (off + 1) (by omega)).trans hx))) (k _ _ _))))
theorem addw_r {e : EqK} {a b : Int} {h : Hp} (k : K (.int .i64 (IntKind.i64.wrap (a + b))) h) : pv (binV e .add (.int .i64 a) (.int .i64 b)) K h := ⟨_, by rw [inV]; rfl, k⟩
/-- How much is looked at. -/
def wt (l : List (List Int)) : Nat := (l.map fun k => 1 + k.length).sum
theorem wt_snoc (l : List (List Int)) (k : List Int) : wt (l ++ [k]) = wt l + (1 + k.length) := by simp [wt]
theorem wt_le (l : List (List Int)) (h : ∀ k ∈ l, k.length ≤ 140737488351232) : wt l ≤ l.length * 140737488351233 := by
  induction l with
  | nil => simp [wt]
  | cons k l ih =>
    have h1 := ih (fun x hx => h x (by simp [hx]))
    have h2 := h k (by simp)
    simp only [wt, List.map_cons, List.sum_cons, List.length_cons] at h1 ⊢
    omega
theorem wt_mem {l : List (List Int)} {k : List Int} (h : k ∈ l) : k.length < wt l := by
  induction l with
  | nil => cases h
  | cons x l ih =>
    simp only [wt, List.map_cons, List.sum_cons] at ih ⊢
    rcases List.mem_cons.1 h with rfl | h
    · omega
    · have := ih h; omega
end Go.Proofs.YthpacapdaembpaaDoor.A
open Go Go.RowKit Go.Proofs.YthpacapdaembpaaDoor.K Go.Proofs.YthpacapdaembpaaDoor.T
set_option linter.unusedVariables false
set_option linter.unusedSimpArgs false
namespace Go.Proofs.YthpacapdaembpaaDoor.A
variable {F F' : Nat → Option (List Value)} {M M' : Nat → Option Chunk} {N N' : Nat} {K : Kont} {E : PanK}
end Go.Proofs.YthpacapdaembpaaDoor.A
open Go Go.RowKit Go.Proofs.YthpacapdaembpaaDoor.K Go.Proofs.YthpacapdaembpaaDoor.T
set_option linter.unusedVariables false
set_option linter.unusedSimpArgs false
namespace Go.Proofs.YthpacapdaembpaaDoor.A
variable {F F' : Nat → Option (List Value)} {M M' : Nat → Option Chunk} {N N' : Nat} {K : Kont} {E : PanK}
/-- slices.Grow of no rows. -/
theorem grow_c {n : Nat} (hm : clean M N) (hn : n ≤ 1000000000000) (k : ∀ v' M' N', own M' N 43 5 v' 0 [] → (∀ q, q < N → M' q = M q) → N ≤ N' → clean M' N' → (Hp.mk F M' N').wf → K v' ⟨F, M', N'⟩) :
    callv Tryd.prog (.func (.func 83) #[] #[]) #[.slice none 0 0, .int .i64 (n : Nat)] K E ⟨F, M, N⟩ := by
  refine callv_of_text mixed Tryd.func83 (by kernel_rfl) (t83 _ E _ _) (fun hw => ?_)
  refine lss_f (by omega) ?_
  try simp only [gdTT, gdFF, gdTF, gdFT, pvS, pickT, pickF, faP, lenS, capS, nilP, exA, exB, exC, notB, cndT, cndF, Bool.not_true, Bool.not_false, Nat.zero_add, Nat.add_zero]
  rw [t83_1_1]
  try simp only [gdTT, gdFF, gdTF, gdFT, pvS, pickT, pickF, faP, lenS, capS, nilP, exA, exB, exC, notB, cndT, cndF, Bool.not_true, Bool.not_false, Nat.zero_add, Nat.add_zero]
  refine sub_n (a := 0) (b := 0) (by omega) (by omega) ?_
  refine sub_n (a := n) (b := 0) (by omega) (by omega) ?_
  rw [Nat.sub_zero]
  refine gtr_r (fun h0 => ?_) (fun h0 => ?_)
  · try simp only [gdTT, gdFF, gdTF, gdFT, pvS, pickT, pickF, faP, lenS, capS, nilP, exA, exB, exC, notB, cndT, cndF, Bool.not_true, Bool.not_false, Nat.zero_add, Nat.add_zero]
    refine sl_r 0 0 0 (Nat.le_refl _) (Nat.le_refl _) (Nat.le_refl _) ?_
    refine ⟨none, 0, 0, [], n, .i64, rfl, rfl, ⟨by simp, .inl ⟨_, _, rfl, rfl⟩⟩, Nat.le_refl _, by omega, by omega, by simp [maxLen]; omega, fun b c hb0 hc hcm => ?_⟩
    have hb : N ≤ b := hb0
    try simp only [gdTT, gdFF, gdTF, gdFT, pvS, pickT, pickF, faP, lenS, capS, nilP, exA, exB, exC, notB, cndT, cndF, Bool.not_true, Bool.not_false, Nat.zero_add, Nat.add_zero]
    refine sl_pre 0 (Nat.zero_le _) ?_
    try simp only [gdTT, gdFF, gdTF, gdFT, pvS, pickT, pickF, faP, lenS, capS, nilP, exA, exB, exC, notB, cndT, cndF, Bool.not_true, Bool.not_false, Nat.zero_add, Nat.add_zero]
    rw [t83_1_1_1]
    refine fun hc' => ⟨_, wk_refl hc', fun hw' => k _ _ _ ⟨by simp, .inr ⟨b, c, _, rfl, Nat.zero_le _, hcm, hb, upd_same _ _ _⟩⟩ (fun q hq => upd_ne _ _ (by omega)) (Nat.le_succ_of_le hb) (hm.new hb _) hw'⟩
  · try simp only [gdTT, gdFF, gdTF, gdFT, pvS, pickT, pickF, faP, lenS, capS, nilP, exA, exB, exC, notB, cndT, cndF, Bool.not_true, Bool.not_false, Nat.zero_add, Nat.add_zero]
    rw [t83_1_1_1]
    exact fun hc' => ⟨_, wk_refl hc', fun hw' => k _ _ _ own.nil (fun _ _ => rfl) (Nat.le_refl _) hm hw'⟩
/-- Tables in a row. -/
def tblsD (F : Nat → Option (List Value)) (v : Value) (ts : List (List Rw)) : Prop := ∃ rows, sF F 1 v ts.length rows.flatten ∧ rowsF (fun r t => ∃ u, r = [u] ∧ tblD F u t ∧ t.length ≤ 140737488351232) 1 rows ts
theorem tblsD.mono {v : Value} {ts : List (List Rw)} (h : tblsD F v ts) (hF : subF F F') : tblsD F' v ts := let ⟨rows, h1, h2⟩ := h; ⟨rows, h1.mono hF, h2.mono fun _ _ ⟨u, e, h, l⟩ => ⟨u, e, h.mono hF, l⟩⟩
/-- ts[i] -/
theorem tbl_r {v : Value} {ts : List (List Rw)} {K : Value → Kont} (hv : tblsD F v ts) {i : Nat} (hi : i < ts.length) (k : ∀ p u, tblD F u ts[i] → ts[i].length ≤ 140737488351232 → K p u ⟨F, M, N⟩) : pv (iaV none 1 v (.int .i64 (i : Nat))) (fun p => ld false 1 p (K p)) ⟨F, M, N⟩ := by
  obtain ⟨rows, h1, h2⟩ := hv
  obtain ⟨b, o, c, cs, r, rfl, hF, _, ⟨u, rfl, hu, hul⟩, hl, _, hle, ht, hj⟩ := row_at h1 h2 (by decide) hi
  exact iaN_r hi (ld_r (ldV_c (row_F hF) (hj 0 (by decide))) (k _ _ hu hul))
theorem flat_take {α : Type} (l : List (List α)) {i : Nat} (h : i < l.length) : (l.take (i + 1)).flatten = (l.take i).flatten ++ l[i] := by
  rw [List.take_add_one, List.getElem?_eq_getElem h, Option.toList_some, List.flatten_append]; simp
/-- slices.Concat of tables. -/
theorem concat_c {v : Value} {ts : List (List Rw)} (hv : tblsD F v ts) (hl : ts.flatten.length ≤ 1000000000) (htl : ts.length ≤ 1000000000) (k : ∀ v' F' N', (Hp.mk F' M N').wf → subF F F' → N ≤ N' → tblD F' v' ts.flatten → K v' ⟨F', M, N'⟩) :
    callv Tryd.prog (.func (.func 55) #[] #[]) #[v] K E ⟨F, M, N⟩ := by
  refine callv_of_text mixed Tryd.func55 (by kernel_rfl) (t55 _ E _) (fun hw => ?_)
  have hm : clean M N := hw.m
  have hlv : lenV v = some (.int .i64 (ts.length : Nat)) := by obtain ⟨rows, h1, _⟩ := hv; obtain ⟨a, c, rfl, _⟩ := h1.form; rfl
  have hfl : ∀ i, i ≤ ts.length → (ts.take i).flatten.length ≤ ts.flatten.length := fun i hi => by
    have h := congrArg List.flatten (List.take_append_drop i ts)
    rw [List.flatten_append] at h
    have := congrArg List.length h
    rw [List.length_append] at this
    omega
  simp only [hlv]
  try simp only [gdTT, gdFF, gdTF, gdFT, pvS, pickT, pickF, faP, lenS, capS, nilP, exA, exB, exC, notB, cndT, cndF, Bool.not_true, Bool.not_false, Nat.zero_add, Nat.add_zero]
  refine l55_1_1_0_1_0_0 (σ := Nat) (fun i => .int .i64 ((ts.take i).flatten.length : Nat)) (fun i => .int .i64 (i : Nat)) (fun i h => h = ⟨F, M, N⟩ ∧ i ≤ ts.length) (fun i => ts.length - i) 0 rfl rfl
    (fun hw1 => ⟨_, wk_refl hw1, rfl, Nat.zero_le _⟩) (fun k1 i j h1 hI hw1 next => ?_)
  obtain ⟨rfl, hi⟩ := hI
  refine lss_r (fun hlt => ?_) (fun hge => ?_)
  · have h1 : i < ts.length := by omega
    try simp only [gdTT, gdFF, gdTF, gdFT, pvS, pickT, pickF, faP, lenS, capS, nilP, exA, exB, exC, notB, cndT, cndF, Bool.not_true, Bool.not_false, Nat.zero_add, Nat.add_zero]
    refine tbl_r hv h1 fun p u hu hul => ?_
    obtain ⟨a, c, rfl⟩ := hu.form
    have h2 := hfl (i + 1) h1
    have e := flat_take ts h1
    rw [e, List.length_append] at h2
    try simp only [gdTT, gdFF, gdTF, gdFT, pvS, pickT, pickF, faP, lenS, capS, nilP, exA, exB, exC, notB, cndT, cndF, Bool.not_true, Bool.not_false, Nat.zero_add, Nat.add_zero]
    refine add_n (by omega) (lss_f (by omega) ?_)
    try simp only [gdTT, gdFF, gdTF, gdFT, pvS, pickT, pickF, faP, lenS, capS, nilP, exA, exB, exC, notB, cndT, cndF, Bool.not_true, Bool.not_false, Nat.zero_add, Nat.add_zero]
    rw [t55_1_1_0_1_0_0_1_1_1]
    refine inc_r (by omega) ?_
    rw [← List.length_append, ← e]
    exact next (i + 1) _ _ (by omega) (fun hw2 => ⟨_, wk_refl hw2, rfl, h1⟩)
  · try simp only [gdTT, gdFF, gdTF, gdFT, pvS, pickT, pickF, faP, lenS, capS, nilP, exA, exB, exC, notB, cndT, cndF, Bool.not_true, Bool.not_false, Nat.zero_add, Nat.add_zero]
    rw [t55_1_1_1]
    rw [List.take_of_length_le (by omega)]
    refine grow_c hm (by omega) (fun u M1 N1 ho hM1 hN1 hm1 hw1 => ?_)
    simp only [hlv]
    try simp only [gdTT, gdFF, gdTF, gdFT, pvS, pickT, pickF, faP, lenS, capS, nilP, exA, exB, exC, notB, cndT, cndF, Bool.not_true, Bool.not_false, Nat.zero_add, Nat.add_zero]
    refine l55_1_1_1_1_0_1_0_0 (σ := Nat × Value) (fun s => s.2) (fun s => .int .i64 (s.1 : Nat))
      (fun s h => ∃ M' N' rows, h = ⟨F, M', N'⟩ ∧ N ≤ N' ∧ (∀ q, q < N → M' q = M q) ∧ clean M' N' ∧ s.1 ≤ ts.length ∧ own M' N 43 5 s.2 (ts.take s.1).flatten.length rows.flatten ∧ rowsF (rowD F) 5 rows (ts.take s.1).flatten) (fun s => ts.length - s.1) (0, u) rfl rfl
      (fun hw2 => ⟨_, wk_refl hw2, M1, N1, [], rfl, hN1, hM1, hm1, Nat.zero_le _, ho, rowsF.nil _ _⟩) (fun k1 s j h1 hI hw2 next => ?_)
    obtain ⟨M2, N2, rows, rfl, hN2, hM2, hm2, hi, ho2, hr2⟩ := hI
    refine lss_r (fun hlt => ?_) (fun hge => ?_)
    · have h1 : s.1 < ts.length := by omega
      try simp only [gdTT, gdFF, gdTF, gdFT, pvS, pickT, pickF, faP, lenS, capS, nilP, exA, exB, exC, notB, cndT, cndF, Bool.not_true, Bool.not_false, Nat.zero_add, Nat.add_zero]
      refine tbl_r hv h1 fun p w hwt hwl => ?_
      obtain ⟨rows3, hw3, hr3⟩ := hwt
      have h2 := hfl (s.1 + 1) h1
      have e := flat_take ts h1
      rw [e, List.length_append] at h2
      refine ho2.app hm2 hN2 hw3.sR hr3.f1 (by omega) (by unfold maxLen; omega) (fun w' M3 N3 h4 h5 h6 h7 => ?_)
      refine inc_r (by omega) ?_
      refine next (s.1 + 1, w') _ _ (by simp only; omega) (fun hw4 => ⟨_, wk_refl hw4, M3, N3, rows ++ rows3, rfl, by omega, fun q hq => ?_, h7, h1, ?_, ?_⟩)
      · have q1 : s.2.ownBlock ≠ some q := fun e => by have := (ho2.ge q e).1; omega
        exact ((h5 q q1 (by omega)).1).trans (hM2 q hq)
      · simp only
        rw [e, List.length_append, List.flatten_append]; exact h4
      · simp only
        rw [e]; exact rows_app hr2 hr3
    · try simp only [gdTT, gdFF, gdTF, gdFT, pvS, pickT, pickF, faP, lenS, capS, nilP, exA, exB, exC, notB, cndT, cndF, Bool.not_true, Bool.not_false, Nat.zero_add, Nat.add_zero]
      rw [t55_1_1_1_1_1]
      rw [List.take_of_length_le (by omega)] at ho2 hr2
      exact fun hc => ⟨_, frz_wf hm hM2 hc, fun hw' => k _ _ _ hw' (subF_frzAll hc) hN2 (tbl_frz hc ho2 hr2)⟩
theorem same_key_c {v : Value} {h : Hp} (k : h.wf → K v h) : callv Tryd.prog (.func (.func 56) #[] #[]) #[v] K E h := by
  obtain ⟨F, M, N⟩ := h
  exact callv_of_text mixed Tryd.func56 (by kernel_rfl) (t56 _ E _) (fun hw hc => ⟨_, wk_refl hc, k⟩)
/-- table.of; f tells what a key becomes. -/
theorem tof_c {v fv : Value} {l : List Rw} {f : List Int → List Int} (hv : tblD F v l) (hl : l.length ≤ 1000000000) (hk : ∀ r ∈ l, okK (f r.1))
    (hf : ∀ {K : Kont} (F1 : Nat → Option (List Value)) (M1 : Nat → Option Chunk) (N1 : Nat) (r : Rw) (kv : Value), r ∈ l → subF F F1 → (∀ q, q < N → M1 q = M q) → N ≤ N1 → clean M1 N1 → sF F1 1 kv r.1.length (ic r.1) → r.1.length ≤ 140737488351232 →
      (∀ v' F' N', (Hp.mk F' M1 N').wf → subF F1 F' → N1 ≤ N' → sF F' 1 v' (f r.1).length (ic (f r.1)) → K v' ⟨F', M1, N'⟩) → callv Tryd.prog fv #[kv] K E ⟨F1, M1, N1⟩)
    (k : ∀ v' F' N', (Hp.mk F' M N').wf → subF F F' → N ≤ N' → tblD F' v' (tab (l.map fun r => (f r.1, r.2))) → K v' ⟨F', M, N'⟩) :
    callv Tryd.prog (.func (.func 54) #[] #[]) #[v, fv] K E ⟨F, M, N⟩ := by
  refine callv_of_text mixed Tryd.func54 (by kernel_rfl) (t54 _ E _ _) (fun hw => ?_)
  have hm : clean M N := hw.m
  refine blank_c (fun g bm N1 hbm hg hN1 hw1 => ?_)
  obtain ⟨trs, hvs, hrs⟩ := hv
  refine lenF_r hvs ?_
  refine l54_1_1_0_1_0_0 (σ := Nat) (fun i => .int .i64 (i : Nat))
    (fun i h => ∃ F' M' N' v' rows, h = ⟨F', M', N'⟩ ∧ subF F F' ∧ N ≤ N' ∧ (∀ q, q < N → M' q = M q) ∧ clean M' N' ∧ i ≤ l.length ∧ isSheet F' M' N g bm v' rows (sheet ((l.take i).map fun r => (f r.1, r.2)))) (fun i => l.length - i) 0 rfl
    (fun hwx => ⟨_, wk_refl hwx, F, _, N1, .slice none 0 0, [], rfl, subF.refl _, by omega, fun q hq => (upd_ne _ _ (by omega)).trans (upd_ne _ _ (by omega)), hw1.m, Nat.zero_le _,
      ⟨upd_same _ _ _, by omega, hbm, ⟨#[], 0, (upd_ne _ _ (by omega)).trans (upd_same _ _ _), by simp [mapOK, sheet]⟩, own.nil, rowsF.nil _ _, .nil⟩⟩) (fun k1 i j h1 hI hwx next => ?_)
  obtain ⟨F1, M1, N2, v1, rows, rfl, hF1, hN2, hM1, hm1, hi, hS⟩ := hI
  have hsl : ∀ i, (sheet ((l.take i).map fun r => (f r.1, r.2))).length ≤ 1000000000 := fun i => by
    have : ∀ (m : List Rw) (s : List Rw), (m.foldl (fun t r => layP t r.1 r.2) s).length ≤ s.length + m.length := by
      intro m
      induction m with
      | nil => intro s; simp
      | cons r m ih => intro s; have := ih (layP s r.1 r.2); have h2 := layP_len s r.1 r.2; simp at this ⊢; omega
    have h3 := this ((l.take i).map fun r => (f r.1, r.2)) []
    unfold sheet
    rw [List.length_map, List.length_take] at h3
    simp at h3 ⊢; omega
  refine lss_r (fun hlt => ?_) (fun hge => ?_)
  · have hlt' : i < l.length := by omega
    refine cnd_t ?_
    refine row_r (hvs.mono hF1) (hrs.mono fun _ _ h => h.mono hF1) (by decide) hlt' (fun p r _ hR hrl hr1 => ?_)
    obtain ⟨kv, hre, hkv, hkl⟩ := hR
    subst hre
    refine nw_r (fun b1 hb1 => ?_)
    refine stM (cs' := kv :: l[i].2.cs) ?_ (upd_same _ _ _) rfl rfl hr1
    refine pv_r rfl (ldM (v := kv) (pv_r rfl (ldMa (vs := l[i].2.cs) ?_)))
    rw [upd_upd]
    refine hf F1 _ _ l[i] kv (List.getElem_mem _) hF1 (fun q hq => (upd_ne _ _ (by omega)).trans (hM1 q hq)) (by omega) (hm1.new hb1 _) hkv hkl (fun v2 F2 N3 hw3 hF2 hN3 hv2 => ?_)
    refine ⟨ldV_a (row_M (upd_same _ _ _)) (by exact Nat.le_of_ble_eq_true rfl) rfl, ?_⟩
    have hok := hk l[i] (List.getElem_mem _)
    refine lay_c (hS.keep hF2 (upd_keep hm1 hb1 _)) hw3.m (by omega) hv2 (Nat.le_trans hok.1 (by decide)) hok.2 (by have := hsl i; omega) (fun F4 M4 N4 v4 rows4 hF4 hN4 hS4 hM4 hm4 hw4 => ?_)
    refine inc_r (by omega) ?_
    refine next (i + 1) _ _ (by omega) (fun hw5 => ⟨_, wk_refl hw5, F4, M4, N4, v4, rows4, rfl, (hF1.trans hF2).trans hF4, by omega, fun q hq => (hM4 q hq).trans ((upd_ne _ _ (by omega)).trans (hM1 q hq)), hm4, by omega, ?_⟩)
    rw [List.take_add_one, List.getElem?_eq_getElem hlt', Option.toList_some, List.map_append, List.map_singleton, sheet_snoc]
    exact hS4
  · refine cnd_f ?_
    rw [t54_1_1_1]
    have e : l.take i = l := List.take_of_length_le (by omega)
    have hs2 := hsl i
    rw [e] at hS hs2
    refine sorted_c hS hm1 (by omega) (fun M4 N4 rows4 t' hN4 ho4 hr4 hp hs hM4 hm4 hw4 hc => ?_)
    rw [sheet_sorted hp hs] at ho4 hr4
    have hMM : ∀ q, q < N → M4 q = M q := fun q hq => (hM4 q hq).trans (hM1 q hq)
    exact ⟨_, frz_wf hm hMM hc, fun hw' => k v1 _ N4 hw' (hF1.trans (subF_frzAll hc)) (by omega) (tbl_frz hc ho4 hr4)⟩
end Go.Proofs.YthpacapdaembpaaDoor.A
open Go Go.RowKit Go.Proofs.YthpacapdaembpaaDoor.K Go.Proofs.YthpacapdaembpaaDoor.T
set_option linter.unusedVariables false
set_option linter.unusedSimpArgs false
namespace Go.Proofs.YthpacapdaembpaaDoor.A
variable {F F' : Nat → Option (List Value)} {M M' : Nat → Option Chunk} {N N' : Nat} {K : Kont} {E : PanK}
/-- An element more: its cells are built, then appended. -/
theorem push_r {B : Nat} {e : TypeId} {sz bytes n : Nat} {v : Value} {cs : List Value} {cells : Option (Array Value)} {new : List Value} {K : Value → Kont} (h : own M B e sz v n cs) (hm : clean M N) (hB : B ≤ N) (hc : cells = some new.toArray) (hl : new.length = sz) (h1 : ∀ c ∈ new, c.oneCell' = true) (hb : (n + 1) * bytes ≤ 140737488355328) (hn : n + 1 ≤ maxLen)
    (k : ∀ p v' M' N', own M' B e sz v' (n + 1) (cs ++ new) → fr M M' N v v' → N ≤ N' → clean M' N' → K p v' ⟨F, M', N'⟩) : nws e 1 cells (fun t => appX e sz bytes v t (K t)) ⟨F, M, N⟩ := by
  refine nws_r (cs := new) hc (fun b hb' => ?_)
  have hbne : v.ownBlock ≠ some b := fun e => by have := h.lt hm b e; omega
  have h2 : own (upd M b (some (.cells e new new.length))) B e sz v n cs := h.keep (fun q hq => upd_ne _ _ (fun e => hbne (e ▸ hq))) (Nat.le_refl _)
  refine h2.app (m := 1) (news := new) (hm.new hb' _) (by omega) ⟨by omega, .inr ⟨b, 0, 1, _, rfl, Nat.le_refl _, .inr ⟨_, _, upd_same _ _ _⟩, by rw [List.drop_zero, List.take_of_length_le (by omega)]⟩⟩ h1 hb hn (fun v' M' N' h3 h4 h5 h6 => ?_)
  exact k _ v' M' N' h3 (fun q hq hqN => ⟨((h4 q hq (by omega)).1).trans (upd_ne _ _ (by omega)), (h4 q hq (by omega)).2⟩) (by omega) h6
/-- table.Merge -/
theorem tmerge_c {u v : Value} {a b : List Rw} (hu : tblD F u a) (hv : tblD F v b) (hl : a.length + b.length ≤ 1000000000) (hk : ∀ r ∈ a ++ b, okK r.1)
    (k : ∀ v' F' N', (Hp.mk F' M N').wf → subF F F' → N ≤ N' → tblD F' v' (tab (a ++ b)) → K v' ⟨F', M, N'⟩) :
    callv Tryd.prog (.func (.func 27) #[] #[]) #[u, v] K E ⟨F, M, N⟩ := by
  refine callv_of_text mixed Tryd.func27 (by kernel_rfl) (t27 _ E _ _) (fun hw => ?_)
  have hm : clean M N := hw.m
  have hv' := hv; have hu' := hu
  obtain ⟨ua, uc, rfl⟩ := hu'.form
  obtain ⟨va, vc, rfl⟩ := hv'.form
  refine nws_r (cs := [.slice ua a.length uc, .slice va b.length vc]) (by kernel_rfl) (fun b1 hb1 => ?_)
  refine callv_go (fun hc => ⟨_, frz_wf hm (fun q hq => upd_ne _ _ (by omega)) hc, ?_⟩)
  have hs := subF_frzAll (N := N) hc
  have f1 := frz_at (F := F) (N := N) hb1 (upd_same M b1 (some (.cells 22 [.slice ua a.length uc, .slice va b.length vc] [Value.slice ua a.length uc, .slice va b.length vc].length)))
  have hts : tblsD (frzAll F (upd M b1 (some (.cells 22 [.slice ua a.length uc, .slice va b.length vc] [Value.slice ua a.length uc, .slice va b.length vc].length))) N) (.slice (some ⟨b1, 0, none⟩) 2 2) [a, b] := by
    refine ⟨[[.slice ua a.length uc], [.slice va b.length vc]], sF_lit f1 rfl (by decide), ?_⟩
    have h0 := rowsF.nil (fun (r : List Value) (t : List Rw) => ∃ u, r = [u] ∧ tblD (frzAll F (upd M b1 (some (.cells 22 [.slice ua a.length uc, .slice va b.length vc] [Value.slice ua a.length uc, .slice va b.length vc].length))) N) u t ∧ t.length ≤ 140737488351232) 1
    exact (h0.snoc rfl (List.all_eq_true.1 rfl) ⟨_, rfl, hu'.mono hs, by omega⟩).snoc rfl (List.all_eq_true.1 rfl) ⟨_, rfl, hv'.mono hs, by omega⟩
  have e : [a, b].flatten = a ++ b := by simp
  refine concat_c hts (by rw [e, List.length_append]; exact hl) (by simp) (fun w F2 N2 hw2 hF2 hN2 ht => ?_)
  rw [e] at ht
  refine tof_c (f := id) ht (by rw [List.length_append]; exact hl) (fun r hr => hk r hr) (fun F3 M3 N3 r kv _ _ _ _ hm3 hkv _ hK => same_key_c fun hw3 => hK kv F3 N3 hw3 (subF.refl _) (Nat.le_refl _) hkv) (fun v' F' N' hw' hF hN ht' hc => ⟨_, wk_refl hc, fun hw'' => k v' F' N' hw'' ((hs.trans hF2).trans hF) (by omega) ?_⟩)
  rw [show (fun r : Rw => (id r.1, r.2)) = id from rfl, List.map_id] at ht'; exact ht'
/-- All, of the reference -/
def allC (l : List Int) : CE := l.foldl (fun c x => c.rmerge (ofC x)) ⟨0, 0, 0, 0⟩
end Go.Proofs.YthpacapdaembpaaDoor.A
open Go Go.RowKit Go.Proofs.YthpacapdaembpaaDoor.K Go.Proofs.YthpacapdaembpaaDoor.T
set_option linter.unusedVariables false
set_option linter.unusedSimpArgs false
namespace Go.Proofs.YthpacapdaembpaaDoor.A
variable {F F' : Nat → Option (List Value)} {M M' : Nat → Option Chunk} {N N' : Nat} {K : Kont} {E : PanK}
/-! ### Dimensions, facts by choices -/
/-- A dimension. -/
abbrev Dm := Int × List Int
def dimD (F : Nat → Option (List Value)) (cs : List Value) (d : Dm) : Prop := ∃ v, cs = [.int .i64 d.1, v] ∧ sF F 1 v d.2.length (ic d.2) ∧ d.2.length ≤ 140737488351232
theorem dimD.mono {cs : List Value} {d : Dm} (h : dimD F cs d) (hF : subF F F') : dimD F' cs d := let ⟨v, h1, h2, h3⟩ := h; ⟨v, h1, h2.mono hF, h3⟩
theorem dimD.one {cs : List Value} {d : Dm} (h : dimD F cs d) : cs.length = 2 ∧ ∀ c ∈ cs, c.oneCell' = true := by
  obtain ⟨v, rfl, hv, _⟩ := h
  obtain ⟨a, c, rfl, _⟩ := hv.form
  exact ⟨rfl, List.all_eq_true.1 rfl⟩
def dimsD (F : Nat → Option (List Value)) (v : Value) (l : List Dm) : Prop := ∃ rows, sF F 2 v l.length rows.flatten ∧ rowsF (dimD F) 2 rows l
theorem dimsD.mono {v : Value} {t : List Dm} (h : dimsD F v t) (hF : subF F F') : dimsD F' v t := let ⟨rows, h1, h2⟩ := h; ⟨rows, h1.mono hF, h2.mono fun _ _ hr => hr.mono hF⟩
theorem dimsD.form {v : Value} {t : List Dm} (h : dimsD F v t) : ∃ a c, v = .slice a t.length c := let ⟨rows, h1, _⟩ := h; let ⟨a, c, h2, _⟩ := h1.form; ⟨a, c, h2⟩
/-- Whole numbers of a kind. -/
def ick (k : IntKind) (l : List Int) : List Value := l.map (.int k)
/-- l[i], of whole numbers. -/
theorem ixk_r {k : IntKind} {v : Value} {l : List Int} (hv : sF F 1 v l.length (ick k l)) {i : Nat} {K : Value → Kont} (hi : i < l.length) (kk : ∀ p, K p (.int k l[i]) ⟨F, M, N⟩) :
    pv (iaV none 1 v (.int .i64 (i : Nat))) (fun p => ld false 1 p (K p)) ⟨F, M, N⟩ := by
  obtain ⟨b, o, c, rfl, cs, hF, _, hcs⟩ := hv.at (by decide) hi
  exact iaN_r hi (ld_r (ldV_c (row_F hF) (by rw [Nat.mul_one, hcs i (by omega)]; simp [ick, hi])) (kk _))
/-- a % b, of numbers that are none below 0 -/
theorem rem_n {e : EqK} {k : IntKind} {a b : Nat} {h : Hp} (hb : 0 < b) (kk : K (.int k ((a % b : Nat) : Int)) h) : pv (binV e .rem (.int k (a : Nat)) (.int k (b : Nat))) K h :=
  ⟨_, by rw [inV]; simp only [intV]; rw [if_neg (by omega)], by rw [show Int.tmod (a : Int) (b : Int) = ((a % b : Nat) : Int) from rfl]; exact kk⟩
theorem cv_i64 {k : IntKind} {a : Nat} {h : Hp} (h1 : a ≤ 9223372036854775807) (kk : K (.int .i64 (a : Nat)) h) : pv (cvV .i64 (.int k (a : Nat))) K h :=
  ⟨_, rfl, by rw [wrap_in (by omega) (by omega)]; exact kk⟩
theorem mul_n {e : EqK} {a b : Nat} {h : Hp} (h2 : a * b ≤ 9223372036854775807) (k : K (.int .i64 ((a * b : Nat) : Int)) h) : pv (binV e .mul (.int .i64 a) (.int .i64 b)) K h :=
  ⟨_, by rw [inV]; rfl, by rw [← Int.natCast_mul, wrap_in (by omega) (by omega)]; exact k⟩
/-- A key of members, as choices say: the places' sizes are above 0. -/
def keyOf (l : List Dm) (c : List Int) : List Int := l.mapIdx fun i d => (c.getD i 0) % d.1
theorem keyOf_len (l : List Dm) (c : List Int) : (keyOf l c).length = l.length := by simp [keyOf]
theorem keyOf_take (l : List Dm) (c : List Int) {i : Nat} (h : i < l.length) : keyOf (l.take (i + 1)) c = keyOf (l.take i) c ++ [(c.getD i 0) % l[i].1] := by
  unfold keyOf
  rw [List.take_add_one, List.getElem?_eq_getElem h, Option.toList_some, List.mapIdx_concat, List.length_take, Nat.min_eq_left (by omega)]
set_option maxRecDepth 10000 in
/-- Key, of stratumlaw03 -/
theorem key_c {u v : Value} {l : List Dm} {c : List Int} (hu : dimsD F u l) (hv : sF F 1 v c.length (ick .u16 c)) (hl : l.length ≤ 1000000) (hs : ∀ d ∈ l, 0 < d.1 ∧ d.1 ≤ 1000000) (hc : ∀ x ∈ c, 0 ≤ x ∧ x < 65536) (hcl : c.length ≤ 140737488351232)
    (k : ∀ v' F' N', (Hp.mk F' M N').wf → subF F F' → N ≤ N' → sF F' 1 v' (keyOf l c).length (ic (keyOf l c)) → K v' ⟨F', M, N'⟩) :
    callv Tryd.prog (.func (.func 48) #[] #[]) #[u, v] K E ⟨F, M, N⟩ := by
  refine callv_of_text mixed Tryd.func48 (by kernel_rfl) (t48 _ E _ _) (fun hw => ?_)
  have hm : clean M N := hw.m
  obtain ⟨rows, hu1, hu2⟩ := hu
  have hlu : lenV u = some (.int .i64 (l.length : Nat)) := by obtain ⟨a, c, rfl, _⟩ := hu1.form; rfl
  have hlv : lenV v = some (.int .i64 (c.length : Nat)) := by obtain ⟨a, c, rfl, _⟩ := hv.form; rfl
  refine l48_1_1_0_1_0_0 (σ := Nat × Value) (fun s => s.2) (fun s => .int .i64 (s.1 : Nat))
    (fun s h => ∃ M' N', h = ⟨F, M', N'⟩ ∧ N ≤ N' ∧ (∀ q, q < N → M' q = M q) ∧ clean M' N' ∧ s.1 ≤ l.length ∧ own M' N 3 1 s.2 s.1 (ic (keyOf (l.take s.1) c))) (fun s => l.length - s.1) (0, .slice none 0 0) rfl rfl
    (fun hw2 => ⟨_, wk_refl hw2, M, N, rfl, Nat.le_refl _, fun _ _ => rfl, hm, Nat.zero_le _, own.nil⟩) (fun k1 s j h1 hI hw2 next => ?_)
  obtain ⟨M2, N2, rfl, hN2, hM2, hm2, hi, ho2⟩ := hI
  simp only [hlu, hlv]
  try simp only [gdTT, gdFF, gdTF, gdFT, pvS, pickT, pickF, faP, lenS, capS, nilP, exA, exB, exC, notB, cndT, cndF, Bool.not_true, Bool.not_false, Nat.zero_add, Nat.add_zero]
  refine lss_r (fun hlt => ?_) (fun hge => ?_)
  · have h1 : s.1 < l.length := by omega
    obtain ⟨d1, d2⟩ := hs l[s.1] (List.getElem_mem _)
    try simp only [gdTT, gdFF, gdTF, gdFT, pvS, pickT, pickF, faP, lenS, capS, nilP, exA, exB, exC, notB, cndT, cndF, Bool.not_true, Bool.not_false, Nat.zero_add, Nat.add_zero]
    -- what is behind the choice
    have nat : ∀ x : Int, 0 ≤ x → x < 65536 → x = c.getD s.1 0 → ∃ n : Nat, x = n ∧ n < 65536 ∧ (c.getD s.1 0) % l[s.1].1 = ((n % l[s.1].1.toNat : Nat) : Int) := fun x h0 h1 e => ⟨x.toNat, by omega, by omega, by
      rw [← e, Int.natCast_emod, Int.toNat_of_nonneg h0, Int.toNat_of_nonneg (by omega)]⟩
    refine lss_r (fun hlt2 => ?_) (fun hge2 => ?_)
    have h2 : s.1 < c.length := by omega
    try simp only [gdTT, gdFF, gdTF, gdFT, pvS, pickT, pickF, faP, lenS, capS, nilP, exA, exB, exC, notB, cndT, cndF, Bool.not_true, Bool.not_false, Nat.zero_add, Nat.add_zero]
    refine ixk_r hv h2 fun p => ?_
    obtain ⟨x0, x1⟩ := hc c[s.1] (List.getElem_mem _)
    obtain ⟨n, hn, hn1, hn2⟩ := nat c[s.1] x0 x1 (by simp [List.getD_eq_getElem?_getD, h2])
    rw [hn]
    refine cv_i64 (a := n) (by omega) ?_
    rotate_left
    try simp only [gdTT, gdFF, gdTF, gdFT, pvS, pickT, pickF, faP, lenS, capS, nilP, exA, exB, exC, notB, cndT, cndF, Bool.not_true, Bool.not_false, Nat.zero_add, Nat.add_zero]
    have hg : c.getD s.1 0 = 0 := by rw [List.getD_eq_getElem?_getD, List.getElem?_eq_none (by omega)]; rfl
    obtain ⟨n, hn0, hn2⟩ : ∃ n : Nat, (.int .i64 0 : Value) = .int .i64 (n : Nat) ∧ (c.getD s.1 0) % l[s.1].1 = ((n % l[s.1].1.toNat : Nat) : Int) := ⟨0, rfl, by rw [hg]; simp⟩
    rw [hn0]
    all_goals
      rw [t48_1_1_0_1_0_0_1_0_0_1_1]
      refine fld_r hu1 hu2 (by decide) h1 (off := 0) (by decide) fun p q r x hR _ hx => ?_
      obtain ⟨kv, rfl, hkv', hkl⟩ := hR
      simp at hx
      subst hx
      rw [show l[s.1].1 = ((l[s.1].1.toNat : Nat) : Int) by omega]
      refine rem_n (by omega) ?_
      refine push_r (new := [.int .i64 ((n % l[s.1].1.toNat : Nat) : Int)]) ho2 hm2 hN2 (by kernel_rfl) rfl (List.all_eq_true.1 rfl) (by omega) (by unfold maxLen; omega) (fun p v' M3 N3 h4 h5 h6 h7 => ?_)
      rw [t48_1_1_0_1_0_0_1_1]
      refine inc_r (by omega) ?_
      refine next (s.1 + 1, v') _ _ (by simp only; omega) (fun hw3 => ⟨_, wk_refl hw3, M3, N3, rfl, by omega, fun q hq => ?_, h7, h1, ?_⟩)
      · exact ((h5 q (fun e => by have := (ho2.ge q e).1; omega) (by omega)).1).trans (hM2 q hq)
      · simp only
        rw [keyOf_take l c h1, hn2]
        simpa [ic] using h4
  · try simp only [gdTT, gdFF, gdTF, gdFT, pvS, pickT, pickF, faP, lenS, capS, nilP, exA, exB, exC, notB, cndT, cndF, Bool.not_true, Bool.not_false, Nat.zero_add, Nat.add_zero]
    rw [t48_1_1_1]
    rw [List.take_of_length_le (by omega)] at ho2
    refine fun hc' => ⟨_, frz_wf hm hM2 hc', fun hw' => k _ _ _ hw' (subF_frzAll hc') hN2 ?_⟩
    have := ho2.rd.frz hc' (fun b hb => .inl (ho2.ge b hb).1)
    rw [keyOf_len]
    rw [show s.1 = l.length by omega] at this
    exact this
end Go.Proofs.YthpacapdaembpaaDoor.A
open Go Go.RowKit Go.Proofs.YthpacapdaembpaaDoor.K Go.Proofs.YthpacapdaembpaaDoor.T
set_option linter.unusedVariables false
set_option linter.unusedSimpArgs false
namespace Go.Proofs.YthpacapdaembpaaDoor.A
variable {F F' : Nat → Option (List Value)} {M M' : Nat → Option Chunk} {N N' : Nat} {K : Kont} {E : PanK}
theorem own.box {B : Nat} {e : TypeId} {sz n : Nat} {v : Value} {cs : List Value} (h : own M B e sz v n cs) (hm : clean M N) {b : Nat} (hb : N ≤ b) (x : Option Chunk) : own (upd M b x) B e sz v n cs :=
  h.keep (fun q hq => upd_ne _ _ (fun e => by have := h.lt hm q hq; omega)) (Nat.le_refl _)
/-- Lists of choices. -/
def kksD (k : IntKind) (F : Nat → Option (List Value)) (v : Value) (ks : List (List Int)) : Prop := ∃ rows, sF F 1 v ks.length rows.flatten ∧ rowsF (fun r c => ∃ u, r = [u] ∧ sF F 1 u c.length (ick k c) ∧ c.length ≤ 140737488351232) 1 rows ks
theorem kksD.mono {k : IntKind} {v : Value} {ks : List (List Int)} (h : kksD k F v ks) (hF : subF F F') : kksD k F' v ks := let ⟨rows, h1, h2⟩ := h; ⟨rows, h1.mono hF, h2.mono fun _ _ ⟨u, e, h, l⟩ => ⟨u, e, h.mono hF, l⟩⟩
theorem kk_r {k : IntKind} {v : Value} {ts : List (List Int)} {K : Value → Kont} (hv : kksD k F v ts) {i : Nat} (hi : i < ts.length) (kk : ∀ p u, sF F 1 u ts[i].length (ick k ts[i]) → ts[i].length ≤ 140737488351232 → K p u ⟨F, M, N⟩) : pv (iaV none 1 v (.int .i64 (i : Nat))) (fun p => ld false 1 p (K p)) ⟨F, M, N⟩ := by
  obtain ⟨rows, h1, h2⟩ := hv
  obtain ⟨b, o, c, cs, r, rfl, hF, _, ⟨u, rfl, hu, hul⟩, hl, _, hle, ht, hj⟩ := row_at h1 h2 (by decide) hi
  exact iaN_r hi (ld_r (ldV_c (row_F hF) (hj 0 (by decide))) (kk _ _ hu hul))
/-- Facts at members, as choices say. -/
def factsOf (l : List Dm) (ks : List (List Int)) (v : List Int) : List Fc := (ks.take 200).mapIdx fun i c => (keyOf l c, v.getD (i % v.length) 0)
theorem factsOf_len (l : List Dm) (ks : List (List Int)) (v : List Int) : (factsOf l ks v).length = min 200 ks.length := by simp [factsOf]
theorem mapIdx_take {α β : Type} (f : Nat → α → β) (l : List α) {i : Nat} (h : i < l.length) : (l.take (i + 1)).mapIdx f = (l.take i).mapIdx f ++ [f i l[i]] := by
  rw [List.take_add_one, List.getElem?_eq_getElem h, Option.toList_some, List.mapIdx_concat, List.length_take, Nat.min_eq_left (by omega)]
theorem rowsF_snoc1 {α : Type} {R : List Value → α → Prop} {sz : Nat} {rows : List (List Value)} {xs : List α} (h : rowsF R sz rows xs) {r : List Value} {x : α} (h1 : r.length = sz ∧ ∀ c ∈ r, c.oneCell' = true) (hr : R r x) : rowsF R sz (rows ++ [r]) (xs ++ [x]) := h.snoc h1.1 h1.2 hr
set_option maxRecDepth 10000 in
/-- Facts, of stratumlaw04 -/
theorem facts_c {u v w : Value} {l : List Dm} {ks : List (List Int)} {c : List Int} (hu : dimsD F u l) (hv : kksD .u16 F v ks) (hw' : sF F 1 w c.length (ic c)) (hl : l.length ≤ 1000000) (hs : ∀ d ∈ l, 0 < d.1 ∧ d.1 ≤ 1000000) (hc : ∀ k ∈ ks, ∀ x ∈ k, 0 ≤ x ∧ x < 65536) (hkl : ks.length ≤ 140737488351232) (hcl : c.length ≤ 140737488351232)
    (k : ∀ v' F' N', (Hp.mk F' M N').wf → subF F F' → N ≤ N' → fctsD F' v' (factsOf l ks c) → K v' ⟨F', M, N'⟩) :
    callv Tryd.prog (.func (.func 21) #[] #[]) #[u, v, w] K E ⟨F, M, N⟩ := by
  refine callv_of_text mixed Tryd.func21 (by kernel_rfl) (t21 _ E _ _ _) (fun hw => ?_)
  have hm : clean M N := hw.m
  have hlv : lenV v = some (.int .i64 (ks.length : Nat)) := by obtain ⟨rows, h1, _⟩ := hv; obtain ⟨a, c, rfl, _⟩ := h1.form; rfl
  have hlw : lenV w = some (.int .i64 (c.length : Nat)) := by obtain ⟨a, c, rfl, _⟩ := hw'.form; rfl
  refine l21_1_1_0_1_0_0 (σ := Nat × Value) (fun s => s.2) (fun s => .int .i64 (s.1 : Nat))
    (fun s h => ∃ F' M' N' rows, h = ⟨F', M', N'⟩ ∧ subF F F' ∧ N ≤ N' ∧ (∀ q, q < N → M' q = M q) ∧ clean M' N' ∧ s.1 ≤ ks.length ∧ s.1 ≤ 200 ∧ own M' N 39 2 s.2 s.1 rows.flatten ∧ rowsF (fctD F') 2 rows ((ks.take s.1).mapIdx fun i k => (keyOf l k, c.getD (i % c.length) 0))) (fun s => 200 - s.1) (0, .slice none 0 0) rfl rfl
    (fun hw2 => ⟨_, wk_refl hw2, F, M, N, [], rfl, subF.refl _, Nat.le_refl _, fun _ _ => rfl, hm, Nat.zero_le _, Nat.zero_le _, own.nil, rowsF.nil _ _⟩) (fun k1 s j h1 hI hw2 next => ?_)
  obtain ⟨F2, M2, N2, rows, rfl, hF2, hN2, hM2, hm2, hi, hi2, ho2, hr2⟩ := hI
  have fin : (¬ s.1 < ks.length ∨ ¬ s.1 < 200) → ∀ h', h' = (⟨F2, M2, N2⟩ : Hp) → h'.wf → ∃ h'', h'.wk h'' ∧ (h''.wf → K s.2 h'') := fun hend h' e hc' => by
    subst e
    have e1 : ks.take s.1 = ks.take 200 := by
      rcases hend with h | h
      · rw [List.take_of_length_le (by omega), List.take_of_length_le (by omega)]
      · rw [show s.1 = 200 by omega]
    have e2 : s.1 = (factsOf l ks c).length := by
      rw [factsOf_len]
      rcases hend with h | h <;> omega
    refine ⟨_, frz_wf hm hM2 hc', fun hw' => k _ _ _ hw' (hF2.trans (subF_frzAll hc')) hN2 ⟨rows, ?_, ?_⟩⟩
    · have := ho2.rd.frz hc' (fun b hb => .inl (ho2.ge b hb).1)
      rw [← e2]; exact this
    · unfold factsOf
      rw [← e1]; exact hr2.mono fun _ _ h => h.mono (subF_frzAll hc')
  simp only [hlv]
  try simp only [gdTT, gdFF, gdTF, gdFT, pvS, pickT, pickF, faP, lenS, capS, nilP, exA, exB, exC, notB, cndT, cndF, Bool.not_true, Bool.not_false, Nat.zero_add, Nat.add_zero]
  refine lss_r (fun hlt => ?_) (fun hge => ?_)
  · try simp only [gdTT, gdFF, gdTF, gdFT, pvS, pickT, pickF, faP, lenS, capS, nilP, exA, exB, exC, notB, cndT, cndF, Bool.not_true, Bool.not_false, Nat.zero_add, Nat.add_zero]
    refine lss_r (fun hlt2 => ?_) (fun hge2 => ?_)
    · have h1 : s.1 < ks.length := by omega
      try simp only [gdTT, gdFF, gdTF, gdFT, pvS, pickT, pickF, faP, lenS, capS, nilP, exA, exB, exC, notB, cndT, cndF, Bool.not_true, Bool.not_false, Nat.zero_add, Nat.add_zero]
      refine kk_r (hv.mono hF2) h1 fun p kv hkv hkvl => ?_
      refine key_c (hu.mono hF2) hkv hl hs (hc _ (List.getElem_mem _)) hkvl (fun key F3 N3 hw3 hF3 hN3 hkey => ?_)
      obtain ⟨ka, kc, hkf, _⟩ := hkey.form
      refine pv_r (v := .agg #[key, .int .i64 0]) (by rw [hkf]; kernel_rfl) ?_
      refine nw_r (fun b1 hb1 => ?_)
      refine stM (cs' := [key, .int .i64 0]) ?_ (upd_same _ _ _) rfl rfl (by rw [hkf]; exact List.all_eq_true.1 rfl)
      rw [upd_upd]
      simp only [hlw]
      try simp only [gdTT, gdFF, gdTF, gdFT, pvS, pickT, pickF, faP, lenS, capS, nilP, exA, exB, exC, notB, cndT, cndF, Bool.not_true, Bool.not_false, Nat.zero_add, Nat.add_zero]
      have hm3 := hm2.up hN3
      have hb1 : ∀ x, own (upd M2 b1 x) N 39 2 s.2 s.1 rows.flatten := fun x => ho2.box hm3 (by omega) x
      refine gtr_r (fun h0 => ?_) (fun h0 => ?_)
      try simp only [gdTT, gdFF, gdTF, gdFT, pvS, pickT, pickF, faP, lenS, capS, nilP, exA, exB, exC, notB, cndT, cndF, Bool.not_true, Bool.not_false, Nat.zero_add, Nat.add_zero]
      refine rem_n (a := s.1) (b := c.length) (by omega) ?_
      have hmod : s.1 % c.length < c.length := Nat.mod_lt _ (by omega)
      refine ixn_r ((hw'.mono hF2).mono hF3) hmod fun p => ?_
      refine stM (cs' := [key, .int .i64 c[s.1 % c.length]]) ?_ (upd_same _ _ _) rfl rfl (List.all_eq_true.1 rfl) (by exact Nat.le_of_ble_eq_true rfl)
      rw [upd_upd]
      obtain ⟨n, hn, hn2⟩ : ∃ n, c[s.1 % c.length] = n ∧ n = c.getD (s.1 % c.length) 0 := ⟨_, rfl, by rw [List.getD_eq_getElem?_getD, List.getElem?_eq_getElem hmod]; rfl⟩
      rw [hn]
      rotate_left
      try simp only [gdTT, gdFF, gdTF, gdFT, pvS, pickT, pickF, faP, lenS, capS, nilP, exA, exB, exC, notB, cndT, cndF, Bool.not_true, Bool.not_false, Nat.zero_add, Nat.add_zero]
      obtain ⟨n, hn, hn2⟩ : ∃ n : Int, (0 : Int) = n ∧ n = c.getD (s.1 % c.length) 0 := ⟨_, rfl, by rw [List.getD_eq_getElem?_getD, List.getElem?_eq_none (by omega)]; rfl⟩
      rw [show ([key, .int .i64 0] : List Value) = [key, .int .i64 n] by rw [← hn]]
      all_goals
        rw [t21_1_1_0_1_0_0_1_0_0_1_1]
        refine ldMa (vs := [key, .int .i64 n]) ?_ (upd_same _ _ _)
        refine push_r (new := [key, .int .i64 n]) (hb1 _) (hm3.new (by omega) _) (by omega) (by rw [hkf]; kernel_rfl) rfl (by rw [hkf]; exact List.all_eq_true.1 rfl) (by omega) (by unfold maxLen; omega) (fun p v' M4 N4 h4 h5 h6 h7 => ?_)
        rw [t21_1_1_0_1_0_0_1_1]
        refine inc_r (by omega) ?_
        refine next (s.1 + 1, v') _ _ (by simp only; omega) (fun hw3 => ⟨_, wk_refl hw3, F3, M4, N4, rows ++ [[key, .int .i64 n]], rfl, hF2.trans hF3, by omega, fun q hq => ?_, h7, h1, by simp only; omega, ?_, ?_⟩)
        · exact ((h5 q (fun e => by have := (ho2.ge q e).1; omega) (by omega)).1).trans ((upd_ne _ _ (by omega)).trans (hM2 q hq))
        · simpa using h4
        · simp only
          rw [mapIdx_take _ ks h1]
          have hr1 : fctD F3 [key, .int .i64 n] (keyOf l ks[s.1], c.getD (s.1 % c.length) 0) := ⟨key, by rw [← hn2], hkey, by simp only; rw [keyOf_len]; omega⟩
          exact rowsF_snoc1 (hr2.mono fun _ _ h => h.mono hF3) hr1.one hr1
    · try simp only [gdTT, gdFF, gdTF, gdFT, pvS, pickT, pickF, faP, lenS, capS, nilP, exA, exB, exC, notB, cndT, cndF, Bool.not_true, Bool.not_false, Nat.zero_add, Nat.add_zero]
      rw [t21_1_1_1]
      exact fin (by omega) _ rfl
  · try simp only [gdTT, gdFF, gdTF, gdFT, pvS, pickT, pickF, faP, lenS, capS, nilP, exA, exB, exC, notB, cndT, cndF, Bool.not_true, Bool.not_false, Nat.zero_add, Nat.add_zero]
    rw [t21_1_1_1]
    exact fin (by omega) _ rfl
end Go.Proofs.YthpacapdaembpaaDoor.A
open Go Go.RowKit Go.Proofs.YthpacapdaembpaaDoor.K Go.Proofs.YthpacapdaembpaaDoor.T
set_option linter.unusedVariables false
set_option linter.unusedSimpArgs false
namespace Go.Proofs.YthpacapdaembpaaDoor.A
variable {F F' : Nat → Option (List Value)} {M M' : Nat → Option Chunk} {N N' : Nat} {K : Kont} {E : PanK}
/-- The rows of some blocks become such that nobody turns them. -/
noncomputable def frzP (F : Nat → Option (List Value)) (M : Nat → Option Chunk) (p : Nat → Prop) : Nat → Option (List Value) := fun b => open Classical in if p b then (match M b with | some (.cells _ cs _) => some cs | _ => F b) else F b
theorem subF_frzP {p : Nat → Prop} (hc : (Hp.mk F M N).wf) : subF F (frzP F M p) := fun b cs hb => by
  unfold frzP
  split
  · rw [show M b = none from hc.d b cs hb]; exact hb
  · exact hb
theorem wk_P {p : Nat → Prop} (hc : (Hp.mk F M N).wf) : (Hp.mk F M N).wk ⟨frzP F M p, keepM M (fun q => ¬ p q), N⟩ := by
  refine ⟨rfl, keepM_sub _ _, fun b cs hb => ?_, fun b cs hb => ?_⟩
  · simp only [frzP] at hb
    split at hb
    · rename_i hp
      split at hb
      · rename_i e cs' tot he; cases hb; exact .inr ⟨by simp [keepM, hp], e, cs, tot, he, List.prefix_refl _⟩
      · exact .inl hb
    · exact .inl hb
  · simp only [frzP] at hb
    split at hb
    · rename_i hp; simp [keepM, hp]
    · have : M b = none := hc.d b cs hb
      simp only [keepM, this]; split <;> rfl
theorem own.frzP {B : Nat} {e : TypeId} {sz n : Nat} {v : Value} {cs : List Value} {p : Nat → Prop} (h : own M B e sz v n cs) (hp : ∀ q, v.ownBlock = some q → p q) : sF (A.frzP F M p) sz v n cs := by
  refine ⟨h.1, ?_⟩
  rcases h.2 with ⟨rfl, rfl⟩ | ⟨b, c, rest, rfl, h2, h3, h4, h5⟩
  · exact .inl ⟨_, _, rfl, rfl⟩
  · refine .inr ⟨b, 0, c, cs ++ rest, rfl, h2, ?_, by rw [List.drop_zero, ← h.1, List.take_left]⟩
    have := hp b rfl
    simp [A.frzP, this, h5]
theorem own.far {B : Nat} {e : TypeId} {sz n : Nat} {u v v' : Value} {cs : List Value} (h : own M B e sz u n cs) (hf : fr M M' N v v') (hm : clean M N) (hne : ∀ q, u.ownBlock = some q → v.ownBlock ≠ some q) : own M' B e sz u n cs ∧ ∀ q, u.ownBlock = some q → v'.ownBlock ≠ some q :=
  ⟨h.keep (fun q hq => (hf q (hne q hq) (h.lt hm q hq)).1) (Nat.le_refl _), fun q hq => (hf q (hne q hq) (h.lt hm q hq)).2⟩
def divA : Nat → List Nat → Nat
  | a, [] => a
  | a, b :: l => divA (a * (2 + b % 4)) l
def divL : Nat → List Nat → List Nat
  | _, [] => []
  | a, b :: l => (a * (2 + b % 4)) :: divL (a * (2 + b % 4)) l
theorem divA_snoc (l : List Nat) (b : Nat) : ∀ a, divA a (l ++ [b]) = divA a l * (2 + b % 4) := by
  induction l with
  | nil => intro a; rfl
  | cons x l ih => intro a; exact ih _
theorem divL_snoc (l : List Nat) (b : Nat) : ∀ a, divL a (l ++ [b]) = divL a l ++ [divA a l * (2 + b % 4)] := by
  induction l with
  | nil => intro a; rfl
  | cons x l ih => intro a; simp only [List.cons_append, divL]; rw [ih]; rfl
theorem divA_le (l : List Nat) : ∀ a, divA a l ≤ a * 5 ^ l.length := by
  induction l with
  | nil => intro a; simp [divA]
  | cons x l ih =>
    intro a
    simp only [divA, List.length_cons]
    have h1 := ih (a * (2 + x % 4))
    have h2 : a * (2 + x % 4) ≤ a * 5 := Nat.mul_le_mul_left _ (by omega)
    have h3 : a * (2 + x % 4) * 5 ^ l.length ≤ a * 5 * 5 ^ l.length := Nat.mul_le_mul_right _ h2
    rw [Nat.pow_succ, Nat.mul_comm (5 ^ l.length) 5, ← Nat.mul_assoc]
    omega
theorem divL_len (l : List Nat) : ∀ a, (divL a l).length = l.length := by
  induction l with
  | nil => intro a; rfl
  | cons x l ih => intro a; simp [divL, ih]
/-- A dimension, as choices say. -/
def dimOf (c : Int × List Int) : Dm := (1 + c.1 % 200, (divL 1 ((c.2.take 4).map Int.toNat)).map (fun n : Nat => (n : Int)))
/-- Dimensions, as choices say. -/
def dimsOf (m : List (Int × List Int)) : List Dm := if m = [] then [(100, [10])] else (m.take 4).map dimOf
def cutD (F : Nat → Option (List Value)) (cs : List Value) (c : Int × List Int) : Prop := ∃ v, cs = [.int .u16 c.1, v] ∧ sF F 1 v c.2.length (ick .u8 c.2) ∧ c.2.length ≤ 140737488351232
theorem cutD.mono {cs : List Value} {d : Int × List Int} (h : cutD F cs d) (hF : subF F F') : cutD F' cs d := let ⟨v, h1, h2, h3⟩ := h; ⟨v, h1, h2.mono hF, h3⟩
def cutsD (F : Nat → Option (List Value)) (v : Value) (l : List (Int × List Int)) : Prop := ∃ rows, sF F 2 v l.length rows.flatten ∧ rowsF (cutD F) 2 rows l
theorem cutsD.mono {v : Value} {t : List (Int × List Int)} (h : cutsD F v t) (hF : subF F F') : cutsD F' v t := let ⟨rows, h1, h2⟩ := h; ⟨rows, h1.mono hF, h2.mono fun _ _ hr => hr.mono hF⟩
set_option maxRecDepth 10000 in
/-- Of, of stratumlaw03 -/
theorem dof_c {u : Value} {m : List (Int × List Int)} (hu : cutsD F u m) (hml : m.length ≤ 140737488351232) (hc : ∀ c ∈ m, (0 ≤ c.1 ∧ c.1 < 65536) ∧ ∀ x ∈ c.2, 0 ≤ x ∧ x < 256)
    (k : ∀ v' F' N', (Hp.mk F' M N').wf → subF F F' → N ≤ N' → dimsD F' v' (dimsOf m) → K v' ⟨F', M, N'⟩) :
    callv Tryd.prog (.func (.func 19) #[] #[]) #[u] K E ⟨F, M, N⟩ := by
  refine callv_of_text mixed Tryd.func19 (by kernel_rfl) (t19 _ E _) (fun hw => ?_)
  have hm : clean M N := hw.m
  obtain ⟨crows, hu1, hu2⟩ := hu
  have hlu : lenV u = some (.int .i64 (m.length : Nat)) := by obtain ⟨a, c, rfl, _⟩ := hu1.form; rfl
  refine l19_1_1_0_1_0_0 (σ := Nat × Value) (fun s => s.2) (fun s => .int .i64 (s.1 : Nat))
    (fun s h => ∃ F' M' N' rows, h = ⟨F', M', N'⟩ ∧ subF F F' ∧ N ≤ N' ∧ (∀ q, q < N → M' q = M q) ∧ clean M' N' ∧ s.1 ≤ m.length ∧ s.1 ≤ 4 ∧ own M' N 51 2 s.2 s.1 rows.flatten ∧ rowsF (dimD F') 2 rows ((m.take s.1).map dimOf)) (fun s => 4 - s.1) (0, .slice none 0 0) rfl rfl
    (fun hw2 => ⟨_, wk_refl hw2, F, M, N, [], rfl, subF.refl _, Nat.le_refl _, fun _ _ => rfl, hm, Nat.zero_le _, Nat.zero_le _, own.nil, rowsF.nil _ _⟩) (fun k1 s j h1 hI hw2 next => ?_)
  obtain ⟨F2, M2, N2, rows, rfl, hF2, hN2, hM2, hm2, hi, hi2, ho2, hr2⟩ := hI
  have hu1' := hu1.mono hF2
  have hu2' : rowsF (cutD F2) 2 crows m := hu2.mono fun _ _ h => h.mono hF2
  simp only [hlu]
  try simp only [gdTT, gdFF, gdTF, gdFT, pvS, pickT, pickF, faP, lenS, capS, nilP, exA, exB, exC, notB, cndT, cndF, Bool.not_true, Bool.not_false, Nat.zero_add, Nat.add_zero]
  by_cases hgo : s.1 < m.length ∧ s.1 < 4
  · obtain ⟨h1, h2⟩ := hgo
    refine lss_t (by omega) ?_
    try simp only [gdTT, gdFF, gdTF, gdFT, pvS, pickT, pickF, faP, lenS, capS, nilP, exA, exB, exC, notB, cndT, cndF, Bool.not_true, Bool.not_false, Nat.zero_add, Nat.add_zero]
    refine lss_t (by omega) ?_
    try simp only [gdTT, gdFF, gdTF, gdFT, pvS, pickT, pickF, faP, lenS, capS, nilP, exA, exB, exC, notB, cndT, cndF, Bool.not_true, Bool.not_false, Nat.zero_add, Nat.add_zero]
    obtain ⟨⟨c0, c1⟩, cb⟩ := hc m[s.1] (List.getElem_mem _)
    refine fld_r hu1' hu2' (by decide) h1 (off := 0) (by decide) fun p q r x hR _ hx => ?_
    obtain ⟨bv, rfl, hbv, hbl⟩ := hR
    simp at hx
    subst hx
    rw [show m[s.1].1 = ((m[s.1].1.toNat : Nat) : Int) by omega]
    refine rem_n (b := 200) (by decide) (cv_i64 (by omega) (add_n (a := 1) (by omega) ?_))
    obtain ⟨sz, hsz⟩ : ∃ sz : Int, ((1 + m[s.1].1.toNat % 200 : Nat) : Int) = sz := ⟨_, rfl⟩
    rw [hsz]
    refine pv_r (v := .agg #[.int .i64 sz, .slice none 0 0]) (by kernel_rfl) ?_
    refine nw_r (fun bx hbx => ?_)
    refine stM (cs' := [.int .i64 sz, .slice none 0 0]) ?_ (upd_same _ _ _)
    rw [upd_upd]
    have hs1 : (dimOf m[s.1]).1 = sz := by
      rw [← hsz]
      simp only [dimOf]
      omega
    refine l19_1_1_0_1_0_0_1_0_0_1_1_0_1_0_0 (σ := Nat × Nat) (fun s => .int .i64 (s.2 : Nat)) (fun s => .int .i64 (s.1 : Nat))
      (fun t h => ∃ M' N' dv, h = ⟨F2, M', N'⟩ ∧ bx < N' ∧ (∀ q, q < N → M' q = M q) ∧ clean M' N' ∧ t.1 ≤ m[s.1].2.length ∧ t.1 ≤ 4 ∧ t.2 = divA 1 ((m[s.1].2.take t.1).map Int.toNat) ∧ M' bx = some (.cells 51 [.int .i64 sz, dv] 2) ∧
        own M' N 3 1 dv t.1 (ic ((divL 1 ((m[s.1].2.take t.1).map Int.toNat)).map (fun n : Nat => (n : Int)))) ∧ own M' N 51 2 s.2 s.1 rows.flatten ∧ dv.ownBlock ≠ some bx ∧ s.2.ownBlock ≠ some bx ∧ (∀ q, s.2.ownBlock = some q → dv.ownBlock ≠ some q)) (fun t => 4 - t.1) (0, 1) rfl rfl
      (fun hw3 => ⟨_, wk_refl hw3, _, _, .slice none 0 0, rfl, Nat.lt_succ_self _, fun q hq => (upd_ne _ _ (by omega)).trans (hM2 q hq), hm2.new hbx _, Nat.zero_le _, Nat.zero_le _, by simp [divA], by rw [upd_same]; rfl, by simpa [divL, ic] using own.nil, ho2.box hm2 hbx _, by simp [Value.ownBlock], fun e => by have := ho2.lt hm2 bx e; omega, fun q _ => by simp [Value.ownBlock]⟩) (fun k2 t j2 h2' hI2 hw3 next2 => ?_)
    obtain ⟨M3, N3, dv, rfl, hbN, hM3, hm3, ht1, ht2, ht3, hbx3, hdv, hout, hd1, hd2, hd3⟩ := hI2
    obtain ⟨da, dc, hdf, _⟩ := hdv.form
    have hbl4 : t.1 < m[s.1].2.length → t.1 < 4 → ∀ x, x = t.2 → x ≤ 625 := fun _ _ x e => by
      rw [e, ht3]
      have h5 := divA_le ((m[s.1].2.take t.1).map Int.toNat) 1
      rw [List.length_map, List.length_take, Nat.min_eq_left ht1, Nat.one_mul] at h5
      exact Nat.le_trans h5 (Nat.le_trans (Nat.pow_le_pow_right (by decide) ht2) (by decide))
    refine fld_r hu1' hu2' (by decide) h1 (off := 1) (by decide) fun p q r x hR _ hx => ?_
    obtain ⟨bv, rfl, hbv, hbl⟩ := hR
    simp at hx
    subst hx
    refine lenF_r hbv ?_
    by_cases hgo2 : t.1 < m[s.1].2.length ∧ t.1 < 4
    · obtain ⟨h3, h4⟩ := hgo2
      have h625 := hbl4 h3 h4 t.2 rfl
      refine lss_t (by omega) ?_
      try simp only [gdTT, gdFF, gdTF, gdFT, pvS, pickT, pickF, faP, lenS, capS, nilP, exA, exB, exC, notB, cndT, cndF, Bool.not_true, Bool.not_false, Nat.zero_add, Nat.add_zero]
      refine lss_t (by omega) ?_
      try simp only [gdTT, gdFF, gdTF, gdFT, pvS, pickT, pickF, faP, lenS, capS, nilP, exA, exB, exC, notB, cndT, cndF, Bool.not_true, Bool.not_false, Nat.zero_add, Nat.add_zero]
      refine fld_r hu1' hu2' (by decide) h1 (off := 1) (by decide) fun p q r x hR _ hx => ?_
      obtain ⟨bv, rfl, hbv, hbl⟩ := hR
      simp at hx
      subst hx
      refine ixk_r hbv h3 fun p => ?_
      obtain ⟨b0, b1⟩ := cb m[s.1].2[t.1] (List.getElem_mem _)
      obtain ⟨bn, hbn, hbn2⟩ : ∃ n : Nat, m[s.1].2[t.1] = (n : Int) ∧ n < 256 := ⟨m[s.1].2[t.1].toNat, by omega, by omega⟩
      rw [hbn]
      refine rem_n (b := 4) (by decide) (cv_i64 (by omega) (add_n (a := 2) (by omega) ?_))
      have hmul : t.2 * (2 + bn % 4) ≤ 625 * 5 := Nat.mul_le_mul h625 (by omega)
      refine mul_n (by omega) ?_
      refine ldM (v := dv) ?_ hbx3
      have hlast : ((m[s.1].2.take (t.1 + 1)).map Int.toNat) = (m[s.1].2.take t.1).map Int.toNat ++ [bn] := by
        rw [List.take_add_one, List.getElem?_eq_getElem h3, Option.toList_some, List.map_append, hbn]; simp
      refine push_r (new := [.int .i64 ((t.2 * (2 + bn % 4) : Nat) : Int)]) hdv hm3 (by omega) (by kernel_rfl) rfl (List.all_eq_true.1 rfl) (by omega) (by unfold maxLen; omega) (fun p v' M4 N4 h4' h5 h6 h7 => ?_)
      obtain ⟨va, vc, hvf, _⟩ := h4'.form
      have hb4 : M4 bx = some (.cells 51 [.int .i64 sz, dv] 2) := ((h5 bx hd1 hbN).1).trans hbx3
      refine stM (cs' := [.int .i64 sz, v']) ?_ hb4 (by rw [hvf]; rfl) (by rw [hvf]; rfl) (by rw [hvf]; exact List.all_eq_true.1 rfl)
      refine inc_r (by omega) ?_
      obtain ⟨hout4, hne4⟩ := hout.far h5 hm3 hd3
      have hv'b := (h5 bx hd1 hbN).2
      refine next2 (t.1 + 1, t.2 * (2 + bn % 4)) _ _ (by simp only; omega) (fun hw4 => ⟨_, wk_refl hw4, _, N4, v', rfl, by omega, fun q hq => ?_, h7.set (by omega) _, h3, by simp only; omega, ?_, upd_same _ _ _, ?_, ?_, hv'b, hd2, hne4⟩)
      · exact (upd_ne _ _ (by omega)).trans (((h5 q (fun e => by have := (hdv.ge q e).1; omega) (by omega)).1).trans (hM3 q hq))
      · simp only
        rw [hlast, divA_snoc, ht3]
      · simp only
        rw [hlast, divL_snoc, List.map_append, ← ht3]
        have h8 := h4'.keep (M' := upd M4 bx (some (.cells 51 [.int .i64 sz, v'] 2))) (fun q hq => upd_ne _ _ (fun e => hv'b (e ▸ hq))) (Nat.le_refl _)
        simpa [ic] using h8
      · exact hout4.keep (fun q hq => upd_ne _ _ (fun e => hd2 (e ▸ hq))) (Nat.le_refl _)
    · have hend : t.1 = min m[s.1].2.length 4 := by omega
      have e1 : m[s.1].2.take t.1 = m[s.1].2.take 4 := by
        rcases Nat.lt_or_ge m[s.1].2.length 4 with h | h
        · rw [List.take_of_length_le (by omega), List.take_of_length_le (by omega)]
        · rw [show t.1 = 4 by omega]
      rw [e1] at hdv
      have hx5 : dimOf m[s.1] = (sz, (divL 1 ((m[s.1].2.take 4).map Int.toNat)).map (fun n : Nat => (n : Int))) := by rw [← hs1]; rfl
      have hdl : t.1 = (dimOf m[s.1]).2.length := by rw [hx5, ← e1]; simp [divL_len]; omega
      refine lss_r (fun hl1 => ?_) (fun hl1 => ?_)
      try simp only [gdTT, gdFF, gdTF, gdFT, pvS, pickT, pickF, faP, lenS, capS, nilP, exA, exB, exC, notB, cndT, cndF, Bool.not_true, Bool.not_false, Nat.zero_add, Nat.add_zero]
      refine lss_f (by omega) ?_
      all_goals
        try simp only [gdTT, gdFF, gdTF, gdFT, pvS, pickT, pickF, faP, lenS, capS, nilP, exA, exB, exC, notB, cndT, cndF, Bool.not_true, Bool.not_false, Nat.zero_add, Nat.add_zero]
        rw [t19_1_1_0_1_0_0_1_0_0_1_1_1]
        refine ldMa (vs := [.int .i64 sz, dv]) ?_ hbx3
        refine push_r (new := [.int .i64 sz, dv]) hout hm3 (by omega) (by rw [hdf]; kernel_rfl) rfl (by rw [hdf]; exact List.all_eq_true.1 rfl) (by omega) (by unfold maxLen; omega) (fun p v' M4 N4 h4' h5 h6 h7 => ?_)
        rw [t19_1_1_0_1_0_0_1_1]
        refine inc_r (by omega) ?_
        obtain ⟨hdv4, hne4⟩ := hdv.far h5 hm3 (fun q hq e => hd3 q e hq)
        refine next (s.1 + 1, v') _ _ (by simp only; omega) (fun hw4 => ⟨_, wk_P (p := fun q => N ≤ q ∧ v'.ownBlock ≠ some q) hw4, _, _, N4, rows ++ [[.int .i64 sz, dv]], rfl, hF2.trans (subF_frzP hw4), by omega, fun q hq => ?_, keepM_clean h7, h1, by simp only; omega, ?_, ?_⟩)
        · rw [keepM_in (by omega)]
          exact ((h5 q (fun e => by have := (hout.ge q e).1; omega) (by omega)).1).trans (hM3 q hq)
        · have h8 := h4'.keep (M' := keepM M4 (fun q => ¬ (N ≤ q ∧ v'.ownBlock ≠ some q))) (fun q hq => keepM_in (fun h => h.2 hq)) (Nat.le_refl _)
          simpa using h8
        · simp only
          rw [List.take_add_one, List.getElem?_eq_getElem h1, Option.toList_some, List.map_append, List.map_singleton]
          have hr1 : dimD (frzP F2 M4 (fun q => N ≤ q ∧ v'.ownBlock ≠ some q)) [.int .i64 sz, dv] (dimOf m[s.1]) := ⟨dv, by rw [hs1], by
            have h9 := hdv4.frzP (F := F2) (p := fun q => N ≤ q ∧ v'.ownBlock ≠ some q) (fun q hq => ⟨(hdv.ge q hq).1, hne4 q hq⟩)
            rw [← hdl]
            rw [hx5]; exact h9, by rw [← hdl]; omega⟩
          exact rowsF_snoc1 (hr2.mono fun _ _ h => h.mono (subF_frzP hw4)) hr1.one hr1
  · obtain ⟨oa, oc, hof, _⟩ := ho2.form
    have hlo : lenV s.2 = some (.int .i64 (s.1 : Nat)) := by rw [hof]; rfl
    have hend : s.1 = min m.length 4 := by omega
    have e1 : m.take s.1 = m.take 4 := by
      rcases Nat.lt_or_ge m.length 4 with h | h
      · rw [List.take_of_length_le (by omega), List.take_of_length_le (by omega)]
      · rw [show s.1 = 4 by omega]
    refine lss_r (fun hl1 => ?_) (fun hl1 => ?_)
    try simp only [gdTT, gdFF, gdTF, gdFT, pvS, pickT, pickF, faP, lenS, capS, nilP, exA, exB, exC, notB, cndT, cndF, Bool.not_true, Bool.not_false, Nat.zero_add, Nat.add_zero]
    refine lss_f (by omega) ?_
    all_goals
      try simp only [gdTT, gdFF, gdTF, gdFT, pvS, pickT, pickF, faP, lenS, capS, nilP, exA, exB, exC, notB, cndT, cndF, Bool.not_true, Bool.not_false, Nat.zero_add, Nat.add_zero]
      rw [t19_1_1_1]
      simp only [hlo]
      try simp only [gdTT, gdFF, gdTF, gdFT, pvS, pickT, pickF, faP, lenS, capS, nilP, exA, exB, exC, notB, cndT, cndF, Bool.not_true, Bool.not_false, Nat.zero_add, Nat.add_zero]
      by_cases h0 : s.1 = 0
      · have hm0 : m = [] := List.eq_nil_of_length_eq_zero (by omega)
        refine eql_t (by omega) ?_
        try simp only [gdTT, gdFF, gdTF, gdFT, pvS, pickT, pickF, faP, lenS, capS, nilP, exA, exB, exC, notB, cndT, cndF, Bool.not_true, Bool.not_false, Nat.zero_add, Nat.add_zero]
        refine nws_r (cs := [.int .i64 10]) (by kernel_rfl) (fun b1 hb1 => ?_)
        refine pv_r (v := .agg #[.int .i64 100, .slice (some ⟨b1, 0, none⟩) 1 1]) (by kernel_rfl) ?_
        have hb1v : s.2.ownBlock ≠ some b1 := fun e => by have := ho2.lt hm2 b1 e; omega
        refine push_r (new := [.int .i64 100, .slice (some ⟨b1, 0, none⟩) 1 1]) (ho2.box hm2 hb1 _) (hm2.new hb1 _) (by omega) (by kernel_rfl) rfl (List.all_eq_true.1 rfl) (by omega) (by unfold maxLen; omega) (fun p v' M4 N4 h4' h5 h6 h7 => ?_)
        rw [t19_1_1_1_1]
        have hMM : ∀ q, q < N → M4 q = M q := fun q hq => ((h5 q (fun e => by have := (ho2.ge q e).1; omega) (by omega)).1).trans ((upd_ne _ _ (by omega)).trans (hM2 q hq))
        have hb4 : M4 b1 = some (.cells 3 [.int .i64 10] 1) := ((h5 b1 hb1v (by omega)).1).trans (upd_same _ _ _)
        refine fun hc' => ⟨_, frz_wf hm hMM hc', fun hw' => k v' _ N4 hw' (hF2.trans (subF_frzAll hc')) (by omega) ⟨rows ++ [[.int .i64 100, .slice (some ⟨b1, 0, none⟩) 1 1]], ?_, ?_⟩⟩
        · have := h4'.rd.frz hc' (fun b hb => .inl (h4'.ge b hb).1)
          rw [hm0] at hr2 ⊢
          have hr0 : rows = [] := List.eq_nil_of_length_eq_zero (by have := hr2.all.1; simpa using this)
          subst hr0
          rw [h0] at this
          simpa [dimsOf] using this
        · rw [hm0] at hr2 ⊢
          have hr1 : dimD (frzAll F2 M4 N) [.int .i64 100, .slice (some ⟨b1, 0, none⟩) 1 1] (100, [10]) := ⟨_, rfl, sF_lit (frz_at (by omega) hb4) rfl (by decide), by decide⟩
          have hr0 : rows = [] := List.eq_nil_of_length_eq_zero (by have := hr2.all.1; simpa using this)
          subst hr0
          exact rowsF_snoc1 (rowsF.nil _ _) hr1.one hr1
      · refine eql_f (by omega) ?_
        try simp only [gdTT, gdFF, gdTF, gdFT, pvS, pickT, pickF, faP, lenS, capS, nilP, exA, exB, exC, notB, cndT, cndF, Bool.not_true, Bool.not_false, Nat.zero_add, Nat.add_zero]
        rw [t19_1_1_1_1]
        have hne : m ≠ [] := fun e => by rw [e] at hend; simp at hend; omega
        refine fun hc' => ⟨_, frz_wf hm hM2 hc', fun hw' => k s.2 _ N2 hw' (hF2.trans (subF_frzAll hc')) hN2 ⟨rows, ?_, ?_⟩⟩
        · have := ho2.rd.frz hc' (fun b hb => .inl (ho2.ge b hb).1)
          unfold dimsOf
          rw [if_neg hne, List.length_map, List.length_take, show min 4 m.length = s.1 by omega]; exact this
        · unfold dimsOf
          rw [if_neg hne, ← e1]; exact hr2.mono fun _ _ h => h.mono (subF_frzAll hc')
end Go.Proofs.YthpacapdaembpaaDoor.A
