import Derived.Test.YthpacapdaembpaaDoorC4
open Go Go.RowKit Go.Proofs.YthpacapdaembpaaDoor.K Go.Proofs.YthpacapdaembpaaDoor.T
set_option linter.unusedVariables false
set_option linter.unusedSimpArgs false
namespace Go.Proofs.YthpacapdaembpaaDoor.A
variable {F F' : Nat → Option (List Value)} {M M' : Nat → Option Chunk} {N N' : Nat} {K : Kont} {E : PanK}
/-- cmp.Compare -/
def cmpI (a b : Int) : Int := if a < b then -1 else if a > b then 1 else 0
theorem nan_c {a : Int} {h : Hp} (k : K (.bool false) h) : callv Tryd.prog (.func (.func 121) #[] #[]) #[.int .i64 a] K E h := by
  obtain ⟨F, M, N⟩ := h
  refine callv_of_text mixed Tryd.func121 (by kernel_rfl) (t121 _ E _) (fun hw => ?_)
  exact neq_f rfl fun hc => ⟨_, wk_refl hc, fun _ => k⟩
theorem compare_c {a b : Int} {h : Hp} (k : K (.int .i64 (cmpI a b)) h) : callv Tryd.prog (.func (.func 114) #[] #[]) #[.int .i64 a, .int .i64 b] K E h := by
  obtain ⟨F, M, N⟩ := h
  refine callv_of_text mixed Tryd.func114 (by kernel_rfl) (t114 _ E _ _) (fun hw => ?_)
  refine nan_c (nan_c (cnd_f (cnd_f ?_)))
  refine lss_r (fun h1 => cnd_t fun hc => ⟨_, wk_refl hc, fun _ => ?_⟩) (fun h1 => cnd_f (gtr_r (fun h2 => cnd_t fun hc => ⟨_, wk_refl hc, fun _ => ?_⟩) (fun h2 => cnd_f fun hc => ⟨_, wk_refl hc, fun _ => ?_⟩)))
  · unfold cmpI at k; rw [if_pos h1] at k; exact k
  · unfold cmpI at k; rw [if_neg h1, if_pos h2] at k; exact k
  · unfold cmpI at k; rw [if_neg h1, if_neg h2] at k; exact k
theorem kcmp_at {a b : List Int} {i : Nat} (ha : i < a.length) (hb : i < b.length) : kcmp (a.drop i) (b.drop i) = if cmpI a[i] b[i] = 0 then kcmp (a.drop (i + 1)) (b.drop (i + 1)) else cmpI a[i] b[i] := by
  rw [List.drop_eq_getElem_cons ha, List.drop_eq_getElem_cons hb]
  simp only [kcmp, cmpI]
  split
  · rw [if_neg (by decide)]
  · split
    · rw [if_neg (by decide)]
    · rw [if_pos rfl]
theorem kcmp_end {a b : List Int} {i : Nat} (h : i = min a.length b.length) : kcmp (a.drop i) (b.drop i) = cmpI a.length b.length := by
  unfold cmpI
  rcases Nat.lt_trichotomy a.length b.length with hl | hl | hl
  · rw [if_pos (by omega), List.drop_eq_nil_of_le (by omega), List.drop_eq_getElem_cons (by omega)]; rfl
  · rw [if_neg (by omega), if_neg (by omega), List.drop_eq_nil_of_le (by omega), List.drop_eq_nil_of_le (by omega)]; rfl
  · rw [if_neg (by omega), if_pos (by omega), show b.drop i = [] from List.drop_eq_nil_of_le (by omega), List.drop_eq_getElem_cons (by omega)]; rfl
/-- An element's read. -/
theorem ints_at {v : Value} {l : List Int} (hv : sF F 1 v l.length (ic l)) {i : Nat} (hi : i < l.length) :
    ∃ b o c cs, v = .slice (some ⟨b, o, none⟩) l.length c ∧ F b = some cs ∧ cs[o + i * 1]? = some (.int .i64 l[i]) := by
  obtain ⟨b, o, c, hab, cs, hF, _, hcs⟩ := hv.at (by decide) hi
  exact ⟨b, o, c, cs, hab, hF, by rw [Nat.mul_one, hcs i (by omega)]; simp [ic, hi]⟩
/-- a[i], of numbers. -/
theorem ixn_r {v : Value} {l : List Int} (hv : sF F 1 v l.length (ic l)) {i : Nat} {K : Value → Kont} (hi : i < l.length) (k : ∀ p, K p (.int .i64 l[i]) ⟨F, M, N⟩) :
    pv (iaV none 1 v (.int .i64 (i : Nat))) (fun p => ld false 1 p (K p)) ⟨F, M, N⟩ := by
  obtain ⟨b, o, c, cs, rfl, hF, hc⟩ := ints_at hv hi
  exact iaN_r hi (ld_r (ldV_c (row_F hF) hc) (k _))
theorem lenF_r {v : Value} {sz n : Nat} {cs : List Value} (hv : sF F sz v n cs) {h : Hp} (k : K (.int .i64 n) h) : pv (lenV v) K h := by
  obtain ⟨a, c, rfl, _⟩ := hv.form
  exact len_r k
theorem first_c {u v : Value} {a b : List Int} (hu : sF F 1 u a.length (ic a)) (hv : sF F 1 v b.length (ic b)) (hla : a.length ≤ 9223372036854775807) (k : K (.int .i64 (kcmp a b)) ⟨F, M, N⟩) :
    callv Tryd.prog (.func (.func 99) #[] #[]) #[u, v] K E ⟨F, M, N⟩ := by
  refine callv_of_text mixed Tryd.func99 (by kernel_rfl) (t99 _ E _ _) (fun hw => ?_)
  refine lenF_r hu (lenF_r hv ?_)
  have e : mm false (.int .i64 a.length) (.int .i64 b.length) = some (.int .i64 ((min a.length b.length : Nat) : Int)) := by
    simp only [mm]
    congr 2
    simp only [Bool.false_eq_true, if_false]
    split <;> omega
  refine pv_r e ?_
  refine l99_1_0_1_0_0 (σ := Nat) (fun i => .int .i64 (i : Nat)) (fun i h => h = ⟨F, M, N⟩ ∧ i ≤ min a.length b.length ∧ kcmp a b = kcmp (a.drop i) (b.drop i)) (fun i => min a.length b.length - i) 0 rfl
    (fun hw1 => ⟨_, wk_refl hw1, rfl, Nat.zero_le _, rfl⟩) (fun k1 i j h1 hI hw1 next => ?_)
  obtain ⟨rfl, hi, he⟩ := hI
  refine lss_r (fun hlt => ?_) (fun hge => ?_)
  · have h1 : i < a.length := by omega
    have h2 : i < b.length := by omega
    refine cnd_t (ixn_r hu h1 fun p => ixn_r hv h2 fun p' => compare_c ?_)
    rw [kcmp_at h1 h2] at he
    refine neq_r (fun hn => ?_) (fun hn => ?_)
    · refine cnd_t fun hc => ⟨_, wk_refl hc, fun _ => ?_⟩
      rw [if_neg hn] at he; rw [← he]; exact k
    · refine cnd_f (inc_r (by omega) ?_)
      rw [if_pos (by omega)] at he
      exact next (i + 1) _ _ (by omega) (fun hw2 => ⟨_, wk_refl hw2, rfl, by omega, he⟩)
  · refine cnd_f ?_
    rw [t99_1_1]
    refine lenF_r hu (lenF_r hv (compare_c fun hc => ⟨_, wk_refl hc, fun _ => ?_⟩))
    rw [kcmp_end (by omega)] at he
    rw [← he]; exact k
theorem Cmp_c {u v : Value} {a b : List Int} (hu : sF F 1 u a.length (ic a)) (hv : sF F 1 v b.length (ic b)) (hla : a.length ≤ 9223372036854775807) (k : K (.int .i64 (kcmp a b)) ⟨F, M, N⟩) :
    callv Tryd.prog (.func (.func 81) #[] #[]) #[u, v] K E ⟨F, M, N⟩ := by
  refine callv_of_text mixed Tryd.func81 (by kernel_rfl) (t81 _ E _ _) (fun hw => ?_)
  exact first_c hu hv hla fun hc => ⟨_, wk_refl hc, fun _ => k⟩
/-- A row. -/
def rowD (F : Nat → Option (List Value)) (cs : List Value) (r : Rw) : Prop := ∃ v, cs = v :: r.2.cs ∧ sF F 1 v r.1.length (ic r.1) ∧ r.1.length ≤ 140737488351232
theorem rowD.mono {cs : List Value} {r : Rw} (h : rowD F cs r) (hF : subF F F') : rowD F' cs r := let ⟨v, h1, h2, h3⟩ := h; ⟨v, h1, h2.mono hF, h3⟩
theorem rowD.one {cs : List Value} {r : Rw} (h : rowD F cs r) : cs.length = 5 ∧ ∀ c ∈ cs, c.oneCell' = true := by
  obtain ⟨v, rfl, hv, _⟩ := h
  obtain ⟨a, c, rfl, _⟩ := hv.form
  exact ⟨rfl, List.all_eq_true.1 rfl⟩
theorem less_c {cs ds : List Value} {r q : Rw} (hr : rowD F cs r) (hq : rowD F ds q) (k : ∀ N', N ≤ N' → (Hp.mk F M N').wf → K (.int .i64 (kcmp r.1 q.1)) ⟨F, M, N'⟩) :
    callv Tryd.prog (.func (.func 50) #[] #[]) #[.agg cs.toArray, .agg ds.toArray] K E ⟨F, M, N⟩ := by
  refine callv_of_text mixed Tryd.func50 (by kernel_rfl) (t50 _ E _ _) (fun hw => ?_)
  have hm := hw.m
  obtain ⟨v, rfl, hv, hvl⟩ := hr
  obtain ⟨u, rfl, hu, _⟩ := hq
  refine nw_r (cs := v :: r.2.cs) (fun b1 hb1 => ?_)
  refine nw_r (cs := u :: q.2.cs) (fun b2 hb2 => ?_)
  refine pv_r rfl (ldM (v := v) ?_)
  refine pv_r rfl (ldM (v := u) ?_)
  refine Cmp_c hv hu (by omega) fun hc => ?_
  exact ⟨⟨F, M, b2 + 1⟩, wk_end hc, fun hw' => k _ (by omega) hw'⟩
end Go.Proofs.YthpacapdaembpaaDoor.A
