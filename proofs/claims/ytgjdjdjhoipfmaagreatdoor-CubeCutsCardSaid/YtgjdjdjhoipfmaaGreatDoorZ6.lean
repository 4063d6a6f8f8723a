import Derived.Test.YtgjdjdjhoipfmaaGreatDoorZ5
import Derived.Test.YtgjdjdjhoipfmaaGreatDoorProg
import Derived.Test.YtgjdjdjhoipfmaaGreatDoorZ1
import Derived.Test.YtgjdjdjhoipfmaaGreatDoorZ3
set_option maxHeartbeats 4000000
open Go Go.RowKit Go.Proofs.YtgjdjdjhoipfmaaGreatDoor.K Go.Proofs.YtgjdjdjhoipfmaaGreatDoor.T
set_option linter.unusedVariables false
set_option linter.unusedSimpArgs false
namespace Go.Proofs.YtgjdjdjhoipfmaaGreatDoor.A
variable {F F' : Nat → Option (List Value)} {M M' : Nat → Option Chunk} {N N' : Nat} {K : Kont} {E : PanK}
/-- many -/
theorem many_c {v : Value} {h : List En} (hv : entsD F v h) (hl : h.length ≤ 1000000) (hT : (allF h).length ≤ 1000000000) (k : (Hp.mk F M N).wf → K (.int .i64 ((allF h).length : Nat)) ⟨F, M, N⟩) :
    callv Tryz.prog (.func (.func 25) #[] #[]) #[v] K E ⟨F, M, N⟩ := by
  refine callv_of_text mixed Tryz.func25 (by kernel_rfl) (t25 _ E _) (fun hw => ?_)
  obtain ⟨rows, hv1, hv2⟩ := hv
  refine l25_1_1_0_1_0_0 (σ := Nat) (fun i => .int .i64 ((allF (h.take i)).length : Nat)) (fun i => .int .i64 (i : Nat)) (fun i h' => h' = ⟨F, M, N⟩ ∧ i ≤ h.length) (fun i => h.length - i) 0 rfl rfl
    (fun hw1 => ⟨_, wk_refl hw1, rfl, Nat.zero_le _⟩) (fun kk i j h1 hI hw1 next => ?_)
  obtain ⟨rfl, hi⟩ := hI
  refine lenF_r hv1 ?_
  refine lss_r (fun hlt => ?_) (fun hge => ?_)
  · have i1 : i < h.length := by omega
    have e : allF (h.take (i + 1)) = allF (h.take i) ++ h[i].2 := by
      rw [List.take_add_one, List.getElem?_eq_getElem i1, Option.toList_some, allF_app]; simp [allF]
    have hle := allF_takeLe h (i + 1)
    rw [e, List.length_append] at hle
    try simp only [gdTT, gdFF, gdTF, gdFT, pvS, pickT, pickF, faP, lenS, capS, nilP, exA, exB, exC, notB, cndT, cndF, Bool.not_true, Bool.not_false, Nat.zero_add, Nat.add_zero]
    refine fld_r hv1 hv2 (by decide) i1 (off := 1) (by decide) fun p z r y hR _ hy => ?_
    obtain ⟨fv, rfl, hfv⟩ := hR.at
    have hy' : y = fv := by simpa using hy.symm
    subst hy'
    obtain ⟨frows, hfa, _⟩ := hfv
    refine lenF_r hfa (add_n (by omega) (inc_r (by omega) ?_))
    rw [← List.length_append, ← e]
    exact next (i + 1) _ _ (by omega) (fun hw2 => ⟨_, wk_refl hw2, rfl, i1⟩)
  · try simp only [gdTT, gdFF, gdTF, gdFT, pvS, pickT, pickF, faP, lenS, capS, nilP, exA, exB, exC, notB, cndT, cndF, Bool.not_true, Bool.not_false, Nat.zero_add, Nat.add_zero]
    rw [t25_1_1_1]
    rw [List.take_of_length_le (by omega)]
    exact fun hc => ⟨_, wk_refl hc, fun hw' => k hw'⟩
theorem cnt_cut {a b c : Int} (h1 : a ≤ b) (h2 : b ≤ c) : ∀ l : List Fc, (l.filter (inR a b)).length + (l.filter (inR b c)).length = (l.filter (inR a c)).length
  | [] => rfl
  | f :: l => by
    have ih := cnt_cut h1 h2 l
    by_cases hk : 0 < f.1.length
    · by_cases x1 : a ≤ f.1.getD 0 0
      · by_cases x2 : f.1.getD 0 0 < b
        · rw [List.filter_cons_of_pos (by unfold inR; exact decide_eq_true ⟨hk, x1, x2⟩), List.filter_cons_of_neg (by unfold inR; rw [decide_eq_false (by omega)]; decide), List.filter_cons_of_pos (by unfold inR; exact decide_eq_true ⟨hk, x1, by omega⟩)]
          simp only [List.length_cons]; omega
        · by_cases x3 : f.1.getD 0 0 < c
          · rw [List.filter_cons_of_neg (by unfold inR; rw [decide_eq_false (by omega)]; decide), List.filter_cons_of_pos (by unfold inR; exact decide_eq_true ⟨hk, by omega, x3⟩), List.filter_cons_of_pos (by unfold inR; exact decide_eq_true ⟨hk, x1, x3⟩)]
            simp only [List.length_cons]; omega
          · rw [List.filter_cons_of_neg (by unfold inR; rw [decide_eq_false (by omega)]; decide), List.filter_cons_of_neg (by unfold inR; rw [decide_eq_false (by omega)]; decide), List.filter_cons_of_neg (by unfold inR; rw [decide_eq_false (by omega)]; decide)]
            exact ih
      · rw [List.filter_cons_of_neg (by unfold inR; rw [decide_eq_false (by omega)]; decide), List.filter_cons_of_neg (by unfold inR; rw [decide_eq_false (by omega)]; decide), List.filter_cons_of_neg (by unfold inR; rw [decide_eq_false (by omega)]; decide)]
        exact ih
    · rw [List.filter_cons_of_neg (by unfold inR; rw [decide_eq_false (by omega)]; decide), List.filter_cons_of_neg (by unfold inR; rw [decide_eq_false (by omega)]; decide), List.filter_cons_of_neg (by unfold inR; rw [decide_eq_false (by omega)]; decide)]
      exact ih
theorem cnt_out (a b : Int) : ∀ l : List Fc, (l.filter (outR a b)).length + (l.filter (inR a b)).length = l.length
  | [] => rfl
  | f :: l => by
    have ih := cnt_out a b l
    cases hf : inR a b f
    · rw [List.filter_cons_of_pos (by unfold outR; rw [hf]; rfl), List.filter_cons_of_neg (by rw [hf]; decide)]
      simp only [List.length_cons]; omega
    · rw [List.filter_cons_of_neg (by unfold outR; rw [hf]; decide), List.filter_cons_of_pos hf]
      simp only [List.length_cons]; omega
theorem inR_all {l : List Dm} (hl : goodDims l) {f : Fc} (h : inF l f.1 = true) : inR 0 10000 f = true := by
  have hlen := inF_len h
  have h0 := hl.1
  have hk0 : 0 < f.1.length := by omega
  unfold inF at h
  rw [Bool.and_eq_true, List.all_eq_true] at h
  have := h.2 0 (List.mem_range.2 h0)
  unfold inP at this
  rw [getD_at hk0, getD_at h0] at this
  have h1 := of_decide_eq_true this
  have h2 := hl.2.2 _ (List.getElem_mem h0)
  unfold inR
  rw [getD_at hk0]
  exact decide_eq_true ⟨hk0, h1.1, by omega⟩
theorem all_in {l : List Dm} (hl : goodDims l) {n m : Nat} {h : List En} (o : okH l n m h) : (allF h).filter (inR 0 10000) = allF h := filter_in fun f hf => by
  unfold allF at hf
  obtain ⟨x, hx, hfx⟩ := List.mem_flatten.1 hf
  obtain ⟨e, he, rfl⟩ := List.mem_map.1 hx
  exact inR_all hl (o.fi e he f hfx)
theorem longH_no {h : List En} (hp : ∀ e ∈ h, e.2.length ≤ 200) : longH h = false := by
  unfold longH
  rw [List.any_eq_false]
  intro e he
  have := hp e he
  simp; omega
theorem repl_none {l : List Dm} {a b : Int} {h : List En} (o : okH l 5000 200 h) : replE l a b h [] = 0 ∧ replF l a b h [] = restH a b h := by
  have oR := o.rest a b
  have e0 : replE l a b h [] = 0 := by
    unfold replE
    rw [rightF_nil, if_neg (by decide)]
    have e1 : replH a b h [] = restH a b h := rfl
    rw [e1, if_neg]
    rintro (q | q)
    · have := oR.le; omega
    · rw [longH_no oR.fl] at q; cases q
  exact ⟨e0, by unfold replF; rw [if_pos e0]; rfl⟩
set_option maxRecDepth 10000 in
set_option maxHeartbeats 8000000 in
/-- CubeCuts -/
theorem cubeCuts_c {um ul : Value} {m : List (Int × List Int)} {ops : List OpC} {a b c : Int} (hm : cutsD F um m) (hml : m.length ≤ 140737488351232) (hmc : ∀ c ∈ m, (0 ≤ c.1 ∧ c.1 < 65536) ∧ ∀ x ∈ c.2, 0 ≤ x ∧ x < 256)
    (hops : opsD F ul ops) (hopl : ops.length ≤ 140737488351232) (ha : 0 ≤ a ∧ a < 65536) (hb : 0 ≤ b ∧ b < 65536) (hcc : 0 ≤ c ∧ c < 65536) (k : ∀ h, K (.bool true) h) :
    call Tryz.prog 7 #[um, ul, .int .u16 a, .int .u16 b, .int .u16 c] K E ⟨F, M, N⟩ := by
  refine call_text mixed Tryz.func7 (by kernel_rfl) (t7 _ E _ _ _ _ _) (fun hw => ?_)
  have hm0 : clean M N := hw.m
  have kn : ∀ {M : Nat → Option Chunk} {F : Nat → Option (List Value)} {N : Nat}, callv Tryz.prog (.func (.func 11) #[] #[]) #[] (fun v h => h.wf → ∃ h', h.wk h' ∧ (h'.wf → K v h')) E ⟨F, M, N⟩ := known13_c (fun F' N' _ _ _ hc => ⟨_, wk_refl hc, fun _ => k _⟩)
  have hops0 := hops
  obtain ⟨oprows, hop1, hop2⟩ := hops0
  refine lenF_r hop1 ?_
  refine gtr_r (fun h1 => ?_) (fun h1 => ?_)
  · try simp only [gdTT, gdFF, gdTF, gdFT, pvS, pickT, pickF, faP, lenS, capS, nilP, exA, exB, exC, notB, cndT, cndF, Bool.not_true, Bool.not_false, Nat.zero_add, Nat.add_zero]; exact kn
  try simp only [gdTT, gdFF, gdTF, gdFT, pvS, pickT, pickF, faP, lenS, capS, nilP, exA, exB, exC, notB, cndT, cndF, Bool.not_true, Bool.not_false, Nat.zero_add, Nat.add_zero]
  refine heavy13_c hops hopl (fun r1 hw1 => ?_)
  refine gtr_r (fun h2 => ?_) (fun h2 => ?_)
  · try simp only [gdTT, gdFF, gdTF, gdFT, pvS, pickT, pickF, faP, lenS, capS, nilP, exA, exB, exC, notB, cndT, cndF, Bool.not_true, Bool.not_false, Nat.zero_add, Nat.add_zero]; exact kn
  try simp only [gdTT, gdFF, gdTF, gdFT, pvS, pickT, pickF, faP, lenS, capS, nilP, exA, exB, exC, notB, cndT, cndF, Bool.not_true, Bool.not_false, Nat.zero_add, Nat.add_zero]
  refine known13_c (fun F2 N2 hF2 hN2 hw2 => ?_)
  try simp only [gdTT, gdFF, gdTF, gdFT, pvS, pickT, pickF, faP, lenS, capS, nilP, exA, exB, exC, notB, cndT, cndF, Bool.not_true, Bool.not_false, Nat.zero_add, Nat.add_zero]
  have hgd := dimsOf_good m (fun c hc => (hmc c hc).1)
  have hok := dimsOf_ok (m := m) (fun c hc => (hmc c hc).1)
  refine dof_c (hm.mono hF2) hml hmc (fun udv F3 N3 hw3 hF3 hN3 hd => ?_)
  generalize dimsOf m = l at *
  have hl4 := hgd.2.1
  have hds := goodDims_sz hgd
  refine new_c hd (by omega) (fun h => absurd h (by rw [hok]; decide)) (fun _ g dv F4 M4 N4 hF4 hC hM4 hN4 hm4 hw4 => ?_)
  refine ptr_ne ?_
  try simp only [gdTT, gdFF, gdTF, gdFT, pvS, pickT, pickF, faP, lenS, capS, nilP, exA, exB, exC, notB, cndT, cndF, Bool.not_true, Bool.not_false, Nat.zero_add, Nat.add_zero]
  have F04 := (hF2.trans hF3).trans hF4
  refine l7_1_1_1_1_1_0_1_0_0 (σ := Nat) (fun i => .int .i64 (i : Nat))
    (fun i h' => ∃ F' M' N' hv rows h, h' = ⟨F', M', N'⟩ ∧ subF F4 F' ∧ N4 ≤ N' ∧ i ≤ ops.length ∧ isCube F' M' N3 g hv dv rows l h ∧ okH l 5000 200 h) (fun i => ops.length - i) 0 rfl
    (fun hw6 => ⟨_, wk_refl hw6, F4, M4, N4, .slice none 0 0, [], [], rfl, subF.refl _, Nat.le_refl _, Nat.zero_le _, hC, okH.nil _ _ _⟩) (fun kk i j h1' hI hw6 next => ?_)
  obtain ⟨F6, M6, N6, hv, rows, h, rfl, hF6, hN6, hi, hC6, o6⟩ := hI
  have F06 := F04.trans hF6
  refine lenF_r hop1 ?_
  refine lss_r (fun hlt => ?_) (fun hge => ?_)
  · have i1 : i < ops.length := by omega
    try simp only [gdTT, gdFF, gdTF, gdFT, pvS, pickT, pickF, faP, lenS, capS, nilP, exA, exB, exC, notB, cndT, cndF, Bool.not_true, Bool.not_false, Nat.zero_add, Nat.add_zero]
    refine fldV_r (hop1.mono F06) (hop2.mono fun _ _ h => h.mono F06) (by decide) i1 (off := 1) (by decide) fun p z r y hR _ hy hld => ?_
    obtain ⟨ck, cv, cf, cL, rfl, hk, hvv, hf, hL, ok⟩ := hR
    have hy' : y = .int .u32 ops[i].at' := by simpa using hy.symm
    subst hy'
    have hta := ok.ta
    refine rem_i hta.1 (by decide) ?_
    refine fld_r (hop1.mono F06) (hop2.mono fun _ _ h => h.mono F06) (by decide) i1 (off := 2) (by decide) fun p z r y hR _ hy => ?_
    obtain ⟨ck, cv, cf, cL, rfl, hk, _, _, _, _⟩ := hR
    have hy' : y = ck := by simpa using hy.symm
    subst hy'
    refine fld_r (hop1.mono F06) (hop2.mono fun _ _ h => h.mono F06) (by decide) i1 (off := 3) (by decide) fun p z r y2 hR _ hy => ?_
    obtain ⟨ck, cv, cf, cL, rfl, _, hvv, _, _, _⟩ := hR
    have hy' : y2 = cv := by simpa using hy.symm
    subst hy'
    refine facts_c (hd.mono (hF4.trans hF6)) hk hvv (by omega) hds ok.kc ok.kl ok.vl (fun uf F7 N7 hw7 hF7 hN7 huf => ?_)
    refine ⟨hld _ _ _ hF7, ?_⟩
    have hfl := factsOf_len l ops[i].keys ops[i].v
    refine add_to_c (hC6.keep (M' := M6) hF7 (fun _ _ => rfl)) (by omega) (by omega) o6.le (by omega) huf (by omega) (fun hv8 F8 M8 N8 rows8 hF8 hC8 hM8 hN8 hm8 hw8 => ?_)
    refine inc_r (by omega) ?_
    exact next (i + 1) _ _ (by omega) (fun hw9 => ⟨_, wk_refl hw9, F8, M8, N8, hv8, rows8, _, rfl, (hF6.trans hF7).trans hF8, by omega, i1, hC8, o6.add (by omega) _⟩)
  · try simp only [gdTT, gdFF, gdTF, gdFT, pvS, pickT, pickF, faP, lenS, capS, nilP, exA, exB, exC, notB, cndT, cndF, Bool.not_true, Bool.not_false, Nat.zero_add, Nat.add_zero]
    rw [t7_1_1_1_1_1_1]
    have htot := o6.total
    obtain ⟨low, hlow⟩ : ∃ x, x = min a b % 300 := ⟨_, rfl⟩
    obtain ⟨hi2, hhi⟩ : ∃ x, x = low + max a b % 300 := ⟨_, rfl⟩
    have l0 : 0 ≤ low ∧ low < 300 := by omega
    have h0 : low ≤ hi2 ∧ hi2 < 600 := by omega
    obtain ⟨mid, hmid⟩ : ∃ x, x = low + c % (hi2 - low + 1) := ⟨_, rfl⟩
    have hmr : 0 ≤ c % (hi2 - low + 1) ∧ c % (hi2 - low + 1) < hi2 - low + 1 := ⟨Int.emod_nonneg _ (by omega), Int.emod_lt_of_pos _ (by omega)⟩
    have hmm : low ≤ mid ∧ mid ≤ hi2 := by omega
    refine pv_r mm_min ?_
    refine w64 (by omega) (by omega) (rem_i (by omega) (by decide) ?_)
    refine pv_r mm_max ?_
    refine w64 (by omega) (by omega) (rem_i (by omega) (by decide) ?_)
    rw [← hlow]
    refine add_r (by omega) (by omega) ?_
    rw [← hhi]
    refine w64 (by omega) (by omega) (sub_r (by omega) (by omega) (add_r (by omega) (by omega) (rem_i (by omega) (by omega) (add_r (by omega) (by omega) ?_))))
    rw [← hmid]
    have ent : ∀ (x y : Int) {F' : Nat → Option (List Value)} {M' : Nat → Option Chunk} {N' : Nat} {hv' : Value} {rows' : List (List Value)} {h' : List En} {X : Kont}, isCube F' M' N3 g hv' dv rows' l h' → okH l 5000 200 h' → (∀ F'' N'', N' ≤ N'' → subF F' F'' → isCube F'' M' N3 g hv' dv rows' l h' → X (.int .i64 ((((allF h').filter (inR x y)).length : Nat) : Int)) ⟨F'', M', N''⟩) →
        callv Tryz.prog (.func (.func 19) #[] #[]) #[.pointer (some ⟨g, 0, none⟩), .int .i64 x, .int .i64 y] (fun t13 => callv Tryz.prog (.func (.func 25) #[] #[]) #[t13] X E) E ⟨F', M', N'⟩ := fun x y F' M' N' hv' rows' h' X hC' o' kx => by
      have oe := o'.ent x y
      have h1 := oe.total
      have h2 := oe.le
      refine centries_c hC' o' (by omega) (fun v1 F1 N1 hw1 hF1 hN1 h1e => ?_)
      refine many_c h1e (by omega) (by omega) (fun _ => ?_)
      rw [entF_allF]
      exact kx F1 N1 hN1 hF1 (hC'.keep (M' := M') hF1 (fun _ _ => rfl))
    refine ent 0 10000 hC6 o6 (fun F7 N7 hN7 hF7 hC7 => ?_)
    refine ent low mid hC7 o6 (fun F8 N8 hN8 hF8 hC8 => ?_)
    refine ent mid hi2 hC8 o6 (fun F9 N9 hN9 hF9 hC9 => ?_)
    have ecut := cnt_cut hmm.1 hmm.2 (allF h)
    have eout := cnt_out low hi2 (allF h)
    have eall := all_in hgd o6
    refine add_n (by omega) ?_
    refine ent low hi2 hC9 o6 (fun F10 N10 hN10 hF10 hC10 => ?_)
    obtain ⟨er, ef⟩ := repl_none (a := low) (b := hi2) o6
    refine creplace_c hC10 (by omega) o6 (by omega) entsD.nil (by decide) (by simp) (fun hv11 F11 M11 N11 rows11 hF11 hC11 hM11 hN11 hm11 hw11 => ?_)
    rw [er]
    rw [ef] at hC11
    have o11 := o6.rest low hi2
    refine eql_t rfl ?_
    try simp only [gdTT, gdFF, gdTF, gdFT, pvS, pickT, pickF, faP, lenS, capS, nilP, exA, exB, exC, notB, cndT, cndF, Bool.not_true, Bool.not_false, Nat.zero_add, Nat.add_zero]
    refine eql_t (by omega) ?_
    try simp only [gdTT, gdFF, gdTF, gdFT, pvS, pickT, pickF, faP, lenS, capS, nilP, exA, exB, exC, notB, cndT, cndF, Bool.not_true, Bool.not_false, Nat.zero_add, Nat.add_zero]
    refine ent low hi2 hC11 o11 (fun F12 N12 hN12 hF12 hC12 => ?_)
    rw [restH_allF, filter_out]
    refine eql_t rfl ?_
    try simp only [gdTT, gdFF, gdTF, gdFT, pvS, pickT, pickF, faP, lenS, capS, nilP, exA, exB, exC, notB, cndT, cndF, Bool.not_true, Bool.not_false, Nat.zero_add, Nat.add_zero]
    refine ent 0 10000 hC12 o11 (fun F13 N13 hN13 hF13 hC13 => ?_)
    rw [all_in hgd o11, restH_allF]
    refine sub_n (by rw [eall]; omega) (by rw [eall]; omega) ?_
    refine eql_t (by rw [eall]; omega) ?_
    try simp only [gdTT, gdFF, gdTF, gdFT, pvS, pickT, pickF, faP, lenS, capS, nilP, exA, exB, exC, notB, cndT, cndF, Bool.not_true, Bool.not_false, Nat.zero_add, Nat.add_zero]
    exact fun hc => ⟨_, wk_refl hc, fun _ => k _⟩
end Go.Proofs.YtgjdjdjhoipfmaaGreatDoor.A
open Go Go.RowKit Go.Proofs.YtgjdjdjhoipfmaaGreatDoor.K
set_option linter.unusedVariables false
set_option maxRecDepth 100000
namespace Go.Proofs.YtgjdjdjhoipfmaaGreatDoor.T
end Go.Proofs.YtgjdjdjhoipfmaaGreatDoor.T
open Go Go.RowKit Go.Proofs.YtgjdjdjhoipfmaaGreatDoor.K Go.Proofs.YtgjdjdjhoipfmaaGreatDoor.T
set_option linter.unusedVariables false
set_option linter.unusedSimpArgs false
namespace Go.Proofs.YtgjdjdjhoipfmaaGreatDoor.A
variable {F F' : Nat → Option (List Value)} {M M' : Nat → Option Chunk} {N N' : Nat} {K : Kont} {E : PanK}
/-! ### What is asked of a range depends on its facts alone -/
/-- Numbers of facts are whole numbers of 64 bits. -/
def valH (h : List En) : Prop := ∀ e ∈ h, ∀ f ∈ e.2, i64 f.2
theorem valH.add {l : List Dm} {h : List En} (k : valH h) {t : Int} {fs : List Fc} (hf : ∀ f ∈ fs, i64 f.2) : valH (addH l h t fs) := by
  by_cases e : addE l h t fs = 0
  · rw [addH_eq e]
    exact withR_all (P := fun e => ∀ f ∈ e.2, i64 f.2) hf (fun e _ he f hx => (List.mem_append.1 hx).elim (he f) (hf f)) k
  · unfold addH; rw [if_neg e]; exact k
theorem valH.rest {h : List En} (k : valH h) (a b : Int) : valH (restH a b h) := fun x hx => by
  obtain ⟨e, he, rfl⟩ := restH_mem hx
  exact fun f hf => k e he f (List.mem_filter.1 hf).1
theorem valH.ent {h : List En} (k : valH h) (a b : Int) : valH (entF a b h) := fun x hx => by
  obtain ⟨e, he, rfl, _⟩ := entF_mem hx
  exact fun f hf => k e he f (List.mem_filter.1 hf).1
theorem valH.repl {l : List Dm} {h es : List En} (k : valH h) (ke : valH es) (a b : Int) : valH (replF l a b h es) := by
  unfold replF
  split
  · exact layAll_all (P := fun e => ∀ f ∈ e.2, i64 f.2) (fun e d he hd f hf => (List.mem_append.1 hf).elim (hd f) (he f)) (k.rest a b) ke
  · exact k
theorem valH.does {l : List Dm} {h : List En} (k : valH h) {o : OpC} (ok : o.ok) : valH (doesH l h o) := by
  have hfs := facts_i64 (l := l) (ks := o.keys) ok.vc
  unfold doesH
  split
  · exact k.add ok.fc
  · split
    · refine (k.repl ok.lc _ _).repl (fun e he f hf => ?_) _ _
      obtain ⟨i, hi, rfl⟩ := List.mem_iff_getElem.1 he
      have hl := entOf_len l o
      rw [entOf_at (by omega) (by omega) hi] at hf
      exact hfs f (pick_mem hf).1
    · exact k.add hfs
end Go.Proofs.YtgjdjdjhoipfmaaGreatDoor.A
open Go Go.RowKit Go.Proofs.YtgjdjdjhoipfmaaGreatDoor.K Go.Proofs.YtgjdjdjhoipfmaaGreatDoor.T
set_option linter.unusedVariables false
set_option linter.unusedSimpArgs false
namespace Go.Proofs.YtgjdjdjhoipfmaaGreatDoor.A
variable {F F' : Nat → Option (List Value)} {M M' : Nat → Option Chunk} {N N' : Nat} {K : Kont} {E : PanK}
/-- Times of a history are whole numbers of 32 bits. -/
def timH (h : List En) : Prop := ∀ e ∈ h, e.1 < 4294967296
theorem timH.add {l : List Dm} {h : List En} (k : timH h) {t : Int} (fs : List Fc) (ht : t < 4294967296) : timH (addH l h t fs) := by
  by_cases e : addE l h t fs = 0
  · rw [addH_eq e]
    exact withR_all (P := fun e => e.1 < 4294967296) ht (fun _ _ _ => ht) k
  · unfold addH; rw [if_neg e]; exact k
theorem timH.rest {h : List En} (k : timH h) (a b : Int) : timH (restH a b h) := fun x hx => by
  obtain ⟨e, he, rfl⟩ := restH_mem hx
  exact k e he
theorem timH.ent {h : List En} (k : timH h) (a b : Int) : timH (entF a b h) := fun x hx => by
  obtain ⟨e, he, rfl, _⟩ := entF_mem hx
  exact k e he
theorem timH.repl {l : List Dm} {h es : List En} (k : timH h) (ke : timH es) (a b : Int) : timH (replF l a b h es) := by
  unfold replF
  split
  · exact layAll_all (P := fun e => e.1 < 4294967296) (fun e d he hd => he) (k.rest a b) ke
  · exact k
theorem timH.does {l : List Dm} {h : List En} (k : timH h) {o : OpC} (ok : o.ok) : timH (doesH l h o) := by
  unfold doesH
  split
  · exact k.add _ ok.ta.2
  · split
    · exact (k.repl (fun e he => (ok.lt e he).2) _ _).repl (fun e he => (entOf_time ok e he).2) _ _
    · exact k.add _ (by have := ok.ta; omega)
end Go.Proofs.YtgjdjdjhoipfmaaGreatDoor.A
open Go Go.RowKit Go.Proofs.YtgjdjdjhoipfmaaGreatDoor.K Go.Proofs.YtgjdjdjhoipfmaaGreatDoor.T
set_option linter.unusedVariables false
set_option linter.unusedSimpArgs false
namespace Go.Proofs.YtgjdjdjhoipfmaaGreatDoor.A
variable {F F' : Nat → Option (List Value)} {M M' : Nat → Option Chunk} {N N' : Nat} {K : Kont} {E : PanK}
theorem CubeCuts_true (v0 v1 : Value) (a2 a3 a4 : Int) {y0 : List (Int × List Int)} {y1 : List OpY} (W : World) (h0 : rS 2 rCut (F0 W) [v0] y0) (h1 : rS 8 rOp (F0 W) [v1] y1) (w2 : (Lit.int .u16 a2).wf = true) (w3 : (Lit.int .u16 a3).wf = true) (w4 : (Lit.int .u16 a4).wf = true) :
    Calls Tryz.prog 7 #[v0, v1, .int .u16 a2, .int .u16 a3, .int .u16 a4] W fun e w' => e = .returned (.bool true) ∧ Below W.heap.size W w' :=
  have b := cuts_of h0
  have c := ops_of h1
  fin_true (cubeCuts_c b.1 b.2.1 b.2.2 c.1 c.2 (wf_u16 w2) (wf_u16 w3) (wf_u16 w4) fun _ => rfl)
end Go.Proofs.YtgjdjdjhoipfmaaGreatDoor.A
open Go Go.RowKit Go.Proofs.YtgjdjdjhoipfmaaGreatDoor.K Go.Proofs.YtgjdjdjhoipfmaaGreatDoor.T
set_option linter.unusedVariables false
set_option linter.unusedSimpArgs false
namespace Go.Proofs.YtgjdjdjhoipfmaaGreatDoor.A
variable {F F' : Nat → Option (List Value)} {M M' : Nat → Option Chunk} {N N' : Nat} {K : Kont} {E : PanK}
theorem entF_all {a b : Int} {h : List En} (hp : ∀ e ∈ h, e.2 ≠ [] ∧ ∀ f ∈ e.2, inR a b f = true) : entF a b h = h := by
  induction h with
  | nil => rfl
  | cons e h ih =>
    have he := hp e List.mem_cons_self
    have hf : e.2.filter (inR a b) = e.2 := List.filter_eq_self.2 he.2
    unfold entF
    rw [List.filterMap_cons]
    rcases entE_or a b e with h1 | h1
    · rw [hf] at h1; exact absurd h1.2 he.1
    · rw [h1, hf]
      show _ :: entF a b h = _
      rw [ih fun x hx => hp x (List.mem_cons_of_mem _ hx)]
theorem withR_newl : ∀ {h : List En} {t : Int} {fs : List Fc}, there h t = false → (withR h t fs).length = h.length + 1
  | [], t, fs, _ => rfl
  | e :: h, t, fs, ht => by
    rw [there_cons] at ht
    unfold withR
    split
    · rename_i h1; rw [if_pos h1] at ht; simp [withR_newl ht]
    · rename_i h1; rw [if_neg h1] at ht
      rw [if_neg (of_decide_eq_false ht)]; simp
theorem withR_has : ∀ (h : List En) (t : Int) (fs : List Fc), ∃ e ∈ withR h t fs, e.1 = t
  | [], t, fs => ⟨(t, fs), by simp [withR], rfl⟩
  | e :: h, t, fs => by
    unfold withR
    split
    · obtain ⟨x, hx, h1⟩ := withR_has h t fs; exact ⟨x, List.mem_cons_of_mem _ hx, h1⟩
    · split
      · exact ⟨_, List.mem_cons_self, rfl⟩
      · exact ⟨_, List.mem_cons_self, rfl⟩
theorem withR_old : ∀ {h : List En} {t : Int} {fs : List Fc} {e : En}, e ∈ h → ∃ x ∈ withR h t fs, x.1 = e.1
  | d :: h, t, fs, e, he => by
    unfold withR
    rcases List.mem_cons.1 he with rfl | he
    · split
      · exact ⟨_, List.mem_cons_self, rfl⟩
      · split
        · rename_i h1; exact ⟨_, List.mem_cons_self, h1.symm⟩
        · exact ⟨_, List.mem_cons_of_mem _ List.mem_cons_self, rfl⟩
    · split
      · obtain ⟨x, hx, h1⟩ := withR_old (t := t) (fs := fs) he; exact ⟨x, List.mem_cons_of_mem _ hx, h1⟩
      · split
        · exact ⟨e, List.mem_cons_of_mem _ he, rfl⟩
        · exact ⟨e, List.mem_cons_of_mem _ (List.mem_cons_of_mem _ he), rfl⟩
/-- What is seen: one at each time that is there. -/
def seenD (s : List Int) (h : List En) : Prop := s.length = 256 ∧ ∀ (j : Nat) (hj : j < s.length), s[j] = if there h (j : Nat) = true then 1 else 0
theorem seenD.nil {n : Nat} {s : List Int} (e : s = zeros n) (hn : n = 256) : seenD s [] := by
  refine ⟨by rw [e, zeros_len]; exact hn, fun j hj => ?_⟩
  have h0 : s[j] = 0 := by subst e; simp [zeros]
  rw [h0, there_out (by simp [place])]
  simp
theorem seenD.add {s : List Int} {h : List En} {t : Nat} {fs : List Fc} (hs : seenD s h) (hr : risen h) : seenD (s.set t 1) (withR h (t : Nat) fs) := by
  have hr' : risen (withR h (t : Nat) fs) := withR_risen hr
  refine ⟨by rw [List.length_set]; exact hs.1, fun j hj => ?_⟩
  rw [List.length_set] at hj
  rw [List.getElem_set]
  by_cases e : t = j
  · subst e
    rw [if_pos rfl, if_pos ((there_mem hr').2 (withR_has h _ fs))]
  · rw [if_neg e, hs.2 j hj]
    have : there (withR h (t : Nat) fs) (j : Nat) = there h (j : Nat) := by
      rw [Bool.eq_iff_iff, there_mem hr', there_mem hr]
      constructor
      · rintro ⟨x, hx, h1⟩
        rcases withR_mem hx with h2 | h2
        · omega
        · exact ⟨x, h2, h1⟩
      · rintro ⟨x, hx, h1⟩
        obtain ⟨y, hy, h2⟩ := withR_old (t := (t : Nat)) (fs := fs) hx
        exact ⟨y, hy, by omega⟩
    rw [this]
end Go.Proofs.YtgjdjdjhoipfmaaGreatDoor.A
open Go Go.RowKit Go.Proofs.YtgjdjdjhoipfmaaGreatDoor.K
set_option linter.unusedVariables false
set_option maxRecDepth 100000
namespace Go.Proofs.YtgjdjdjhoipfmaaGreatDoor.T
theorem t5 (K : Kont) (E : PanK) (x0 x1 x2 : Value)  : den Tryz.prog (sel (bodyOf Tryz.f5) []) (bodyQ Tryz.prog Tryz.f5.results.toList K E) #[x0, x1, x2, undef, undef, undef, undef, undef, undef, undef, undef, undef, undef, undef, undef, undef, undef, undef, undef, undef, undef, undef, undef, undef, undef, undef, undef, undef, undef, undef, undef, undef, undef, undef, undef, undef, undef, undef, undef, undef, undef, undef, undef, undef, undef, undef, undef, undef, undef, undef, undef, undef, undef, undef, undef, undef, undef, undef, undef, undef, undef, undef, undef, undef, undef, undef, undef, undef, undef, undef, undef, undef, undef, undef, undef, undef, undef, undef, undef, undef, undef, undef, undef, undef, undef, undef, undef, undef, undef, undef, undef, undef, undef, undef, undef, undef, undef, undef, undef, undef, undef, undef, undef, undef, undef, undef, undef, undef, undef, undef, undef, undef, undef, undef, undef, undef, undef, undef] =
  pv (lenV x1) fun t1 =>
  pv (binV .none .gtr t1 (.int .i64 60)) fun t2 =>
  gdK t2 false (fun k => k x2) fun t3 =>
  gdK t2 false (fun k => pv (lenV t3) k) fun t4 =>
  gdK t2 false (fun k => pv (binV .none .gtr t4 (.int .i64 40)) k) fun t5 =>
  pv (pickV t2 (.bool true) t5) fun t6 =>
  gdK t6 false (fun k => k x2) fun t7 =>
  gdK t6 false (fun k => pv (lenV t7) k) fun t8 =>
  gdK t6 false (fun k => pv (binV .none .eql t8 (.int .i64 0)) k) fun t9 =>
  pv (pickV t6 (.bool true) t9) fun t10 =>
  gdK t10 false (fun k => callv Tryz.prog (.func (.func 11) #[] #[]) #[] k E) fun t11 =>
  gdK t10 false (fun k => pv (unV .not t11) k) fun t12 =>
  pv (pickV t10 (.bool true) t12) fun t13 =>
  cnd t13 (
    callv Tryz.prog (.func (.func 11) #[] #[]) #[] (fun t14 =>
    K t14) E) (
    callv Tryz.prog (.func (.func 12) #[] #[]) #[x0] (fun t15 =>
    callv Tryz.prog (.func (.func 13) #[] #[]) #[t15] (fun t16 =>
    pv (binV .ptr .eql t16 (.pointer none)) fun t17 =>
    cnd t17 (
      K (.bool false)) (
      callv Tryz.prog (.func (.func 16) #[] #[]) #[t15, x2, (.slice none 0 0)] (fun t18 =>
      mks 3 [(.int .i64 0)] 1 8 (.int .i64 256) (.int .i64 256) fun t19 =>
      lp (fun k1 => den Tryz.prog (sel (bodyOf Tryz.f5) [1, 1, 1, 1, 1, 1, 1, 1, 0, 1, 0, 0]) (thenD k1 (blk 0 (thenD (den Tryz.prog (sel (bodyOf Tryz.f5) [1, 1, 1, 1, 1, 1, 1, 1, 1]) (bodyQ Tryz.prog Tryz.f5.results.toList K E)) (bodyQ Tryz.prog Tryz.f5.results.toList K E))))) #[x0, x1, x2, undef, undef, undef, (.bool false), t15, t16, t18, t19, (.int .i64 0), (.int .i64 0), undef, undef, undef, x1, t1, t2, t2, t3, t4, t5, t6, t6, t7, t8, t9, t10, t10, t11, t12, t13, undef, x0, t15, t15, t16, t16, t17, t15, x2, t18, t19, undef, undef, undef, undef, undef, undef, undef, undef, undef, undef, undef, undef, undef, undef, undef, undef, undef, undef, undef, undef, undef, undef, undef, undef, undef, undef, undef, undef, undef, undef, undef, undef, undef, undef, undef, undef, undef, undef, undef, undef, undef, undef, undef, undef, undef, undef, undef, undef, undef, undef, undef, undef, undef, undef, undef, undef, undef, undef, undef, undef, undef, undef, undef, undef, undef, undef, undef, undef, undef, undef, undef, undef, undef, undef]) E)) E) E) := by kernel_rfl
def m5_1_1_1_1_1_1_1_1_0_1_0_0 (x0 x1 x2 x3 x4 x5 x7 x8 x9 x10 x14 x15 x16 x17 x18 x19 x20 x21 x22 x23 x24 x25 x26 x27 x28 x29 x30 x31 x32 x33 x34 x35 x36 x37 x38 x39 x40 x41 x42 x43 x94 x95 x96 x97 x98 x99 x100 x101 x102 x103 x104 x105 x106 x107 x108 x109 x110 x111 x112 x113 x114 x115 x116 x117 : Value) (v11 v12 : Value) (j : Nat → Value) : Env := #[x0, x1, x2, x3, x4, x5, (j 6), x7, x8, x9, x10, v11, v12, (j 13), x14, x15, x16, x17, x18, x19, x20, x21, x22, x23, x24, x25, x26, x27, x28, x29, x30, x31, x32, x33, x34, x35, x36, x37, x38, x39, x40, x41, x42, x43, (j 44), (j 45), (j 46), (j 47), (j 48), (j 49), (j 50), (j 51), (j 52), (j 53), (j 54), (j 55), (j 56), (j 57), (j 58), (j 59), (j 60), (j 61), (j 62), (j 63), (j 64), (j 65), (j 66), (j 67), (j 68), (j 69), (j 70), (j 71), (j 72), (j 73), (j 74), (j 75), (j 76), (j 77), (j 78), (j 79), (j 80), (j 81), (j 82), (j 83), (j 84), (j 85), (j 86), (j 87), (j 88), (j 89), (j 90), (j 91), (j 92), (j 93), x94, x95, x96, x97, x98, x99, x100, x101, x102, x103, x104, x105, x106, x107, x108, x109, x110, x111, x112, x113, x114, x115, x116, x117]
theorem t5_1_1_1_1_1_1_1_1_0_1_0_0 (K : Kont) (E : PanK) (k1 : Env → Hp → Prop) (x0 x1 x2 x3 x4 x5 x7 x8 x9 x10 x14 x15 x16 x17 x18 x19 x20 x21 x22 x23 x24 x25 x26 x27 x28 x29 x30 x31 x32 x33 x34 x35 x36 x37 x38 x39 x40 x41 x42 x43 x94 x95 x96 x97 x98 x99 x100 x101 x102 x103 x104 x105 x106 x107 x108 x109 x110 x111 x112 x113 x114 x115 x116 x117 v11 v12 : Value) (j : Nat → Value) : den Tryz.prog (sel (bodyOf Tryz.f5) [1, 1, 1, 1, 1, 1, 1, 1, 0, 1, 0, 0]) (thenD k1 (blk 0 (thenD (den Tryz.prog (sel (bodyOf Tryz.f5) [1, 1, 1, 1, 1, 1, 1, 1, 1]) (bodyQ Tryz.prog Tryz.f5.results.toList K E)) (bodyQ Tryz.prog Tryz.f5.results.toList K E)))) (m5_1_1_1_1_1_1_1_1_0_1_0_0 x0 x1 x2 x3 x4 x5 x7 x8 x9 x10 x14 x15 x16 x17 x18 x19 x20 x21 x22 x23 x24 x25 x26 x27 x28 x29 x30 x31 x32 x33 x34 x35 x36 x37 x38 x39 x40 x41 x42 x43 x94 x95 x96 x97 x98 x99 x100 x101 x102 x103 x104 x105 x106 x107 x108 x109 x110 x111 x112 x113 x114 x115 x116 x117 v11 v12 j) =
  pv (lenV x1) fun t1 =>
  pv (binV .none .lss v12 t1) fun t2 =>
  cnd t2 (
    pv (iaV none 1 x1 v12) fun t3 =>
    ld false 1 t3 fun t4 =>
    pv (cvV .u32 t4) fun t5 =>
    callv Tryz.prog (.func (.func 15) #[] #[]) #[x8, t5, x9] (fun t6 =>
    pv (binV .none .eql t6 (.int .u16 0)) fun t7 =>
    pv (iaV none 1 x1 v12) fun t8 =>
    ld false 1 t8 fun t9 =>
    pv (binV .none .gtr t9 (.int .u8 0)) fun t10 =>
    gdK t10 true (fun k => k x10) fun t11 =>
    gdK t10 true (fun k => k x1) fun t12 =>
    gdK t10 true (fun k => k v12) fun t13 =>
    gdK t10 true (fun k => pv (iaV none 1 t12 t13) k) fun t14 =>
    gdK t10 true (fun k => ld false 1 t14 k) fun t15 =>
    gdK t10 true (fun k => pv (iaV none 1 t11 t15) k) fun t16 =>
    gdK t10 true (fun k => ld false 1 t16 k) fun t17 =>
    gdK t10 true (fun k => pv (binV .none .eql t17 (.int .i64 0)) k) fun t18 =>
    pv (pickV t10 t18 (.bool false)) fun t19 =>
    pv (binV .bool .neq t7 t19) fun t20 =>
    gdK t20 false (fun k => k t6) fun t21 =>
    gdK t20 false (fun k => pv (binV .none .neq t21 (.int .u16 0)) k) fun t22 =>
    gdK t20 false (fun k => k t22) fun t23 =>
    gdK t23 true (fun k => k t6) fun t24 =>
    gdK t23 true (fun k => pv (binV .none .neq t24 (.int .u16 130)) k) fun t25 =>
    gdK t20 false (fun k => pv (pickV t23 t25 (.bool false)) k) fun t26 =>
    pv (pickV t20 (.bool true) t26) fun t27 =>
    cnd t27 (
      K (.bool false)) (
      pv (binV .none .eql t6 (.int .u16 0)) fun t28 =>
      cnd t28 (
        pv (iaV none 1 x1 v12) fun t29 =>
        ld false 1 t29 fun t30 =>
        pv (iaV none 1 x10 t30) fun t31 =>
        st 1 t31 (.int .i64 1) fun _ =>
        pv (binV .none .add v11 (.int .i64 1)) fun t32 =>
        den Tryz.prog (sel (bodyOf Tryz.f5) [1, 1, 1, 1, 1, 1, 1, 1, 0, 1, 0, 0, 1, 1]) (thenD k1 (blk 0 (thenD (den Tryz.prog (sel (bodyOf Tryz.f5) [1, 1, 1, 1, 1, 1, 1, 1, 1]) (bodyQ Tryz.prog Tryz.f5.results.toList K E)) (bodyQ Tryz.prog Tryz.f5.results.toList K E)))) #[x0, x1, x2, x3, x4, x5, (j 6), x7, x8, x9, x10, t32, v12, t6, x14, x15, x16, x17, x18, x19, x20, x21, x22, x23, x24, x25, x26, x27, x28, x29, x30, x31, x32, x33, x34, x35, x36, x37, x38, x39, x40, x41, x42, x43, v12, x1, t1, t2, (j 48), (j 49), x8, x1, v12, t3, t4, t5, x9, t6, t6, t7, x1, v12, t8, t9, t10, t10, t11, t12, t13, t14, t15, t16, t17, t18, t19, t20, t20, t21, t22, t23, t24, t25, t26, t27, t6, t28, x10, x1, v12, t29, t30, t31, v11, t32, x94, x95, x96, x97, x98, x99, x100, x101, x102, x103, x104, x105, x106, x107, x108, x109, x110, x111, x112, x113, x114, x115, x116, x117]) (
        den Tryz.prog (sel (bodyOf Tryz.f5) [1, 1, 1, 1, 1, 1, 1, 1, 0, 1, 0, 0, 1, 1]) (thenD k1 (blk 0 (thenD (den Tryz.prog (sel (bodyOf Tryz.f5) [1, 1, 1, 1, 1, 1, 1, 1, 1]) (bodyQ Tryz.prog Tryz.f5.results.toList K E)) (bodyQ Tryz.prog Tryz.f5.results.toList K E)))) #[x0, x1, x2, x3, x4, x5, (j 6), x7, x8, x9, x10, v11, v12, t6, x14, x15, x16, x17, x18, x19, x20, x21, x22, x23, x24, x25, x26, x27, x28, x29, x30, x31, x32, x33, x34, x35, x36, x37, x38, x39, x40, x41, x42, x43, v12, x1, t1, t2, (j 48), (j 49), x8, x1, v12, t3, t4, t5, x9, t6, t6, t7, x1, v12, t8, t9, t10, t10, t11, t12, t13, t14, t15, t16, t17, t18, t19, t20, t20, t21, t22, t23, t24, t25, t26, t27, t6, t28, (j 86), (j 87), (j 88), (j 89), (j 90), (j 91), (j 92), (j 93), x94, x95, x96, x97, x98, x99, x100, x101, x102, x103, x104, x105, x106, x107, x108, x109, x110, x111, x112, x113, x114, x115, x116, x117]))) E) (
    den Tryz.prog (sel (bodyOf Tryz.f5) [1, 1, 1, 1, 1, 1, 1, 1, 1]) (bodyQ Tryz.prog Tryz.f5.results.toList K E) #[x0, x1, x2, x3, x4, x5, (j 6), x7, x8, x9, x10, v11, v12, (j 13), x14, x15, x16, x17, x18, x19, x20, x21, x22, x23, x24, x25, x26, x27, x28, x29, x30, x31, x32, x33, x34, x35, x36, x37, x38, x39, x40, x41, x42, x43, v12, x1, t1, t2, (j 48), (j 49), (j 50), (j 51), (j 52), (j 53), (j 54), (j 55), (j 56), (j 57), (j 58), (j 59), (j 60), (j 61), (j 62), (j 63), (j 64), (j 65), (j 66), (j 67), (j 68), (j 69), (j 70), (j 71), (j 72), (j 73), (j 74), (j 75), (j 76), (j 77), (j 78), (j 79), (j 80), (j 81), (j 82), (j 83), (j 84), (j 85), (j 86), (j 87), (j 88), (j 89), (j 90), (j 91), (j 92), (j 93), x94, x95, x96, x97, x98, x99, x100, x101, x102, x103, x104, x105, x106, x107, x108, x109, x110, x111, x112, x113, x114, x115, x116, x117]) := by kernel_rfl
theorem t5_1_1_1_1_1_1_1_1_1 (K : Kont) (E : PanK) (x0 x1 x2 x3 x4 x5 x6 x7 x8 x9 x10 x11 x12 x13 x14 x15 x16 x17 x18 x19 x20 x21 x22 x23 x24 x25 x26 x27 x28 x29 x30 x31 x32 x33 x34 x35 x36 x37 x38 x39 x40 x41 x42 x43 x44 x45 x46 x47 x48 x49 x50 x51 x52 x53 x54 x55 x56 x57 x58 x59 x60 x61 x62 x63 x64 x65 x66 x67 x68 x69 x70 x71 x72 x73 x74 x75 x76 x77 x78 x79 x80 x81 x82 x83 x84 x85 x86 x87 x88 x89 x90 x91 x92 x93 x94 x95 x96 x97 x98 x99 x100 x101 x102 x103 x104 x105 x106 x107 x108 x109 x110 x111 x112 x113 x114 x115 x116 x117 : Value)  : den Tryz.prog (sel (bodyOf Tryz.f5) [1, 1, 1, 1, 1, 1, 1, 1, 1]) (bodyQ Tryz.prog Tryz.f5.results.toList K E) #[x0, x1, x2, x3, x4, x5, x6, x7, x8, x9, x10, x11, x12, x13, x14, x15, x16, x17, x18, x19, x20, x21, x22, x23, x24, x25, x26, x27, x28, x29, x30, x31, x32, x33, x34, x35, x36, x37, x38, x39, x40, x41, x42, x43, x44, x45, x46, x47, x48, x49, x50, x51, x52, x53, x54, x55, x56, x57, x58, x59, x60, x61, x62, x63, x64, x65, x66, x67, x68, x69, x70, x71, x72, x73, x74, x75, x76, x77, x78, x79, x80, x81, x82, x83, x84, x85, x86, x87, x88, x89, x90, x91, x92, x93, x94, x95, x96, x97, x98, x99, x100, x101, x102, x103, x104, x105, x106, x107, x108, x109, x110, x111, x112, x113, x114, x115, x116, x117] =
  callv Tryz.prog (.func (.func 19) #[] #[]) #[x8, (.int .i64 0), (.int .i64 10000)] (fun t1 =>
  lp (fun k1 => den Tryz.prog (sel (bodyOf Tryz.f5) [1, 1, 1, 1, 1, 1, 1, 1, 1, 1, 0, 1, 0, 0]) (thenD k1 (blk 2 (thenD (den Tryz.prog (sel (bodyOf Tryz.f5) [1, 1, 1, 1, 1, 1, 1, 1, 1, 1, 1]) (bodyQ Tryz.prog Tryz.f5.results.toList K E)) (bodyQ Tryz.prog Tryz.f5.results.toList K E))))) #[x0, x1, x2, x3, x4, x5, x6, x7, x8, x9, x10, x11, x12, x13, t1, (.int .i64 1), x16, x17, x18, x19, x20, x21, x22, x23, x24, x25, x26, x27, x28, x29, x30, x31, x32, x33, x34, x35, x36, x37, x38, x39, x40, x41, x42, x43, x44, x45, x46, x47, x48, x49, x50, x51, x52, x53, x54, x55, x56, x57, x58, x59, x60, x61, x62, x63, x64, x65, x66, x67, x68, x69, x70, x71, x72, x73, x74, x75, x76, x77, x78, x79, x80, x81, x82, x83, x84, x85, x86, x87, x88, x89, x90, x91, x92, x93, x8, t1, x96, x97, x98, x99, x100, x101, x102, x103, x104, x105, x106, x107, x108, x109, x110, x111, x112, x113, x114, x115, x116, x117]) E := by kernel_rfl
theorem t5_1_1_1_1_1_1_1_1_0_1_0_0_1_1 (K : Kont) (E : PanK) (k1 : Env → Hp → Prop) (x0 x1 x2 x3 x4 x5 x6 x7 x8 x9 x10 x11 x12 x13 x14 x15 x16 x17 x18 x19 x20 x21 x22 x23 x24 x25 x26 x27 x28 x29 x30 x31 x32 x33 x34 x35 x36 x37 x38 x39 x40 x41 x42 x43 x44 x45 x46 x47 x48 x49 x50 x51 x52 x53 x54 x55 x56 x57 x58 x59 x60 x61 x62 x63 x64 x65 x66 x67 x68 x69 x70 x71 x72 x73 x74 x75 x76 x77 x78 x79 x80 x81 x82 x83 x84 x85 x86 x87 x88 x89 x90 x91 x92 x93 x94 x95 x96 x97 x98 x99 x100 x101 x102 x103 x104 x105 x106 x107 x108 x109 x110 x111 x112 x113 x114 x115 x116 x117 : Value)  : den Tryz.prog (sel (bodyOf Tryz.f5) [1, 1, 1, 1, 1, 1, 1, 1, 0, 1, 0, 0, 1, 1]) (thenD k1 (blk 0 (thenD (den Tryz.prog (sel (bodyOf Tryz.f5) [1, 1, 1, 1, 1, 1, 1, 1, 1]) (bodyQ Tryz.prog Tryz.f5.results.toList K E)) (bodyQ Tryz.prog Tryz.f5.results.toList K E)))) #[x0, x1, x2, x3, x4, x5, x6, x7, x8, x9, x10, x11, x12, x13, x14, x15, x16, x17, x18, x19, x20, x21, x22, x23, x24, x25, x26, x27, x28, x29, x30, x31, x32, x33, x34, x35, x36, x37, x38, x39, x40, x41, x42, x43, x44, x45, x46, x47, x48, x49, x50, x51, x52, x53, x54, x55, x56, x57, x58, x59, x60, x61, x62, x63, x64, x65, x66, x67, x68, x69, x70, x71, x72, x73, x74, x75, x76, x77, x78, x79, x80, x81, x82, x83, x84, x85, x86, x87, x88, x89, x90, x91, x92, x93, x94, x95, x96, x97, x98, x99, x100, x101, x102, x103, x104, x105, x106, x107, x108, x109, x110, x111, x112, x113, x114, x115, x116, x117] =
  pv (binV .none .add x12 (.int .i64 1)) fun t1 =>
  k1 (m5_1_1_1_1_1_1_1_1_0_1_0_0 x0 x1 x2 x3 x4 x5 x7 x8 x9 x10 x14 x15 x16 x17 x18 x19 x20 x21 x22 x23 x24 x25 x26 x27 x28 x29 x30 x31 x32 x33 x34 x35 x36 x37 x38 x39 x40 x41 x42 x43 x94 x95 x96 x97 x98 x99 x100 x101 x102 x103 x104 x105 x106 x107 x108 x109 x110 x111 x112 x113 x114 x115 x116 x117 x11 t1 (jf #[x0, x1, x2, x3, x4, x5, x6, x7, x8, x9, x10, x11, t1, x13, x14, x15, x16, x17, x18, x19, x20, x21, x22, x23, x24, x25, x26, x27, x28, x29, x30, x31, x32, x33, x34, x35, x36, x37, x38, x39, x40, x41, x42, x43, x44, x45, x46, x47, x12, t1, x50, x51, x52, x53, x54, x55, x56, x57, x58, x59, x60, x61, x62, x63, x64, x65, x66, x67, x68, x69, x70, x71, x72, x73, x74, x75, x76, x77, x78, x79, x80, x81, x82, x83, x84, x85, x86, x87, x88, x89, x90, x91, x92, x93, x94, x95, x96, x97, x98, x99, x100, x101, x102, x103, x104, x105, x106, x107, x108, x109, x110, x111, x112, x113, x114, x115, x116, x117])) := by kernel_rfl
def m5_1_1_1_1_1_1_1_1_1_1_0_1_0_0 (x0 x1 x2 x3 x4 x5 x7 x8 x9 x10 x11 x12 x13 x14 x16 x17 x18 x19 x20 x21 x22 x23 x24 x25 x26 x27 x28 x29 x30 x31 x32 x33 x34 x35 x36 x37 x38 x39 x40 x41 x42 x43 x44 x45 x46 x47 x48 x49 x50 x51 x52 x53 x54 x55 x56 x57 x58 x59 x60 x61 x62 x63 x64 x65 x66 x67 x68 x69 x70 x71 x72 x73 x74 x75 x76 x77 x78 x79 x80 x81 x82 x83 x84 x85 x86 x87 x88 x89 x90 x91 x92 x93 x94 x95 x114 x115 x116 x117 : Value) (v15 : Value) (j : Nat → Value) : Env := #[x0, x1, x2, x3, x4, x5, (j 6), x7, x8, x9, x10, x11, x12, x13, x14, v15, x16, x17, x18, x19, x20, x21, x22, x23, x24, x25, x26, x27, x28, x29, x30, x31, x32, x33, x34, x35, x36, x37, x38, x39, x40, x41, x42, x43, x44, x45, x46, x47, x48, x49, x50, x51, x52, x53, x54, x55, x56, x57, x58, x59, x60, x61, x62, x63, x64, x65, x66, x67, x68, x69, x70, x71, x72, x73, x74, x75, x76, x77, x78, x79, x80, x81, x82, x83, x84, x85, x86, x87, x88, x89, x90, x91, x92, x93, x94, x95, (j 96), (j 97), (j 98), (j 99), (j 100), (j 101), (j 102), (j 103), (j 104), (j 105), (j 106), (j 107), (j 108), (j 109), (j 110), (j 111), (j 112), (j 113), x114, x115, x116, x117]
theorem t5_1_1_1_1_1_1_1_1_1_1_0_1_0_0 (K : Kont) (E : PanK) (k1 : Env → Hp → Prop) (x0 x1 x2 x3 x4 x5 x7 x8 x9 x10 x11 x12 x13 x14 x16 x17 x18 x19 x20 x21 x22 x23 x24 x25 x26 x27 x28 x29 x30 x31 x32 x33 x34 x35 x36 x37 x38 x39 x40 x41 x42 x43 x44 x45 x46 x47 x48 x49 x50 x51 x52 x53 x54 x55 x56 x57 x58 x59 x60 x61 x62 x63 x64 x65 x66 x67 x68 x69 x70 x71 x72 x73 x74 x75 x76 x77 x78 x79 x80 x81 x82 x83 x84 x85 x86 x87 x88 x89 x90 x91 x92 x93 x94 x95 x114 x115 x116 x117 v15 : Value) (j : Nat → Value) : den Tryz.prog (sel (bodyOf Tryz.f5) [1, 1, 1, 1, 1, 1, 1, 1, 1, 1, 0, 1, 0, 0]) (thenD k1 (blk 2 (thenD (den Tryz.prog (sel (bodyOf Tryz.f5) [1, 1, 1, 1, 1, 1, 1, 1, 1, 1, 1]) (bodyQ Tryz.prog Tryz.f5.results.toList K E)) (bodyQ Tryz.prog Tryz.f5.results.toList K E)))) (m5_1_1_1_1_1_1_1_1_1_1_0_1_0_0 x0 x1 x2 x3 x4 x5 x7 x8 x9 x10 x11 x12 x13 x14 x16 x17 x18 x19 x20 x21 x22 x23 x24 x25 x26 x27 x28 x29 x30 x31 x32 x33 x34 x35 x36 x37 x38 x39 x40 x41 x42 x43 x44 x45 x46 x47 x48 x49 x50 x51 x52 x53 x54 x55 x56 x57 x58 x59 x60 x61 x62 x63 x64 x65 x66 x67 x68 x69 x70 x71 x72 x73 x74 x75 x76 x77 x78 x79 x80 x81 x82 x83 x84 x85 x86 x87 x88 x89 x90 x91 x92 x93 x94 x95 x114 x115 x116 x117 v15 j) =
  pv (lenV x14) fun t1 =>
  pv (binV .none .lss v15 t1) fun t2 =>
  cnd t2 (
    pv (iaV none 2 x14 v15) fun t3 =>
    pv (faV 0 t3) fun t4 =>
    ld false 1 t4 fun t5 =>
    pv (binV .none .sub v15 (.int .i64 1)) fun t6 =>
    pv (iaV none 2 x14 t6) fun t7 =>
    pv (faV 0 t7) fun t8 =>
    ld false 1 t8 fun t9 =>
    pv (binV .none .leq t5 t9) fun t10 =>
    cnd t10 (
      K (.bool false)) (
      pv (binV .none .add v15 (.int .i64 1)) fun t11 =>
      k1 (m5_1_1_1_1_1_1_1_1_1_1_0_1_0_0 x0 x1 x2 x3 x4 x5 x7 x8 x9 x10 x11 x12 x13 x14 x16 x17 x18 x19 x20 x21 x22 x23 x24 x25 x26 x27 x28 x29 x30 x31 x32 x33 x34 x35 x36 x37 x38 x39 x40 x41 x42 x43 x44 x45 x46 x47 x48 x49 x50 x51 x52 x53 x54 x55 x56 x57 x58 x59 x60 x61 x62 x63 x64 x65 x66 x67 x68 x69 x70 x71 x72 x73 x74 x75 x76 x77 x78 x79 x80 x81 x82 x83 x84 x85 x86 x87 x88 x89 x90 x91 x92 x93 x94 x95 x114 x115 x116 x117 t11 (jf #[x0, x1, x2, x3, x4, x5, (j 6), x7, x8, x9, x10, x11, x12, x13, x14, t11, x16, x17, x18, x19, x20, x21, x22, x23, x24, x25, x26, x27, x28, x29, x30, x31, x32, x33, x34, x35, x36, x37, x38, x39, x40, x41, x42, x43, x44, x45, x46, x47, x48, x49, x50, x51, x52, x53, x54, x55, x56, x57, x58, x59, x60, x61, x62, x63, x64, x65, x66, x67, x68, x69, x70, x71, x72, x73, x74, x75, x76, x77, x78, x79, x80, x81, x82, x83, x84, x85, x86, x87, x88, x89, x90, x91, x92, x93, x94, x95, v15, x14, t1, t2, v15, t11, x14, v15, t3, t4, t5, x14, v15, t6, t7, t8, t9, t10, x114, x115, x116, x117])))) (
    den Tryz.prog (sel (bodyOf Tryz.f5) [1, 1, 1, 1, 1, 1, 1, 1, 1, 1, 1]) (bodyQ Tryz.prog Tryz.f5.results.toList K E) #[x0, x1, x2, x3, x4, x5, (j 6), x7, x8, x9, x10, x11, x12, x13, x14, v15, x16, x17, x18, x19, x20, x21, x22, x23, x24, x25, x26, x27, x28, x29, x30, x31, x32, x33, x34, x35, x36, x37, x38, x39, x40, x41, x42, x43, x44, x45, x46, x47, x48, x49, x50, x51, x52, x53, x54, x55, x56, x57, x58, x59, x60, x61, x62, x63, x64, x65, x66, x67, x68, x69, x70, x71, x72, x73, x74, x75, x76, x77, x78, x79, x80, x81, x82, x83, x84, x85, x86, x87, x88, x89, x90, x91, x92, x93, x94, x95, v15, x14, t1, t2, (j 100), (j 101), (j 102), (j 103), (j 104), (j 105), (j 106), (j 107), (j 108), (j 109), (j 110), (j 111), (j 112), (j 113), x114, x115, x116, x117]) := by kernel_rfl
theorem t5_1_1_1_1_1_1_1_1_1_1_1 (K : Kont) (E : PanK) (x0 x1 x2 x3 x4 x5 x6 x7 x8 x9 x10 x11 x12 x13 x14 x15 x16 x17 x18 x19 x20 x21 x22 x23 x24 x25 x26 x27 x28 x29 x30 x31 x32 x33 x34 x35 x36 x37 x38 x39 x40 x41 x42 x43 x44 x45 x46 x47 x48 x49 x50 x51 x52 x53 x54 x55 x56 x57 x58 x59 x60 x61 x62 x63 x64 x65 x66 x67 x68 x69 x70 x71 x72 x73 x74 x75 x76 x77 x78 x79 x80 x81 x82 x83 x84 x85 x86 x87 x88 x89 x90 x91 x92 x93 x94 x95 x96 x97 x98 x99 x100 x101 x102 x103 x104 x105 x106 x107 x108 x109 x110 x111 x112 x113 x114 x115 x116 x117 : Value)  : den Tryz.prog (sel (bodyOf Tryz.f5) [1, 1, 1, 1, 1, 1, 1, 1, 1, 1, 1]) (bodyQ Tryz.prog Tryz.f5.results.toList K E) #[x0, x1, x2, x3, x4, x5, x6, x7, x8, x9, x10, x11, x12, x13, x14, x15, x16, x17, x18, x19, x20, x21, x22, x23, x24, x25, x26, x27, x28, x29, x30, x31, x32, x33, x34, x35, x36, x37, x38, x39, x40, x41, x42, x43, x44, x45, x46, x47, x48, x49, x50, x51, x52, x53, x54, x55, x56, x57, x58, x59, x60, x61, x62, x63, x64, x65, x66, x67, x68, x69, x70, x71, x72, x73, x74, x75, x76, x77, x78, x79, x80, x81, x82, x83, x84, x85, x86, x87, x88, x89, x90, x91, x92, x93, x94, x95, x96, x97, x98, x99, x100, x101, x102, x103, x104, x105, x106, x107, x108, x109, x110, x111, x112, x113, x114, x115, x116, x117] =
  pv (lenV x14) fun t1 =>
  pv (binV .none .eql t1 x11) fun t2 =>
  K t2 := by kernel_rfl
theorem l5_1_1_1_1_1_1_1_1_0_1_0_0 {K : Kont} {E : PanK} {σ : Type} {x0 x1 x2 x3 x4 x5 x7 x8 x9 x10 x14 x15 x16 x17 x18 x19 x20 x21 x22 x23 x24 x25 x26 x27 x28 x29 x30 x31 x32 x33 x34 x35 x36 x37 x38 x39 x40 x41 x42 x43 x94 x95 x96 x97 x98 x99 x100 x101 x102 x103 x104 x105 x106 x107 x108 x109 x110 x111 x112 x113 x114 x115 x116 x117 v11 v12 y6 y13 y44 y45 y46 y47 y48 y49 y50 y51 y52 y53 y54 y55 y56 y57 y58 y59 y60 y61 y62 y63 y64 y65 y66 y67 y68 y69 y70 y71 y72 y73 y74 y75 y76 y77 y78 y79 y80 y81 y82 y83 y84 y85 y86 y87 y88 y89 y90 y91 y92 y93 : Value} {h : Hp} (f11 f12 : σ → Value) (I : σ → Hp → Prop) (μ : σ → Nat) (s0 : σ) (e11 : v11 = f11 s0) (e12 : v12 = f12 s0) (h0 : h.wf → ∃ h', h.wk h' ∧ I s0 h')
  (round : ∀ (k1 : Env → Hp → Prop) (s : σ) (j : Nat → Value) (h : Hp), I s h → h.wf → (∀ s' j' h', μ s' < μ s → (h'.wf → ∃ h'', h'.wk h'' ∧ I s' h'') → k1 (m5_1_1_1_1_1_1_1_1_0_1_0_0 x0 x1 x2 x3 x4 x5 x7 x8 x9 x10 x14 x15 x16 x17 x18 x19 x20 x21 x22 x23 x24 x25 x26 x27 x28 x29 x30 x31 x32 x33 x34 x35 x36 x37 x38 x39 x40 x41 x42 x43 x94 x95 x96 x97 x98 x99 x100 x101 x102 x103 x104 x105 x106 x107 x108 x109 x110 x111 x112 x113 x114 x115 x116 x117 (f11 s') (f12 s') j') h') → (
  pv (lenV x1) fun t1 =>
  pv (binV .none .lss (f12 s) t1) fun t2 =>
  cnd t2 (
    pv (iaV none 1 x1 (f12 s)) fun t3 =>
    ld false 1 t3 fun t4 =>
    pv (cvV .u32 t4) fun t5 =>
    callv Tryz.prog (.func (.func 15) #[] #[]) #[x8, t5, x9] (fun t6 =>
    pv (binV .none .eql t6 (.int .u16 0)) fun t7 =>
    pv (iaV none 1 x1 (f12 s)) fun t8 =>
    ld false 1 t8 fun t9 =>
    pv (binV .none .gtr t9 (.int .u8 0)) fun t10 =>
    gdK t10 true (fun k => k x10) fun t11 =>
    gdK t10 true (fun k => k x1) fun t12 =>
    gdK t10 true (fun k => k (f12 s)) fun t13 =>
    gdK t10 true (fun k => pv (iaV none 1 t12 t13) k) fun t14 =>
    gdK t10 true (fun k => ld false 1 t14 k) fun t15 =>
    gdK t10 true (fun k => pv (iaV none 1 t11 t15) k) fun t16 =>
    gdK t10 true (fun k => ld false 1 t16 k) fun t17 =>
    gdK t10 true (fun k => pv (binV .none .eql t17 (.int .i64 0)) k) fun t18 =>
    pv (pickV t10 t18 (.bool false)) fun t19 =>
    pv (binV .bool .neq t7 t19) fun t20 =>
    gdK t20 false (fun k => k t6) fun t21 =>
    gdK t20 false (fun k => pv (binV .none .neq t21 (.int .u16 0)) k) fun t22 =>
    gdK t20 false (fun k => k t22) fun t23 =>
    gdK t23 true (fun k => k t6) fun t24 =>
    gdK t23 true (fun k => pv (binV .none .neq t24 (.int .u16 130)) k) fun t25 =>
    gdK t20 false (fun k => pv (pickV t23 t25 (.bool false)) k) fun t26 =>
    pv (pickV t20 (.bool true) t26) fun t27 =>
    cnd t27 (
      K (.bool false)) (
      pv (binV .none .eql t6 (.int .u16 0)) fun t28 =>
      cnd t28 (
        pv (iaV none 1 x1 (f12 s)) fun t29 =>
        ld false 1 t29 fun t30 =>
        pv (iaV none 1 x10 t30) fun t31 =>
        st 1 t31 (.int .i64 1) fun _ =>
        pv (binV .none .add (f11 s) (.int .i64 1)) fun t32 =>
        den Tryz.prog (sel (bodyOf Tryz.f5) [1, 1, 1, 1, 1, 1, 1, 1, 0, 1, 0, 0, 1, 1]) (thenD k1 (blk 0 (thenD (den Tryz.prog (sel (bodyOf Tryz.f5) [1, 1, 1, 1, 1, 1, 1, 1, 1]) (bodyQ Tryz.prog Tryz.f5.results.toList K E)) (bodyQ Tryz.prog Tryz.f5.results.toList K E)))) #[x0, x1, x2, x3, x4, x5, (j 6), x7, x8, x9, x10, t32, (f12 s), t6, x14, x15, x16, x17, x18, x19, x20, x21, x22, x23, x24, x25, x26, x27, x28, x29, x30, x31, x32, x33, x34, x35, x36, x37, x38, x39, x40, x41, x42, x43, (f12 s), x1, t1, t2, (j 48), (j 49), x8, x1, (f12 s), t3, t4, t5, x9, t6, t6, t7, x1, (f12 s), t8, t9, t10, t10, t11, t12, t13, t14, t15, t16, t17, t18, t19, t20, t20, t21, t22, t23, t24, t25, t26, t27, t6, t28, x10, x1, (f12 s), t29, t30, t31, (f11 s), t32, x94, x95, x96, x97, x98, x99, x100, x101, x102, x103, x104, x105, x106, x107, x108, x109, x110, x111, x112, x113, x114, x115, x116, x117]) (
        den Tryz.prog (sel (bodyOf Tryz.f5) [1, 1, 1, 1, 1, 1, 1, 1, 0, 1, 0, 0, 1, 1]) (thenD k1 (blk 0 (thenD (den Tryz.prog (sel (bodyOf Tryz.f5) [1, 1, 1, 1, 1, 1, 1, 1, 1]) (bodyQ Tryz.prog Tryz.f5.results.toList K E)) (bodyQ Tryz.prog Tryz.f5.results.toList K E)))) #[x0, x1, x2, x3, x4, x5, (j 6), x7, x8, x9, x10, (f11 s), (f12 s), t6, x14, x15, x16, x17, x18, x19, x20, x21, x22, x23, x24, x25, x26, x27, x28, x29, x30, x31, x32, x33, x34, x35, x36, x37, x38, x39, x40, x41, x42, x43, (f12 s), x1, t1, t2, (j 48), (j 49), x8, x1, (f12 s), t3, t4, t5, x9, t6, t6, t7, x1, (f12 s), t8, t9, t10, t10, t11, t12, t13, t14, t15, t16, t17, t18, t19, t20, t20, t21, t22, t23, t24, t25, t26, t27, t6, t28, (j 86), (j 87), (j 88), (j 89), (j 90), (j 91), (j 92), (j 93), x94, x95, x96, x97, x98, x99, x100, x101, x102, x103, x104, x105, x106, x107, x108, x109, x110, x111, x112, x113, x114, x115, x116, x117]))) E) (
    den Tryz.prog (sel (bodyOf Tryz.f5) [1, 1, 1, 1, 1, 1, 1, 1, 1]) (bodyQ Tryz.prog Tryz.f5.results.toList K E) #[x0, x1, x2, x3, x4, x5, (j 6), x7, x8, x9, x10, (f11 s), (f12 s), (j 13), x14, x15, x16, x17, x18, x19, x20, x21, x22, x23, x24, x25, x26, x27, x28, x29, x30, x31, x32, x33, x34, x35, x36, x37, x38, x39, x40, x41, x42, x43, (f12 s), x1, t1, t2, (j 48), (j 49), (j 50), (j 51), (j 52), (j 53), (j 54), (j 55), (j 56), (j 57), (j 58), (j 59), (j 60), (j 61), (j 62), (j 63), (j 64), (j 65), (j 66), (j 67), (j 68), (j 69), (j 70), (j 71), (j 72), (j 73), (j 74), (j 75), (j 76), (j 77), (j 78), (j 79), (j 80), (j 81), (j 82), (j 83), (j 84), (j 85), (j 86), (j 87), (j 88), (j 89), (j 90), (j 91), (j 92), (j 93), x94, x95, x96, x97, x98, x99, x100, x101, x102, x103, x104, x105, x106, x107, x108, x109, x110, x111, x112, x113, x114, x115, x116, x117])) h) :
  lp (fun k1 => den Tryz.prog (sel (bodyOf Tryz.f5) [1, 1, 1, 1, 1, 1, 1, 1, 0, 1, 0, 0]) (thenD k1 (blk 0 (thenD (den Tryz.prog (sel (bodyOf Tryz.f5) [1, 1, 1, 1, 1, 1, 1, 1, 1]) (bodyQ Tryz.prog Tryz.f5.results.toList K E)) (bodyQ Tryz.prog Tryz.f5.results.toList K E))))) #[x0, x1, x2, x3, x4, x5, y6, x7, x8, x9, x10, v11, v12, y13, x14, x15, x16, x17, x18, x19, x20, x21, x22, x23, x24, x25, x26, x27, x28, x29, x30, x31, x32, x33, x34, x35, x36, x37, x38, x39, x40, x41, x42, x43, y44, y45, y46, y47, y48, y49, y50, y51, y52, y53, y54, y55, y56, y57, y58, y59, y60, y61, y62, y63, y64, y65, y66, y67, y68, y69, y70, y71, y72, y73, y74, y75, y76, y77, y78, y79, y80, y81, y82, y83, y84, y85, y86, y87, y88, y89, y90, y91, y92, y93, x94, x95, x96, x97, x98, x99, x100, x101, x102, x103, x104, x105, x106, x107, x108, x109, x110, x111, x112, x113, x114, x115, x116, x117] h := by
  subst e11
  subst e12
  have e : (#[x0, x1, x2, x3, x4, x5, y6, x7, x8, x9, x10, (f11 s0), (f12 s0), y13, x14, x15, x16, x17, x18, x19, x20, x21, x22, x23, x24, x25, x26, x27, x28, x29, x30, x31, x32, x33, x34, x35, x36, x37, x38, x39, x40, x41, x42, x43, y44, y45, y46, y47, y48, y49, y50, y51, y52, y53, y54, y55, y56, y57, y58, y59, y60, y61, y62, y63, y64, y65, y66, y67, y68, y69, y70, y71, y72, y73, y74, y75, y76, y77, y78, y79, y80, y81, y82, y83, y84, y85, y86, y87, y88, y89, y90, y91, y92, y93, x94, x95, x96, x97, x98, x99, x100, x101, x102, x103, x104, x105, x106, x107, x108, x109, x110, x111, x112, x113, x114, x115, x116, x117] : Env) = m5_1_1_1_1_1_1_1_1_0_1_0_0 x0 x1 x2 x3 x4 x5 x7 x8 x9 x10 x14 x15 x16 x17 x18 x19 x20 x21 x22 x23 x24 x25 x26 x27 x28 x29 x30 x31 x32 x33 x34 x35 x36 x37 x38 x39 x40 x41 x42 x43 x94 x95 x96 x97 x98 x99 x100 x101 x102 x103 x104 x105 x106 x107 x108 x109 x110 x111 x112 x113 x114 x115 x116 x117 (f11 s0) (f12 s0) (jf #[x0, x1, x2, x3, x4, x5, y6, x7, x8, x9, x10, (f11 s0), (f12 s0), y13, x14, x15, x16, x17, x18, x19, x20, x21, x22, x23, x24, x25, x26, x27, x28, x29, x30, x31, x32, x33, x34, x35, x36, x37, x38, x39, x40, x41, x42, x43, y44, y45, y46, y47, y48, y49, y50, y51, y52, y53, y54, y55, y56, y57, y58, y59, y60, y61, y62, y63, y64, y65, y66, y67, y68, y69, y70, y71, y72, y73, y74, y75, y76, y77, y78, y79, y80, y81, y82, y83, y84, y85, y86, y87, y88, y89, y90, y91, y92, y93, x94, x95, x96, x97, x98, x99, x100, x101, x102, x103, x104, x105, x106, x107, x108, x109, x110, x111, x112, x113, x114, x115, x116, x117]) := by kernel_rfl
  rw [e]
  exact loop_r (fun s j => m5_1_1_1_1_1_1_1_1_0_1_0_0 x0 x1 x2 x3 x4 x5 x7 x8 x9 x10 x14 x15 x16 x17 x18 x19 x20 x21 x22 x23 x24 x25 x26 x27 x28 x29 x30 x31 x32 x33 x34 x35 x36 x37 x38 x39 x40 x41 x42 x43 x94 x95 x96 x97 x98 x99 x100 x101 x102 x103 x104 x105 x106 x107 x108 x109 x110 x111 x112 x113 x114 x115 x116 x117 (f11 s) (f12 s) j) I μ (fun k s j h hI hw next => by rw [t5_1_1_1_1_1_1_1_1_0_1_0_0]; exact round k s j h hI hw next) s0 (jf #[x0, x1, x2, x3, x4, x5, y6, x7, x8, x9, x10, (f11 s0), (f12 s0), y13, x14, x15, x16, x17, x18, x19, x20, x21, x22, x23, x24, x25, x26, x27, x28, x29, x30, x31, x32, x33, x34, x35, x36, x37, x38, x39, x40, x41, x42, x43, y44, y45, y46, y47, y48, y49, y50, y51, y52, y53, y54, y55, y56, y57, y58, y59, y60, y61, y62, y63, y64, y65, y66, y67, y68, y69, y70, y71, y72, y73, y74, y75, y76, y77, y78, y79, y80, y81, y82, y83, y84, y85, y86, y87, y88, y89, y90, y91, y92, y93, x94, x95, x96, x97, x98, x99, x100, x101, x102, x103, x104, x105, x106, x107, x108, x109, x110, x111, x112, x113, x114, x115, x116, x117]) h0
theorem l5_1_1_1_1_1_1_1_1_1_1_0_1_0_0 {K : Kont} {E : PanK} {σ : Type} {x0 x1 x2 x3 x4 x5 x7 x8 x9 x10 x11 x12 x13 x14 x16 x17 x18 x19 x20 x21 x22 x23 x24 x25 x26 x27 x28 x29 x30 x31 x32 x33 x34 x35 x36 x37 x38 x39 x40 x41 x42 x43 x44 x45 x46 x47 x48 x49 x50 x51 x52 x53 x54 x55 x56 x57 x58 x59 x60 x61 x62 x63 x64 x65 x66 x67 x68 x69 x70 x71 x72 x73 x74 x75 x76 x77 x78 x79 x80 x81 x82 x83 x84 x85 x86 x87 x88 x89 x90 x91 x92 x93 x94 x95 x114 x115 x116 x117 v15 y6 y96 y97 y98 y99 y100 y101 y102 y103 y104 y105 y106 y107 y108 y109 y110 y111 y112 y113 : Value} {h : Hp} (f15 : σ → Value) (I : σ → Hp → Prop) (μ : σ → Nat) (s0 : σ) (e15 : v15 = f15 s0) (h0 : h.wf → ∃ h', h.wk h' ∧ I s0 h')
  (round : ∀ (k1 : Env → Hp → Prop) (s : σ) (j : Nat → Value) (h : Hp), I s h → h.wf → (∀ s' j' h', μ s' < μ s → (h'.wf → ∃ h'', h'.wk h'' ∧ I s' h'') → k1 (m5_1_1_1_1_1_1_1_1_1_1_0_1_0_0 x0 x1 x2 x3 x4 x5 x7 x8 x9 x10 x11 x12 x13 x14 x16 x17 x18 x19 x20 x21 x22 x23 x24 x25 x26 x27 x28 x29 x30 x31 x32 x33 x34 x35 x36 x37 x38 x39 x40 x41 x42 x43 x44 x45 x46 x47 x48 x49 x50 x51 x52 x53 x54 x55 x56 x57 x58 x59 x60 x61 x62 x63 x64 x65 x66 x67 x68 x69 x70 x71 x72 x73 x74 x75 x76 x77 x78 x79 x80 x81 x82 x83 x84 x85 x86 x87 x88 x89 x90 x91 x92 x93 x94 x95 x114 x115 x116 x117 (f15 s') j') h') → (
  pv (lenV x14) fun t1 =>
  pv (binV .none .lss (f15 s) t1) fun t2 =>
  cnd t2 (
    pv (iaV none 2 x14 (f15 s)) fun t3 =>
    pv (faV 0 t3) fun t4 =>
    ld false 1 t4 fun t5 =>
    pv (binV .none .sub (f15 s) (.int .i64 1)) fun t6 =>
    pv (iaV none 2 x14 t6) fun t7 =>
    pv (faV 0 t7) fun t8 =>
    ld false 1 t8 fun t9 =>
    pv (binV .none .leq t5 t9) fun t10 =>
    cnd t10 (
      K (.bool false)) (
      pv (binV .none .add (f15 s) (.int .i64 1)) fun t11 =>
      k1 (m5_1_1_1_1_1_1_1_1_1_1_0_1_0_0 x0 x1 x2 x3 x4 x5 x7 x8 x9 x10 x11 x12 x13 x14 x16 x17 x18 x19 x20 x21 x22 x23 x24 x25 x26 x27 x28 x29 x30 x31 x32 x33 x34 x35 x36 x37 x38 x39 x40 x41 x42 x43 x44 x45 x46 x47 x48 x49 x50 x51 x52 x53 x54 x55 x56 x57 x58 x59 x60 x61 x62 x63 x64 x65 x66 x67 x68 x69 x70 x71 x72 x73 x74 x75 x76 x77 x78 x79 x80 x81 x82 x83 x84 x85 x86 x87 x88 x89 x90 x91 x92 x93 x94 x95 x114 x115 x116 x117 t11 (jf #[x0, x1, x2, x3, x4, x5, (j 6), x7, x8, x9, x10, x11, x12, x13, x14, t11, x16, x17, x18, x19, x20, x21, x22, x23, x24, x25, x26, x27, x28, x29, x30, x31, x32, x33, x34, x35, x36, x37, x38, x39, x40, x41, x42, x43, x44, x45, x46, x47, x48, x49, x50, x51, x52, x53, x54, x55, x56, x57, x58, x59, x60, x61, x62, x63, x64, x65, x66, x67, x68, x69, x70, x71, x72, x73, x74, x75, x76, x77, x78, x79, x80, x81, x82, x83, x84, x85, x86, x87, x88, x89, x90, x91, x92, x93, x94, x95, (f15 s), x14, t1, t2, (f15 s), t11, x14, (f15 s), t3, t4, t5, x14, (f15 s), t6, t7, t8, t9, t10, x114, x115, x116, x117])))) (
    den Tryz.prog (sel (bodyOf Tryz.f5) [1, 1, 1, 1, 1, 1, 1, 1, 1, 1, 1]) (bodyQ Tryz.prog Tryz.f5.results.toList K E) #[x0, x1, x2, x3, x4, x5, (j 6), x7, x8, x9, x10, x11, x12, x13, x14, (f15 s), x16, x17, x18, x19, x20, x21, x22, x23, x24, x25, x26, x27, x28, x29, x30, x31, x32, x33, x34, x35, x36, x37, x38, x39, x40, x41, x42, x43, x44, x45, x46, x47, x48, x49, x50, x51, x52, x53, x54, x55, x56, x57, x58, x59, x60, x61, x62, x63, x64, x65, x66, x67, x68, x69, x70, x71, x72, x73, x74, x75, x76, x77, x78, x79, x80, x81, x82, x83, x84, x85, x86, x87, x88, x89, x90, x91, x92, x93, x94, x95, (f15 s), x14, t1, t2, (j 100), (j 101), (j 102), (j 103), (j 104), (j 105), (j 106), (j 107), (j 108), (j 109), (j 110), (j 111), (j 112), (j 113), x114, x115, x116, x117])) h) :
  lp (fun k1 => den Tryz.prog (sel (bodyOf Tryz.f5) [1, 1, 1, 1, 1, 1, 1, 1, 1, 1, 0, 1, 0, 0]) (thenD k1 (blk 2 (thenD (den Tryz.prog (sel (bodyOf Tryz.f5) [1, 1, 1, 1, 1, 1, 1, 1, 1, 1, 1]) (bodyQ Tryz.prog Tryz.f5.results.toList K E)) (bodyQ Tryz.prog Tryz.f5.results.toList K E))))) #[x0, x1, x2, x3, x4, x5, y6, x7, x8, x9, x10, x11, x12, x13, x14, v15, x16, x17, x18, x19, x20, x21, x22, x23, x24, x25, x26, x27, x28, x29, x30, x31, x32, x33, x34, x35, x36, x37, x38, x39, x40, x41, x42, x43, x44, x45, x46, x47, x48, x49, x50, x51, x52, x53, x54, x55, x56, x57, x58, x59, x60, x61, x62, x63, x64, x65, x66, x67, x68, x69, x70, x71, x72, x73, x74, x75, x76, x77, x78, x79, x80, x81, x82, x83, x84, x85, x86, x87, x88, x89, x90, x91, x92, x93, x94, x95, y96, y97, y98, y99, y100, y101, y102, y103, y104, y105, y106, y107, y108, y109, y110, y111, y112, y113, x114, x115, x116, x117] h := by
  subst e15
  have e : (#[x0, x1, x2, x3, x4, x5, y6, x7, x8, x9, x10, x11, x12, x13, x14, (f15 s0), x16, x17, x18, x19, x20, x21, x22, x23, x24, x25, x26, x27, x28, x29, x30, x31, x32, x33, x34, x35, x36, x37, x38, x39, x40, x41, x42, x43, x44, x45, x46, x47, x48, x49, x50, x51, x52, x53, x54, x55, x56, x57, x58, x59, x60, x61, x62, x63, x64, x65, x66, x67, x68, x69, x70, x71, x72, x73, x74, x75, x76, x77, x78, x79, x80, x81, x82, x83, x84, x85, x86, x87, x88, x89, x90, x91, x92, x93, x94, x95, y96, y97, y98, y99, y100, y101, y102, y103, y104, y105, y106, y107, y108, y109, y110, y111, y112, y113, x114, x115, x116, x117] : Env) = m5_1_1_1_1_1_1_1_1_1_1_0_1_0_0 x0 x1 x2 x3 x4 x5 x7 x8 x9 x10 x11 x12 x13 x14 x16 x17 x18 x19 x20 x21 x22 x23 x24 x25 x26 x27 x28 x29 x30 x31 x32 x33 x34 x35 x36 x37 x38 x39 x40 x41 x42 x43 x44 x45 x46 x47 x48 x49 x50 x51 x52 x53 x54 x55 x56 x57 x58 x59 x60 x61 x62 x63 x64 x65 x66 x67 x68 x69 x70 x71 x72 x73 x74 x75 x76 x77 x78 x79 x80 x81 x82 x83 x84 x85 x86 x87 x88 x89 x90 x91 x92 x93 x94 x95 x114 x115 x116 x117 (f15 s0) (jf #[x0, x1, x2, x3, x4, x5, y6, x7, x8, x9, x10, x11, x12, x13, x14, (f15 s0), x16, x17, x18, x19, x20, x21, x22, x23, x24, x25, x26, x27, x28, x29, x30, x31, x32, x33, x34, x35, x36, x37, x38, x39, x40, x41, x42, x43, x44, x45, x46, x47, x48, x49, x50, x51, x52, x53, x54, x55, x56, x57, x58, x59, x60, x61, x62, x63, x64, x65, x66, x67, x68, x69, x70, x71, x72, x73, x74, x75, x76, x77, x78, x79, x80, x81, x82, x83, x84, x85, x86, x87, x88, x89, x90, x91, x92, x93, x94, x95, y96, y97, y98, y99, y100, y101, y102, y103, y104, y105, y106, y107, y108, y109, y110, y111, y112, y113, x114, x115, x116, x117]) := by kernel_rfl
  rw [e]
  exact loop_r (fun s j => m5_1_1_1_1_1_1_1_1_1_1_0_1_0_0 x0 x1 x2 x3 x4 x5 x7 x8 x9 x10 x11 x12 x13 x14 x16 x17 x18 x19 x20 x21 x22 x23 x24 x25 x26 x27 x28 x29 x30 x31 x32 x33 x34 x35 x36 x37 x38 x39 x40 x41 x42 x43 x44 x45 x46 x47 x48 x49 x50 x51 x52 x53 x54 x55 x56 x57 x58 x59 x60 x61 x62 x63 x64 x65 x66 x67 x68 x69 x70 x71 x72 x73 x74 x75 x76 x77 x78 x79 x80 x81 x82 x83 x84 x85 x86 x87 x88 x89 x90 x91 x92 x93 x94 x95 x114 x115 x116 x117 (f15 s) j) I μ (fun k s j h hI hw next => by rw [t5_1_1_1_1_1_1_1_1_1_1_0_1_0_0]; exact round k s j h hI hw next) s0 (jf #[x0, x1, x2, x3, x4, x5, y6, x7, x8, x9, x10, x11, x12, x13, x14, (f15 s0), x16, x17, x18, x19, x20, x21, x22, x23, x24, x25, x26, x27, x28, x29, x30, x31, x32, x33, x34, x35, x36, x37, x38, x39, x40, x41, x42, x43, x44, x45, x46, x47, x48, x49, x50, x51, x52, x53, x54, x55, x56, x57, x58, x59, x60, x61, x62, x63, x64, x65, x66, x67, x68, x69, x70, x71, x72, x73, x74, x75, x76, x77, x78, x79, x80, x81, x82, x83, x84, x85, x86, x87, x88, x89, x90, x91, x92, x93, x94, x95, y96, y97, y98, y99, y100, y101, y102, y103, y104, y105, y106, y107, y108, y109, y110, y111, y112, y113, x114, x115, x116, x117]) h0

end Go.Proofs.YtgjdjdjhoipfmaaGreatDoor.T
open Go Go.RowKit Go.Proofs.YtgjdjdjhoipfmaaGreatDoor.K Go.Proofs.YtgjdjdjhoipfmaaGreatDoor.T
set_option linter.unusedVariables false
set_option linter.unusedSimpArgs false
namespace Go.Proofs.YtgjdjdjhoipfmaaGreatDoor.A
variable {F F' : Nat → Option (List Value)} {M M' : Nat → Option Chunk} {N N' : Nat} {K : Kont} {E : PanK}
theorem ic_set {s : List Int} {n : Nat} {x : Int} (h : n < s.length) : splice (ic s) (0 + n * 1) [Value.int .i64 x] = ic (s.set n x) := by
  rw [Nat.zero_add, Nat.mul_one, splice_one (by simp [ic]; omega)]
  simp [ic, List.map_set]
theorem addE_one {l : List Dm} {h : List En} {t : Int} {fs : List Fc} (hf : fitsF l fs = true) (hl : h.length < 5000) : addE l h t fs = if t = 0 ∨ there h t = true then 130 else 0 := by
  unfold addE
  rw [hf, if_neg (by decide), if_neg (by omega : ¬ h.length ≥ 5000)]
theorem withR_fs {h : List En} {t : Int} {fs : List Fc} (ht : there h t = false) (ha : ∀ e ∈ h, e.2 = fs) : ∀ e ∈ withR h t fs, e.2 = fs := by
  intro e he
  rw [← withH_eq, withH_new ht] at he
  unfold layE at he
  rcases List.mem_append.1 he with he | he
  · exact ha e (List.mem_of_mem_take he)
  · rcases List.mem_cons.1 he with rfl | he
    · rfl
    · exact ha e (List.mem_of_mem_drop he)
set_option maxRecDepth 10000 in
set_option maxHeartbeats 16000000 in
/-- CubeTimes -/
theorem cubeTimes_c {um ut uk : Value} {m : List (Int × List Int)} {ts : List Int} {ks : List (List Int)} (hm : cutsD F um m) (hml : m.length ≤ 140737488351232) (hmc : ∀ c ∈ m, (0 ≤ c.1 ∧ c.1 < 65536) ∧ ∀ x ∈ c.2, 0 ≤ x ∧ x < 256)
    (ht : sF F 1 ut ts.length (ick .u8 ts)) (htl : ts.length ≤ 140737488351232) (htc : ∀ x ∈ ts, 0 ≤ x ∧ x < 256)
    (hk : kksD .u16 F uk ks) (hkl : ks.length ≤ 140737488351232) (hkc : ∀ k ∈ ks, ∀ x ∈ k, 0 ≤ x ∧ x < 65536) (k : ∀ h, K (.bool true) h) :
    call Tryz.prog 5 #[um, ut, uk] K E ⟨F, M, N⟩ := by
  refine call_text mixed Tryz.func5 (by kernel_rfl) (t5 _ E _ _ _) (fun hw => ?_)
  have hm0 : clean M N := hw.m
  have kn : ∀ {M : Nat → Option Chunk} {F : Nat → Option (List Value)} {N : Nat}, callv Tryz.prog (.func (.func 11) #[] #[]) #[] (fun v h => h.wf → ∃ h', h.wk h' ∧ (h'.wf → K v h')) E ⟨F, M, N⟩ := known13_c (fun F' N' _ _ _ hc => ⟨_, wk_refl hc, fun _ => k _⟩)
  have hlt : lenV ut = some (.int .i64 (ts.length : Nat)) := by obtain ⟨a, c, e, _⟩ := ht.form; rw [e]; rfl
  have hlk : lenV uk = some (.int .i64 (ks.length : Nat)) := by obtain ⟨rows, h1, _⟩ := hk; obtain ⟨a, c, e, _⟩ := h1.form; rw [e]; rfl
  refine pv_r hlt ?_
  refine gtr_r (fun h1 => ?_) (fun h1 => ?_)
  · try simp only [gdTT, gdFF, gdTF, gdFT, pvS, pickT, pickF, faP, lenS, capS, nilP, exA, exB, exC, notB, cndT, cndF, Bool.not_true, Bool.not_false, Nat.zero_add, Nat.add_zero]; exact kn
  try simp only [gdTT, gdFF, gdTF, gdFT, pvS, pickT, pickF, faP, lenS, capS, nilP, exA, exB, exC, notB, cndT, cndF, Bool.not_true, Bool.not_false, Nat.zero_add, Nat.add_zero]
  refine pv_r hlk ?_
  refine gtr_r (fun h2 => ?_) (fun h2 => ?_)
  · try simp only [gdTT, gdFF, gdTF, gdFT, pvS, pickT, pickF, faP, lenS, capS, nilP, exA, exB, exC, notB, cndT, cndF, Bool.not_true, Bool.not_false, Nat.zero_add, Nat.add_zero]; exact kn
  try simp only [gdTT, gdFF, gdTF, gdFT, pvS, pickT, pickF, faP, lenS, capS, nilP, exA, exB, exC, notB, cndT, cndF, Bool.not_true, Bool.not_false, Nat.zero_add, Nat.add_zero]
  refine pv_r hlk ?_
  refine eql_r (fun h3 => ?_) (fun h3 => ?_)
  · try simp only [gdTT, gdFF, gdTF, gdFT, pvS, pickT, pickF, faP, lenS, capS, nilP, exA, exB, exC, notB, cndT, cndF, Bool.not_true, Bool.not_false, Nat.zero_add, Nat.add_zero]; exact kn
  try simp only [gdTT, gdFF, gdTF, gdFT, pvS, pickT, pickF, faP, lenS, capS, nilP, exA, exB, exC, notB, cndT, cndF, Bool.not_true, Bool.not_false, Nat.zero_add, Nat.add_zero]
  refine known13_c (fun F2 N2 hF2 hN2 hw2 => ?_)
  try simp only [gdTT, gdFF, gdTF, gdFT, pvS, pickT, pickF, faP, lenS, capS, nilP, exA, exB, exC, notB, cndT, cndF, Bool.not_true, Bool.not_false, Nat.zero_add, Nat.add_zero]
  have hgd := dimsOf_good m (fun c hc => (hmc c hc).1)
  have hok := dimsOf_ok (m := m) (fun c hc => (hmc c hc).1)
  refine dof_c (hm.mono hF2) hml hmc (fun udv F3 N3 hw3 hF3 hN3 hd => ?_)
  generalize dimsOf m = l at *
  have hl4 := hgd.2.1
  have hds := goodDims_sz hgd
  refine new_c hd (by omega) (fun h => absurd h (by rw [hok]; decide)) (fun _ g dv F4 M4 N4 hF4 hC hM4 hN4 hm4 hw4 => ?_)
  refine ptr_ne ?_
  try simp only [gdTT, gdFF, gdTF, gdFT, pvS, pickT, pickF, faP, lenS, capS, nilP, exA, exB, exC, notB, cndT, cndF, Bool.not_true, Bool.not_false, Nat.zero_add, Nat.add_zero]
  have F24 := hF3.trans hF4
  refine facts_c (c := []) (hd.mono hF4) ((hk.mono hF2).mono F24) (sF.nil _ _ _) (by omega) hds hkc hkl (by simp) (fun fv F5 N5 hw5 hF5 hN5 hf => ?_)
  have hfit := facts_fit hgd ks []
  have hfl := factsOf_len l ks []
  have hfn : factsOf l ks [] ≠ [] := fun e => by rw [e] at hfl; simp at hfl; omega
  generalize factsOf l ks [] = fs at *
  refine mkz_r (n := 256) (by omega) (fun b0 hb0 => ?_)
  obtain ⟨M6, hM6⟩ : ∃ M6, M6 = upd M4 b0 (some (.cells 3 (ic (zeros 256)) 256)) := ⟨_, rfl⟩
  rw [← hM6]
  obtain ⟨z, hz⟩ : ∃ z, z = zeros 256 := ⟨_, rfl⟩
  rw [← hz] at hM6
  have hs0 : seenD z [] := seenD.nil hz rfl
  have hb6 : M6 b0 = some (.cells 3 (ic z) 256) := by rw [hM6]; exact upd_same _ _ _
  have hm5 : clean M4 N5 := hw5.m
  have hm6 : clean M6 (b0 + 1) := by rw [hM6]; exact hm5.new hb0 _
  have hC6 : isCube F5 M6 N3 g (.slice none 0 0) dv [] l [] := hC.keep hF5 (fun q hq => by rw [hM6]; exact upd_ne _ _ (by have := (hC.lt hm4 q hq).2; omega))
  have hgN := (hC.lt hm4 g (.inl rfl)).2
  clear hM6 hz
  obtain ⟨N6, hN6⟩ : ∃ n, n = b0 + 1 := ⟨_, rfl⟩
  rw [← hN6] at hm6 ⊢
  have F05 := hF2.trans (F24.trans hF5)
  refine l5_1_1_1_1_1_1_1_1_0_1_0_0 (σ := Nat × Nat) (fun s => .int .i64 (s.1 : Nat)) (fun s => .int .i64 (s.2 : Nat))
    (fun s h' => ∃ F' M' N' hv rows h z, h' = ⟨F', M', N'⟩ ∧ subF F5 F' ∧ N6 ≤ N' ∧ clean M' N' ∧ s.2 ≤ ts.length ∧ h.length ≤ s.2 ∧ s.1 = h.length ∧ isCube F' M' N3 g hv dv rows l h ∧ okH l 5000 200 h ∧ (∀ e ∈ h, e.2 = fs) ∧ seenD z h ∧ M' b0 = some (.cells 3 (ic z) 256) ∧ hv.ownBlock ≠ some b0) (fun s => ts.length - s.2) (0, 0) rfl rfl
    (fun hw6 => ⟨_, wk_refl hw6, F5, M6, N6, .slice none 0 0, [], [], z, rfl, subF.refl _, Nat.le_refl _, hm6, Nat.zero_le _, Nat.le_refl _, rfl, hC6, okH.nil _ _ _, fun e he => by simp at he, hs0, hb6, by simp [Value.ownBlock]⟩) (fun kk s j h1' hI hw6 next => ?_)
  obtain ⟨F7, M7, N7, hv, rows, h, z, rfl, hF7, hN7, hm7, hi, hle, hla, hC7, o7, hall, hsd, hb7, hvb⟩ := hI
  refine pv_r hlt ?_
  refine lss_r (fun hlt' => ?_) (fun hge => ?_)
  · have i1 : s.2 < ts.length := by omega
    try simp only [gdTT, gdFF, gdTF, gdFT, pvS, pickT, pickF, faP, lenS, capS, nilP, exA, exB, exC, notB, cndT, cndF, Bool.not_true, Bool.not_false, Nat.zero_add, Nat.add_zero]
    have hτ := htc ts[s.2] (List.getElem_mem i1)
    have hlen5 : h.length < 5000 := by omega
    have hE := addE_one (t := ts[s.2]) hfit hlen5
    refine ixk_r ((ht.mono F05).mono hF7) i1 (fun p4 => ?_)
    try simp only [gdTT, gdFF, gdTF, gdFT, pvS, pickT, pickF, faP, lenS, capS, nilP, exA, exB, exC, notB, cndT, cndF, Bool.not_true, Bool.not_false, Nat.zero_add, Nat.add_zero]
    refine u32_cv (by omega) (by omega) ?_
    refine add_to_c hC7 (by omega) (by omega) (by omega) (by omega) (hf.mono hF7) (by omega) (fun hv8 F8 M8 N8 rows8 hF8 hC8 hM8 hN8 hm8 hw8 => ?_)
    have hb08 : b0 < N7 := hm7.lt hb7
    obtain ⟨y1, y2⟩ := hM8 b0 hvb (by omega) hb08
    have hb8 := y1.trans hb7
    have ht8 := ((ht.mono F05).mono hF7).mono hF8
    have o8 := o7.add (t := ts[s.2]) (by omega) fs
    obtain ⟨τ, hτn⟩ : ∃ τ : Nat, ts[s.2] = (τ : Nat) := ⟨ts[s.2].toNat, by omega⟩
    have hτl : τ < z.length := by have := hsd.1; omega
    have hz := hsd.2 τ hτl
    have hτ2 : τ < 256 := by omega
    by_cases c0 : ts[s.2] = 0 ∨ there h ts[s.2] = true
    · rw [if_pos c0] at hE
      have hH : addH l h ts[s.2] fs = h := by unfold addH; rw [hE]; rfl
      rw [hH] at hC8 o8
      rw [hE]
      refine eql_f (by decide) ?_
      try simp only [gdTT, gdFF, gdTF, gdFT, pvS, pickT, pickF, faP, lenS, capS, nilP, exA, exB, exC, notB, cndT, cndF, Bool.not_true, Bool.not_false, Nat.zero_add, Nat.add_zero]
      refine ixk_r ht8 i1 (fun p8 => ?_)
      have nx := fun j' => next (s.1, s.2 + 1) j' _ (by simp only; omega) (fun hw9 => ⟨_, wk_refl hw9, F8, M8, N8, hv8, rows8, h, z, rfl, hF7.trans hF8, by omega, hm8, i1, by simp only; omega, hla, hC8, o8, hall, hsd, hb8, y2⟩)
      refine gtr_r (fun hh => ?_) (fun hh => ?_)
      · have c1 : there h ts[s.2] = true := c0.resolve_left (by omega)
        rw [hτn] at c1
        rw [c1] at hz
        try simp only [gdTT, gdFF, gdTF, gdFT, pvS, pickT, pickF, faP, lenS, capS, nilP, exA, exB, exC, notB, cndT, cndF, Bool.not_true, Bool.not_false, Nat.zero_add, Nat.add_zero]
        refine ixk_r ht8 i1 (fun p9 => ?_)
        rw [hτn]
        refine iaN_r hτ2 ?_
        refine ldM (v := .int .i64 1) ?_ hb8 (by rw [Nat.zero_add, Nat.mul_one]; simp [ic, List.getElem?_eq_getElem hτl, hz])
        refine eql_f (by decide) ?_
        try simp only [gdTT, gdFF, gdTF, gdFT, pvS, pickT, pickF, faP, lenS, capS, nilP, exA, exB, exC, notB, cndT, cndF, Bool.not_true, Bool.not_false, Nat.zero_add, Nat.add_zero]
        refine pv_r (v := .bool false) rfl ?_
        try simp only [gdTT, gdFF, gdTF, gdFT, pvS, pickT, pickF, faP, lenS, capS, nilP, exA, exB, exC, notB, cndT, cndF, Bool.not_true, Bool.not_false, Nat.zero_add, Nat.add_zero]
        refine neq_t (by decide) ?_
        try simp only [gdTT, gdFF, gdTF, gdFT, pvS, pickT, pickF, faP, lenS, capS, nilP, exA, exB, exC, notB, cndT, cndF, Bool.not_true, Bool.not_false, Nat.zero_add, Nat.add_zero]
        refine neq_f rfl ?_
        try simp only [gdTT, gdFF, gdTF, gdFT, pvS, pickT, pickF, faP, lenS, capS, nilP, exA, exB, exC, notB, cndT, cndF, Bool.not_true, Bool.not_false, Nat.zero_add, Nat.add_zero]
        refine eql_f (by decide) ?_
        try simp only [gdTT, gdFF, gdTF, gdFT, pvS, pickT, pickF, faP, lenS, capS, nilP, exA, exB, exC, notB, cndT, cndF, Bool.not_true, Bool.not_false, Nat.zero_add, Nat.add_zero]
        rw [t5_1_1_1_1_1_1_1_1_0_1_0_0_1_1]
        refine inc_r (by omega) ?_
        exact nx _
      · try simp only [gdTT, gdFF, gdTF, gdFT, pvS, pickT, pickF, faP, lenS, capS, nilP, exA, exB, exC, notB, cndT, cndF, Bool.not_true, Bool.not_false, Nat.zero_add, Nat.add_zero]
        refine pv_r (v := .bool false) rfl ?_
        try simp only [gdTT, gdFF, gdTF, gdFT, pvS, pickT, pickF, faP, lenS, capS, nilP, exA, exB, exC, notB, cndT, cndF, Bool.not_true, Bool.not_false, Nat.zero_add, Nat.add_zero]
        refine neq_t (by decide) ?_
        try simp only [gdTT, gdFF, gdTF, gdFT, pvS, pickT, pickF, faP, lenS, capS, nilP, exA, exB, exC, notB, cndT, cndF, Bool.not_true, Bool.not_false, Nat.zero_add, Nat.add_zero]
        refine neq_f rfl ?_
        try simp only [gdTT, gdFF, gdTF, gdFT, pvS, pickT, pickF, faP, lenS, capS, nilP, exA, exB, exC, notB, cndT, cndF, Bool.not_true, Bool.not_false, Nat.zero_add, Nat.add_zero]
        refine eql_f (by decide) ?_
        try simp only [gdTT, gdFF, gdTF, gdFT, pvS, pickT, pickF, faP, lenS, capS, nilP, exA, exB, exC, notB, cndT, cndF, Bool.not_true, Bool.not_false, Nat.zero_add, Nat.add_zero]
        rw [t5_1_1_1_1_1_1_1_1_0_1_0_0_1_1]
        refine inc_r (by omega) ?_
        exact nx _
    · rw [if_neg c0] at hE
      have c1 : there h ts[s.2] = false := by simpa using fun q => c0 (.inr q)
      have c1' := c1
      have c2 : 0 < ts[s.2] := by have : ¬ ts[s.2] = 0 := fun q => c0 (.inl q); omega
      rw [addH_eq hE] at hC8 o8
      have hnl := withR_newl (fs := fs) c1
      have hsd8 := seenD.add (t := τ) (fs := fs) hsd o7.rs
      rw [← hτn] at hsd8
      rw [hτn] at c1
      rw [c1] at hz
      rw [hE]
      refine eql_t rfl ?_
      try simp only [gdTT, gdFF, gdTF, gdFT, pvS, pickT, pickF, faP, lenS, capS, nilP, exA, exB, exC, notB, cndT, cndF, Bool.not_true, Bool.not_false, Nat.zero_add, Nat.add_zero]
      refine ixk_r ht8 i1 (fun p8 => ?_)
      refine gtr_t c2 ?_
      try simp only [gdTT, gdFF, gdTF, gdFT, pvS, pickT, pickF, faP, lenS, capS, nilP, exA, exB, exC, notB, cndT, cndF, Bool.not_true, Bool.not_false, Nat.zero_add, Nat.add_zero]
      refine ixk_r ht8 i1 (fun p9 => ?_)
      rw [hτn]
      refine iaN_r hτ2 ?_
      refine ldM (v := .int .i64 0) ?_ hb8 (by rw [Nat.zero_add, Nat.mul_one]; simp [ic, List.getElem?_eq_getElem hτl, hz])
      refine eql_t rfl ?_
      try simp only [gdTT, gdFF, gdTF, gdFT, pvS, pickT, pickF, faP, lenS, capS, nilP, exA, exB, exC, notB, cndT, cndF, Bool.not_true, Bool.not_false, Nat.zero_add, Nat.add_zero]
      refine pv_r (v := .bool false) rfl ?_
      try simp only [gdTT, gdFF, gdTF, gdFT, pvS, pickT, pickF, faP, lenS, capS, nilP, exA, exB, exC, notB, cndT, cndF, Bool.not_true, Bool.not_false, Nat.zero_add, Nat.add_zero]
      refine neq_f rfl ?_
      try simp only [gdTT, gdFF, gdTF, gdFT, pvS, pickT, pickF, faP, lenS, capS, nilP, exA, exB, exC, notB, cndT, cndF, Bool.not_true, Bool.not_false, Nat.zero_add, Nat.add_zero]
      refine eql_t rfl ?_
      try simp only [gdTT, gdFF, gdTF, gdFT, pvS, pickT, pickF, faP, lenS, capS, nilP, exA, exB, exC, notB, cndT, cndF, Bool.not_true, Bool.not_false, Nat.zero_add, Nat.add_zero]
      refine ixk_r ht8 i1 (fun p10 => ?_)
      rw [hτn]
      refine iaN_r hτ2 ?_
      refine stM (cs' := ic (z.set τ 1)) ?_ hb8 (ic_set hτl) rfl (List.all_eq_true.1 rfl) (by simp [ic]; omega)
      refine inc_r (by omega) ?_
      rw [t5_1_1_1_1_1_1_1_1_0_1_0_0_1_1]
      refine inc_r (by omega) ?_
      refine next (s.1 + 1, s.2 + 1) _ _ (by simp only; omega) (fun hw9 => ⟨_, wk_refl hw9, F8, _, N8, hv8, rows8, withR h ts[s.2] fs, z.set τ 1, rfl, hF7.trans hF8, by omega, hm8.set (hm8.lt hb8) _, i1, by simp only; omega, by simp only; omega, ?_, o8, ?_, hsd8, upd_same _ _ _, y2⟩)
      · exact hC8.keep (subF.refl _) (fun q hq => upd_ne _ _ (fun e => by
          subst e
          rcases hq with hq | hq
          · omega
          · exact y2 hq))
      · exact withR_fs c1' hall
  · try simp only [gdTT, gdFF, gdTF, gdFT, pvS, pickT, pickF, faP, lenS, capS, nilP, exA, exB, exC, notB, cndT, cndF, Bool.not_true, Bool.not_false, Nat.zero_add, Nat.add_zero]
    rw [t5_1_1_1_1_1_1_1_1_1]
    refine centries_c (a := 0) (b := 10000) hC7 o7 (by omega) (fun v9 F9 N9 hw9 hF9 hN9 he9 => ?_)
    rw [entF_all (fun e he => ⟨by rw [hall e he]; exact hfn, fun f hf => inR_all hgd (o7.fi e he f hf)⟩)] at he9
    have hl9 : lenV v9 = some (.int .i64 (h.length : Nat)) := by obtain ⟨a, c, e⟩ := he9.form; rw [e]; rfl
    obtain ⟨rows9, he1, he2⟩ := he9
    refine l5_1_1_1_1_1_1_1_1_1_1_0_1_0_0 (σ := Nat) (fun i => .int .i64 (i : Nat)) (fun i h' => h' = ⟨F9, M7, N9⟩ ∧ 1 ≤ i) (fun i => h.length - i) 1 rfl
      (fun hw10 => ⟨_, wk_refl hw10, rfl, Nat.le_refl _⟩) (fun k9 i j9 h9 hI9 hw10 next9 => ?_)
    obtain ⟨rfl, hi1⟩ := hI9
    refine pv_r hl9 ?_
    refine lss_r (fun hlt9 => ?_) (fun hge9 => ?_)
    · have i1 : i < h.length := by omega
      have i2 : i - 1 < h.length := by omega
      try simp only [gdTT, gdFF, gdTF, gdFT, pvS, pickT, pickF, faP, lenS, capS, nilP, exA, exB, exC, notB, cndT, cndF, Bool.not_true, Bool.not_false, Nat.zero_add, Nat.add_zero]
      refine fld_r he1 he2 (by decide) i1 (off := 0) (by decide) fun p q r x hR _ hx => ?_
      obtain ⟨u, rfl, _, _⟩ := hR
      simp only [List.getElem?_cons_zero, Option.some.injEq] at hx
      subst hx
      refine sub_n (a := i) (b := 1) (by omega) (by omega) ?_
      refine fld_r he1 he2 (by decide) i2 (off := 0) (by decide) fun p q r x hR _ hx => ?_
      obtain ⟨u, rfl, _, _⟩ := hR
      simp only [List.getElem?_cons_zero, Option.some.injEq] at hx
      subst hx
      have hlt2 := List.pairwise_iff_getElem.1 o7.rs (i - 1) i i2 i1 (by omega)
      refine leq_f (by omega) ?_
      try simp only [gdTT, gdFF, gdTF, gdFT, pvS, pickT, pickF, faP, lenS, capS, nilP, exA, exB, exC, notB, cndT, cndF, Bool.not_true, Bool.not_false, Nat.zero_add, Nat.add_zero]
      refine inc_r (by omega) ?_
      exact next9 (i + 1) _ _ (by omega) (fun hw11 => ⟨_, wk_refl hw11, rfl, by omega⟩)
    · try simp only [gdTT, gdFF, gdTF, gdFT, pvS, pickT, pickF, faP, lenS, capS, nilP, exA, exB, exC, notB, cndT, cndF, Bool.not_true, Bool.not_false, Nat.zero_add, Nat.add_zero]
      rw [t5_1_1_1_1_1_1_1_1_1_1_1]
      refine pv_r hl9 ?_
      refine eql_t (by omega) ?_
      exact fun hc => ⟨_, wk_refl hc, fun _ => k _⟩
end Go.Proofs.YtgjdjdjhoipfmaaGreatDoor.A
open Go Go.RowKit Go.Proofs.YtgjdjdjhoipfmaaGreatDoor.K Go.Proofs.YtgjdjdjhoipfmaaGreatDoor.T
set_option linter.unusedVariables false
set_option linter.unusedSimpArgs false
namespace Go.Proofs.YtgjdjdjhoipfmaaGreatDoor.A
variable {F F' : Nat → Option (List Value)} {M M' : Nat → Option Chunk} {N N' : Nat} {K : Kont} {E : PanK}
theorem own.cell {B : Nat} {e : TypeId} {sz n : Nat} {v : Value} {cs : List Value} (h : own M B e sz v n cs) : ∀ q, v.ownBlock = some q → ∃ cs tot, M q = some (.cells e cs tot) := fun q hq => by
  rcases h.2 with ⟨rfl, _⟩ | ⟨b, c, rest, rfl, _, _, _, h4⟩
  · simp [Value.ownBlock] at hq
  · simp [Value.ownBlock] at hq
    subst hq
    exact ⟨_, _, h4⟩
/-- A fact whose key is one's own. -/
def ofct (M : Nat → Option Chunk) (B : Nat) (cs : List Value) (f : Fc) : Prop := ∃ v, cs = [v, .int .i64 f.2] ∧ own M B 3 1 v f.1.length (ic f.1) ∧ f.1.length ≤ 140737488351232
theorem ofct.one {B : Nat} {cs : List Value} {f : Fc} (h : ofct M B cs f) : cs.length = 2 ∧ ∀ c ∈ cs, c.oneCell' = true := by
  obtain ⟨v, rfl, hv, _⟩ := h
  obtain ⟨a, c, rfl, _⟩ := hv.form
  exact ⟨rfl, List.all_eq_true.1 rfl⟩
/-- Facts of one's own, keys and all. -/
def ofcts (M : Nat → Option Chunk) (B : Nat) (v : Value) (l : List Fc) : Prop := ∃ rows, own M B 48 2 v l.length rows.flatten ∧ rowsF (ofct M B) 2 rows l
theorem ofcts.form {B : Nat} {v : Value} {l : List Fc} (h : ofcts M B v l) : ∃ a c, v = .slice a l.length c := let ⟨_, h1, _⟩ := h; let ⟨a, c, e, _⟩ := h1.form; ⟨a, c, e⟩
end Go.Proofs.YtgjdjdjhoipfmaaGreatDoor.A
open Go Go.RowKit Go.Proofs.YtgjdjdjhoipfmaaGreatDoor.K Go.Proofs.YtgjdjdjhoipfmaaGreatDoor.T
set_option linter.unusedVariables false
set_option linter.unusedSimpArgs false
namespace Go.Proofs.YtgjdjdjhoipfmaaGreatDoor.A
variable {F F' : Nat → Option (List Value)} {M M' : Nat → Option Chunk} {N N' : Nat} {K : Kont} {E : PanK}
end Go.Proofs.YtgjdjdjhoipfmaaGreatDoor.A
open Go Go.RowKit Go.Proofs.YtgjdjdjhoipfmaaGreatDoor.K Go.Proofs.YtgjdjdjhoipfmaaGreatDoor.T
set_option linter.unusedVariables false
set_option linter.unusedSimpArgs false
namespace Go.Proofs.YtgjdjdjhoipfmaaGreatDoor.A
variable {F F' : Nat → Option (List Value)} {M M' : Nat → Option Chunk} {N N' : Nat} {K : Kont} {E : PanK}
/-- An entry of one's own, keys and all. -/
def oent (M : Nat → Option Chunk) (B : Nat) (cs : List Value) (e : En) : Prop := ∃ v, cs = [.int .u32 e.1, v] ∧ ofcts M B v e.2
theorem oent.one {B : Nat} {cs : List Value} {e : En} (h : oent M B cs e) : cs.length = 2 ∧ ∀ c ∈ cs, c.oneCell' = true := by
  obtain ⟨v, rfl, hv⟩ := h
  obtain ⟨a, c, rfl⟩ := hv.form
  exact ⟨rfl, List.all_eq_true.1 rfl⟩
end Go.Proofs.YtgjdjdjhoipfmaaGreatDoor.A
open Go Go.RowKit Go.Proofs.YtgjdjdjhoipfmaaGreatDoor.K
set_option linter.unusedVariables false
set_option maxRecDepth 100000
namespace Go.Proofs.YtgjdjdjhoipfmaaGreatDoor.T
end Go.Proofs.YtgjdjdjhoipfmaaGreatDoor.T
open Go Go.RowKit Go.Proofs.YtgjdjdjhoipfmaaGreatDoor.K Go.Proofs.YtgjdjdjhoipfmaaGreatDoor.T
set_option linter.unusedVariables false
set_option linter.unusedSimpArgs false
namespace Go.Proofs.YtgjdjdjhoipfmaaGreatDoor.A
variable {F F' : Nat → Option (List Value)} {M M' : Nat → Option Chunk} {N N' : Nat} {K : Kont} {E : PanK}
/-- A key that one may turn. -/
def wkey (M : Nat → Option Chunk) (v : Value) : Prop := ∃ b n c cs tot, v = .slice (some ⟨b, 0, none⟩) (n + 1) c ∧ M b = some (.cells 3 cs tot) ∧ 1 ≤ cs.length
def wfct (M : Nat → Option Chunk) (cs : List Value) (_ : Fc) : Prop := ∃ v x, cs = [v, .int .i64 x] ∧ wkey M v
/-- Numbers alone are turned. -/
structure tw (M M' : Nat → Option Chunk) : Prop where
  i : ∀ b cs tot, M b = some (.cells 3 cs tot) → ∃ cs', M' b = some (.cells 3 cs' tot) ∧ cs'.length = cs.length
  o : ∀ b, (∀ cs tot, M b ≠ some (.cells 3 cs tot)) → M' b = M b
theorem wkey.tw {v : Value} (h : wkey M v) (t : tw M M') : wkey M' v := by
  obtain ⟨b, n, c, cs, tot, e, h1, h2⟩ := h
  obtain ⟨cs', h3, h4⟩ := t.i b cs tot h1
  exact ⟨b, n, c, cs', tot, e, h3, by omega⟩
theorem wfct.tw {cs : List Value} {f : Fc} (h : wfct M cs f) (t : tw M M') : wfct M' cs f := let ⟨v, x, e, h1⟩ := h; ⟨v, x, e, h1.tw t⟩
theorem wfct.one {cs : List Value} {f : Fc} (h : wfct M cs f) : cs.length = 2 ∧ ∀ c ∈ cs, c.oneCell' = true := by
  obtain ⟨v, x, rfl, b, n, c, cs, tot, rfl, _⟩ := h
  exact ⟨rfl, List.all_eq_true.1 rfl⟩
theorem ofct.w {B : Nat} {cs : List Value} {f : Fc} (h : ofct M B cs f) (h1 : 0 < f.1.length) : wfct M cs f := by
  obtain ⟨v, rfl, hv, _⟩ := h
  rcases hv.2 with ⟨_, h0⟩ | ⟨b, c, rest, rfl, g1, g2, g3, g4⟩
  · omega
  · exact ⟨_, _, rfl, b, f.1.length - 1, c, _, _, by rw [Nat.sub_add_cancel h1], g4, by rw [List.length_append]; simp [ic]; omega⟩
/-- Nothing but numbers and facts is turned. -/
def fo (M M' : Nat → Option Chunk) : Prop := ∀ b, (∀ cs tot, M b ≠ some (.cells 3 cs tot) ∧ M b ≠ some (.cells 48 cs tot)) → M' b = M b
theorem fo.refl : fo M M := fun _ _ => rfl
theorem fo.trans {M'' : Nat → Option Chunk} (h : fo M M') (k : fo M' M'') : fo M M'' := fun b hb => by
  have h1 := h b hb
  exact (k b (fun cs tot => by rw [h1]; exact hb cs tot)).trans h1
theorem tw.fo (t : tw M M') : fo M M' := fun b hb => t.o b (fun cs tot => (hb cs tot).1)
theorem isCube.fo {B g : Nat} {hv dv : Value} {rows : List (List Value)} {l : List Dm} {h : List En} (hC : isCube F M B g hv dv rows l h) (ho : fo M M') : isCube F M' B g hv dv rows l h :=
  hC.keep (subF.refl _) (fun q hq => ho q (fun cs tot => by
    rcases hq with rfl | hq
    · rw [hC.gg]; exact ⟨(by intro e; cases e), (by intro e; cases e)⟩
    · obtain ⟨cs2, tot2, h2⟩ := hC.oo.cell q hq
      rw [h2]; exact ⟨(by intro e; cases e), (by intro e; cases e)⟩))
end Go.Proofs.YtgjdjdjhoipfmaaGreatDoor.A
open Go Go.RowKit Go.Proofs.YtgjdjdjhoipfmaaGreatDoor.K Go.Proofs.YtgjdjdjhoipfmaaGreatDoor.T
set_option linter.unusedVariables false
set_option linter.unusedSimpArgs false
namespace Go.Proofs.YtgjdjdjhoipfmaaGreatDoor.A
variable {F F' : Nat → Option (List Value)} {M M' : Nat → Option Chunk} {N N' : Nat} {K : Kont} {E : PanK}
theorem CubeTimes_true (v0 v1 v2 : Value) {y0 : List (Int × List Int)} {y1 : List Int} {y2 : List (List Int)} (W : World) (h0 : rS 2 rCut (F0 W) [v0] y0) (h1 : rS 1 (rI .u8) (F0 W) [v1] y1) (h2 : rS 1 (rS 1 (rI .u16)) (F0 W) [v2] y2) :
    Calls Tryz.prog 5 #[v0, v1, v2] W fun e w' => e = .returned (.bool true) ∧ Below W.heap.size W w' :=
  have b := cuts_of h0
  have c := list_of h1
  have d := lists_of h2
  fin_true (cubeTimes_c b.1 b.2.1 b.2.2 c.1 c.2.2 (fun x hx => wf_u8 (c.2.1 x hx)) d.1 d.2.1 (fun k hk x hx => wf_u16 (d.2.2 k hk x hx)) fun _ => rfl)
end Go.Proofs.YtgjdjdjhoipfmaaGreatDoor.A
