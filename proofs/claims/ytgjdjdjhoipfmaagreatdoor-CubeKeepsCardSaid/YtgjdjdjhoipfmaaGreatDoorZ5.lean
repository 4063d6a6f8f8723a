import Derived.Test.YtgjdjdjhoipfmaaGreatDoorZ4
import Derived.Test.YtgjdjdjhoipfmaaGreatDoorProg
import Derived.Test.YtgjdjdjhoipfmaaGreatDoorZ1
set_option maxHeartbeats 4000000
open Go Go.RowKit Go.Proofs.YtgjdjdjhoipfmaaGreatDoor.K Go.Proofs.YtgjdjdjhoipfmaaGreatDoor.T
set_option linter.unusedVariables false
set_option linter.unusedSimpArgs false
namespace Go.Proofs.YtgjdjdjhoipfmaaGreatDoor.A
variable {F F' : Nat → Option (List Value)} {M M' : Nat → Option Chunk} {N N' : Nat} {K : Kont} {E : PanK}
theorem runT_len (l : List Dm) (t : List Rw) (m lo hi : List Int) : (runT l t m lo hi).length ≤ t.length := by
  have h1 := rollT_len l (cutF lo hi t) (zeros l.length) m
  have h2 := cutF_len lo hi t
  unfold runT
  split
  · unfold runRows; omega
  · simp
theorem keyOf_in {l : List Dm} (hs : ∀ d ∈ l, 0 < d.1 ∧ d.1 ≤ 1000000) (c : List Int) : inF l (keyOf l c) = true := by
  have hkl := keyOf_len l c
  unfold inF
  rw [decide_eq_true hkl, Bool.true_and, List.all_eq_true]
  intro i hi
  have hi' : i < l.length := List.mem_range.1 hi
  have := keyOf_at (c := c) hs (by omega : i < (keyOf l c).length) hi'
  unfold inP
  rw [getD_at (by omega : i < (keyOf l c).length), getD_at hi']
  exact decide_eq_true this
theorem goodDims_sz {l : List Dm} (h : goodDims l) : ∀ d ∈ l, 0 < d.1 ∧ d.1 ≤ 1000000 := fun d hd => by have := h.2.2 d hd; omega
theorem facts_fit {l : List Dm} (hl : goodDims l) (ks : List (List Int)) (v : List Int) : fitsF l (factsOf l ks v) = true := by
  refine of_fitsF (by rw [factsOf_len]; omega) fun f hf => ?_
  obtain ⟨c, hc⟩ := (factsOf_mem hf).1
  rw [hc]; exact keyOf_in (goodDims_sz hl) c
theorem u32w {x : Int} (h0 : 0 ≤ x) (h1 : x < 4294967296) : IntKind.u32.wrap x = x := by
  unfold IntKind.wrap
  simp [IntKind.bits, IntKind.signed]
  omega
theorem u32_cv {k : IntKind} {x : Int} {h : Hp} (h0 : 0 ≤ x) (h1 : x < 4294967296) (kk : K (.int .u32 x) h) : pv (cvV .u32 (.int k x)) K h := ⟨_, rfl, by rw [u32w h0 h1]; exact kk⟩
theorem u32_add {e : EqK} {a b : Int} {h : Hp} (h0 : 0 ≤ a + b) (h1 : a + b < 4294967296) (kk : K (.int .u32 (a + b)) h) : pv (binV e .add (.int .u32 a) (.int .u32 b)) K h := ⟨_, by rw [inV]; rfl, by rw [u32w h0 h1]; exact kk⟩
theorem u32_sub {e : EqK} {a b : Int} {h : Hp} (h0 : 0 ≤ a - b) (h1 : a - b < 4294967296) (kk : K (.int .u32 (a - b)) h) : pv (binV e .sub (.int .u32 a) (.int .u32 b)) K h := ⟨_, by rw [inV]; rfl, by rw [u32w h0 h1]; exact kk⟩
theorem ptr_ne {b : Nat} {h : Hp} (k : K (.bool false) h) : pv (binV .ptr .eql (.pointer (some ⟨b, 0, none⟩)) (.pointer none)) K h := ⟨_, rfl, k⟩
theorem facts_keys {l : List Dm} (hl : goodDims l) {ks : List (List Int)} {v : List Int} {t : Int} : ∀ e ∈ [(t, factsOf l ks v)], ∀ f ∈ e.2, okK f.1 := fun e he f hf => by
  rw [List.mem_singleton.1 he] at hf
  exact facts_okK hl f hf
set_option maxRecDepth 10000 in
set_option maxHeartbeats 4000000 in
/-- CubeKeeps -/
theorem cubeKeeps_c {um uk uk2 uv uc ua ub : Value} {at' : Int} {m : List (Int × List Int)} {ks ks2 : List (List Int)} {v c a b : List Int} (hm : cutsD F um m) (hml : m.length ≤ 140737488351232) (hmc : ∀ c ∈ m, (0 ≤ c.1 ∧ c.1 < 65536) ∧ ∀ x ∈ c.2, 0 ≤ x ∧ x < 256)
    (hk : kksD .u16 F uk ks) (hkl : ks.length ≤ 140737488351232) (hkc : ∀ k ∈ ks, ∀ x ∈ k, 0 ≤ x ∧ x < 65536) (hk2 : kksD .u16 F uk2 ks2) (hkl2 : ks2.length ≤ 140737488351232) (hkc2 : ∀ k ∈ ks2, ∀ x ∈ k, 0 ≤ x ∧ x < 65536) (hv : sF F 1 uv v.length (ic v)) (hvl : v.length ≤ 140737488351232) (hvc : ∀ x ∈ v, i64 x)
    (hc : sF F 1 uc c.length (ick .u8 c)) (hcl : c.length ≤ 140737488351232) (hcc : ∀ x ∈ c, 0 ≤ x ∧ x < 256)
    (ha : sF F 1 ua a.length (ick .u16 a)) (hal : a.length ≤ 140737488351232) (hac : ∀ x ∈ a, 0 ≤ x ∧ x < 65536)
    (hb : sF F 1 ub b.length (ick .u16 b)) (hbl : b.length ≤ 140737488351232) (hbc : ∀ x ∈ b, 0 ≤ x ∧ x < 65536) (hat : 0 ≤ at' ∧ at' < 65536) (k : ∀ h, K (.bool true) h) :
    call Tryz.prog 3 #[um, uk, uk2, uv, uc, ua, ub, .int .u16 at'] K E ⟨F, M, N⟩ := by
  refine call_text mixed Tryz.func3 (by kernel_rfl) (t3 _ E _ _ _ _ _ _ _ _) (fun hw => ?_)
  have kn : ∀ {M : Nat → Option Chunk} {F : Nat → Option (List Value)} {N : Nat}, callv Tryz.prog (.func (.func 11) #[] #[]) #[] (fun v h => h.wf → ∃ h', h.wk h' ∧ (h'.wf → K v h')) E ⟨F, M, N⟩ := known13_c (fun F' N' _ _ _ hc => ⟨_, wk_refl hc, fun _ => k _⟩)
  have hlk : lenV uk = some (.int .i64 (ks.length : Nat)) := by obtain ⟨rows, h1, _⟩ := hk; obtain ⟨a, c, e, _⟩ := h1.form; rw [e]; rfl
  have hlk2 : lenV uk2 = some (.int .i64 (ks2.length : Nat)) := by obtain ⟨rows, h1, _⟩ := hk2; obtain ⟨a, c, e, _⟩ := h1.form; rw [e]; rfl
  refine pv_r hlk ?_
  refine gtr_r (fun h1 => ?_) (fun h1 => ?_)
  · try simp only [gdTT, gdFF, gdTF, gdFT, pvS, pickT, pickF, faP, lenS, capS, nilP, exA, exB, exC, notB, cndT, cndF, Bool.not_true, Bool.not_false, Nat.zero_add, Nat.add_zero]; exact kn
  try simp only [gdTT, gdFF, gdTF, gdFT, pvS, pickT, pickF, faP, lenS, capS, nilP, exA, exB, exC, notB, cndT, cndF, Bool.not_true, Bool.not_false, Nat.zero_add, Nat.add_zero]
  refine pv_r hlk2 ?_
  refine gtr_r (fun h2 => ?_) (fun h2 => ?_)
  · try simp only [gdTT, gdFF, gdTF, gdFT, pvS, pickT, pickF, faP, lenS, capS, nilP, exA, exB, exC, notB, cndT, cndF, Bool.not_true, Bool.not_false, Nat.zero_add, Nat.add_zero]; exact kn
  try simp only [gdTT, gdFF, gdTF, gdFT, pvS, pickT, pickF, faP, lenS, capS, nilP, exA, exB, exC, notB, cndT, cndF, Bool.not_true, Bool.not_false, Nat.zero_add, Nat.add_zero]
  refine known13_c (fun F1 N1 hF1 hN1 hw1 => ?_)
  try simp only [gdTT, gdFF, gdTF, gdFT, pvS, pickT, pickF, faP, lenS, capS, nilP, exA, exB, exC, notB, cndT, cndF, Bool.not_true, Bool.not_false, Nat.zero_add, Nat.add_zero]
  have hgd := dimsOf_good m (fun c hc => (hmc c hc).1)
  have hok := dimsOf_ok (m := m) (fun c hc => (hmc c hc).1)
  refine dof_c (hm.mono hF1) hml hmc (fun ul F2 N2 hw2 hF2 hN2 hd => ?_)
  generalize dimsOf m = l at *
  have hl4 := hgd.2.1
  refine new_c hd (by omega) (fun h => absurd h (by rw [hok]; decide)) (fun _ g dv F3 M3 N3 hF3 hC hM3 hN3 hm3 hw3 => ?_)
  refine ptr_ne ?_
  try simp only [gdTT, gdFF, gdTF, gdFT, pvS, pickT, pickF, faP, lenS, capS, nilP, exA, exB, exC, notB, cndT, cndF, Bool.not_true, Bool.not_false, Nat.zero_add, Nat.add_zero]
  refine u32_cv (by omega) (by omega) (u32_add (by omega) (by omega) ?_)
  have hds := goodDims_sz hgd
  have hdv : ∀ d ∈ l, d.2.length ≤ 1000000 := fun d hd => by have := okDim_div (okDims_all hok d hd); omega
  have F13 := hF2.trans hF3
  refine ask_c (hd.mono hF3) ((hc.mono hF1).mono F13) ((ha.mono hF1).mono F13) ((hb.mono hF1).mono F13) (by omega) hds hdv hcc hac hbc hcl hal hbl (fun qs F4 N4 hw4 hF4 hN4 hq => ?_)
  have hq' := hq
  obtain ⟨qa, qb, qc, hqs, hqa, hqb, hqc, _⟩ := hq'
  obtain ⟨a1, c1, e1, _⟩ := hqa.form
  obtain ⟨a2, c2, e2, _⟩ := hqb.form
  obtain ⟨a3, c3, e3, _⟩ := hqc.form
  have hqv : ∀ x ∈ qs, x.oneCell' = true := by rw [hqs, e1, e2, e3]; exact List.all_eq_true.1 rfl
  have hlvL := levOf_len l c []
  obtain ⟨hlev, _⟩ := levOf_ok (c := c) (nil_ok l)
  have hti := okLev_i64 hlvL hlev hdv
  have hbx := boxed (a := a) (b := b) hds
  have hm4 : clean M3 N4 := hw4.m
  refine nw_r (fun b17 hb17 => ?_)
  refine stM (cs' := qs) ?_ (upd_same _ _ _) (by rw [hqs]; rfl) (by rw [hqs]; rfl) hqv (by exact Nat.le_of_ble_eq_true rfl)
  rw [upd_upd]
  have hbox := upd_same M3 b17 (some (.cells 36 qs [Value.slice none 0 0, Value.slice none 0 0, Value.slice none 0 0].length))
  have hC4 := hC.keep (F' := F4) (M' := upd M3 b17 (some (.cells 36 qs [Value.slice none 0 0, Value.slice none 0 0, Value.slice none 0 0].length))) hF4 (fun q hq => upd_ne _ _ (by have := hC.lt hm3 q hq; omega))
  have hm5 := hm4.new hb17 (some (.cells 36 qs [Value.slice none 0 0, Value.slice none 0 0, Value.slice none 0 0].length))
  obtain ⟨N5, hN5⟩ : ∃ n, n = b17 + 1 := ⟨_, rfl⟩
  rw [← hN5] at hm5 ⊢
  have hgN := (hC.lt hm3 g (.inl rfl)).2
  generalize upd M3 b17 _ = M5 at *
  have hld : ∀ {F' : Nat → Option (List Value)} {M' : Nat → Option Chunk} {n : Nat} {X : Kont}, M' b17 = some (.cells 36 qs 3) → X (.agg qs.toArray) ⟨F', M', n⟩ → ld true 3 (.pointer (some ⟨b17, 0, none⟩)) X ⟨F', M', n⟩ := fun hM hX => ldMa (vs := qs) hX hM (by rw [hqs]; rfl) (by rw [hqs]; exact Nat.le_of_ble_eq_true rfl)
  have F14 := F13.trans hF4
  refine facts_c (hd.mono (hF3.trans hF4)) ((hk.mono hF1).mono F14) ((hv.mono hF1).mono F14) (by omega) hds hkc hkl hvl (fun uf F6 N6 hw6 hF6 hN6 hf => ?_)
  have hfit := facts_fit hgd ks v
  obtain ⟨f1, f2⟩ := fitsF_of hfit
  have t0 : (1 : Int) + at' ≠ 0 := by omega
  have ea : addE l [] (1 + at') (factsOf l ks v) = 0 := addE_zero hfit t0 rfl (by decide)
  refine add_to_c (hC4.keep (M' := M5) hF6 (fun _ _ => rfl)) (by omega) (by omega) (by decide) (by omega) hf (by omega) (fun hv7 F7 M7 N7 rows7 hF7 hC7 hM7 hN7 hm7 hw7 => ?_)
  rw [ea]
  rw [addH_eq ea] at hC7
  have hb7 := (hM7 b17 (by simp [Value.ownBlock]) (by omega) (by omega)).1.trans hbox
  have hv7b := (hM7 b17 (by simp [Value.ownBlock]) (by omega) (by omega)).2
  refine hld hb7 ?_
  have eq1 : allI [(1 + at', factsOf l ks v)] (upTo [(1 + at', factsOf l ks v)] (1 + at')) = factsOf l ks v := by
    rw [allI_till (List.pairwise_singleton _ _)]; simp [tillF, allF]
  have hgt := goodT.facts (ks := ks) hgd hvc
  have hlt := tab_len ((factsOf l ks v).map fr1)
  rw [List.length_map] at hlt
  have hsz := sizeL_facts (factsOf l ks v)
  obtain ⟨r1, g1⟩ := hgt.run hok hlvL hlev hbx (by omega) (by omega)
  have F67 := hF6.trans hF7
  have hqm := hq.mono F67
  have hC7' : isCube F7 M7 (N2) g hv7 dv rows7 l [(1 + at', factsOf l ks v)] := hC7
  refine cquery_c hC7' (by omega) (by simp) (by simp [allF]; omega) (facts_keys hgd) hqm hti (by rw [eq1]; exact hgt.okK (by omega)) (fun u8 F8 N8 hw8 hF8 hN8 h8 => ?_)
  rw [eq1, r1]
  rw [eq1] at h8
  try simp only [gdTT, gdFF, gdTF, gdFT, pvS, pickT, pickF, faP, lenS, capS, nilP, exA, exB, exC, notB, cndT, cndF, Bool.not_true, Bool.not_false, Nat.zero_add, Nat.add_zero]
  refine u32_add (by omega) (by omega) ?_
  have F18 := (F14.trans F67).trans hF8
  refine facts_c (hd.mono (((hF3.trans hF4).trans F67).trans hF8)) ((hk2.mono hF1).mono F18) ((hv.mono hF1).mono F18) (by omega) hds hkc2 hkl2 hvl (fun uf2 F9 N9 hw9 hF9 hN9 hfb => ?_)
  have hfit2 := facts_fit hgd ks2 v
  obtain ⟨f3, f4⟩ := fitsF_of hfit2
  have eb : addE l [(1 + at', factsOf l ks v)] (1 + at' + 1) (factsOf l ks2 v) = 0 := addE_zero hfit2 (by omega) (by rw [there_cons, if_pos (by simp only; omega)]; rfl) (by simp)
  refine add_to_c (hC7'.keep (M' := M7) (hF8.trans hF9) (fun _ _ => rfl)) (by omega) (by omega) (by simp) (by omega) hfb (by omega) (fun hv10 F10 M10 N10 rows10 hF10 hC10 hM10 hN10 hm10 hw10 => ?_)
  rw [eb]
  have ew : withR [(1 + at', factsOf l ks v)] (1 + at' + 1) (factsOf l ks2 v) = [(1 + at', factsOf l ks v), (1 + at' + 1, factsOf l ks2 v)] := by
    simp only [withR]; rw [if_pos (by omega)]
  rw [addH_eq eb, ew] at hC10
  have hb10 := (hM10 b17 hv7b (by omega) (by omega)).1.trans hb7
  refine hld hb10 ?_
  have hrs : risen [(1 + at', factsOf l ks v), (1 + at' + 1, factsOf l ks2 v)] := hC10.rs
  have eq2 : allI [(1 + at', factsOf l ks v), (1 + at' + 1, factsOf l ks2 v)] (upTo [(1 + at', factsOf l ks v), (1 + at' + 1, factsOf l ks2 v)] (1 + at')) = factsOf l ks v := by
    rw [allI_till hrs]
    unfold tillF
    rw [List.filter_cons_of_pos (by simp), List.filter_cons_of_neg (by simp; omega)]
    simp [allF]
  have eq3 : allI [(1 + at', factsOf l ks v), (1 + at' + 1, factsOf l ks2 v)] (upTo [(1 + at', factsOf l ks v), (1 + at' + 1, factsOf l ks2 v)] (1 + at' - 1)) = [] := by
    rw [allI_till hrs]
    unfold tillF
    rw [List.filter_cons_of_neg (by simp; omega), List.filter_cons_of_neg (by simp; omega)]
    simp [allF]
  have hkk : ∀ e ∈ [(1 + at', factsOf l ks v), (1 + at' + 1, factsOf l ks2 v)], ∀ f ∈ e.2, okK f.1 := fun e he f hf => by
    rcases List.mem_cons.1 he with rfl | he
    · exact facts_okK hgd f hf
    · exact facts_keys hgd e he f hf
  have hT2 : (([(1 + at', factsOf l ks v), (1 + at' + 1, factsOf l ks2 v)].map (·.2)).flatten).length ≤ 1000000 := by simp; omega
  have F9A := (hF8.trans hF9).trans hF10
  refine cquery_c hC10 (by omega) (by simp) hT2 hkk (hqm.mono F9A) hti (by rw [eq2]; exact hgt.okK (by omega)) (fun u11 F11 N11 hw11 hF11 hN11 h11 => ?_)
  rw [eq2, r1]
  rw [eq2] at h11
  try simp only [gdTT, gdFF, gdTF, gdFT, pvS, pickT, pickF, faP, lenS, capS, nilP, exA, exB, exC, notB, cndT, cndF, Bool.not_true, Bool.not_false, Nat.zero_add, Nat.add_zero]
  refine hld hb10 ?_
  refine u32_sub (by omega) (by omega) ?_
  obtain ⟨r0, g0⟩ := (goodT.none l).run hok hlvL hlev hbx (by decide) (by decide)
  have t0 := runT_len l [] (levOf l c []) (boxLo l a b) (boxHi l a b)
  refine cquery_c (hC10.keep (M' := M10) hF11 (fun _ _ => rfl)) (by omega) (by simp) hT2 hkk ((hqm.mono F9A).mono hF11) hti (by rw [eq3]; simp [tab]) (fun u12 F12 N12 hw12 hF12 hN12 h12 => ?_)
  rw [eq3, show tab (([] : List Fc).map fr1) = [] from rfl, r0]
  rw [eq3, show tab (([] : List Fc).map fr1) = [] from rfl] at h12
  try simp only [gdTT, gdFF, gdTF, gdFT, pvS, pickT, pickF, faP, lenS, capS, nilP, exA, exB, exC, notB, cndT, cndF, Bool.not_true, Bool.not_false, Nat.zero_add, Nat.add_zero]
  refine eql_t rfl ?_
  try simp only [gdTT, gdFF, gdTF, gdFT, pvS, pickT, pickF, faP, lenS, capS, nilP, exA, exB, exC, notB, cndT, cndF, Bool.not_true, Bool.not_false, Nat.zero_add, Nat.add_zero]
  refine eql_t rfl ?_
  try simp only [gdTT, gdFF, gdTF, gdFT, pvS, pickT, pickF, faP, lenS, capS, nilP, exA, exB, exC, notB, cndT, cndF, Bool.not_true, Bool.not_false, Nat.zero_add, Nat.add_zero]
  refine eql_t rfl ?_
  try simp only [gdTT, gdFF, gdTF, gdFT, pvS, pickT, pickF, faP, lenS, capS, nilP, exA, exB, exC, notB, cndT, cndF, Bool.not_true, Bool.not_false, Nat.zero_add, Nat.add_zero]
  refine eql_t rfl ?_
  try simp only [gdTT, gdFF, gdTF, gdFT, pvS, pickT, pickF, faP, lenS, capS, nilP, exA, exB, exC, notB, cndT, cndF, Bool.not_true, Bool.not_false, Nat.zero_add, Nat.add_zero]
  refine eql_t rfl ?_
  try simp only [gdTT, gdFF, gdTF, gdFT, pvS, pickT, pickF, faP, lenS, capS, nilP, exA, exB, exC, notB, cndT, cndF, Bool.not_true, Bool.not_false, Nat.zero_add, Nat.add_zero]
  have n1 := runT_len l (tab ((factsOf l ks v).map fr1)) (levOf l c []) (boxLo l a b) (boxHi l a b)
  refine same_c (h8.mono (((hF9.trans hF10).trans hF11).trans hF12)) (h11.mono hF12) (by omega) ?_
  rw [decide_eq_true rfl]
  try simp only [gdTT, gdFF, gdTF, gdFT, pvS, pickT, pickF, faP, lenS, capS, nilP, exA, exB, exC, notB, cndT, cndF, Bool.not_true, Bool.not_false, Nat.zero_add, Nat.add_zero]
  obtain ⟨prs, h12a, _⟩ := h12
  refine lenF_r h12a ?_
  refine eql_t (by have h00 : (runT l [] (levOf l c []) (boxLo l a b) (boxHi l a b)).length ≤ 0 := t0; omega) ?_
  try simp only [gdTT, gdFF, gdTF, gdFT, pvS, pickT, pickF, faP, lenS, capS, nilP, exA, exB, exC, notB, cndT, cndF, Bool.not_true, Bool.not_false, Nat.zero_add, Nat.add_zero]
  exact fun hc => ⟨_, wk_refl hc, fun _ => k _⟩
end Go.Proofs.YtgjdjdjhoipfmaaGreatDoor.A
open Go Go.RowKit Go.Proofs.YtgjdjdjhoipfmaaGreatDoor.K Go.Proofs.YtgjdjdjhoipfmaaGreatDoor.T
set_option linter.unusedVariables false
set_option linter.unusedSimpArgs false
namespace Go.Proofs.YtgjdjdjhoipfmaaGreatDoor.A
variable {F F' : Nat → Option (List Value)} {M M' : Nat → Option Chunk} {N N' : Nat} {K : Kont} {E : PanK}
theorem CubeKeeps_true (v0 v1 v2 v3 v4 v5 v6 : Value) (a7 : Int) {y0 : List (Int × List Int)} {y1 y2 : List (List Int)} {y3 y4 y5 y6 : List Int} (W : World) (h0 : rS 2 rCut (F0 W) [v0] y0) (h1 : rS 1 (rS 1 (rI .u16)) (F0 W) [v1] y1) (h2 : rS 1 (rS 1 (rI .u16)) (F0 W) [v2] y2) (h3 : rS 1 (rI .i64) (F0 W) [v3] y3) (h4 : rS 1 (rI .u8) (F0 W) [v4] y4) (h5 : rS 1 (rI .u16) (F0 W) [v5] y5) (h6 : rS 1 (rI .u16) (F0 W) [v6] y6) (w7 : (Lit.int .u16 a7).wf = true) :
    Calls Tryz.prog 3 #[v0, v1, v2, v3, v4, v5, v6, .int .u16 a7] W fun e w' => e = .returned (.bool true) ∧ Below W.heap.size W w' :=
  have b := cuts_of h0
  have c := lists_of h1
  have c2 := lists_of h2
  have d := list_of h3
  have e := list_of h4
  have f := list_of h5
  have g := list_of h6
  fin_true (cubeKeeps_c b.1 b.2.1 b.2.2 c.1 c.2.1 (fun l hl x hx => wf_u16 (c.2.2 l hl x hx)) c2.1 c2.2.1 (fun l hl x hx => wf_u16 (c2.2.2 l hl x hx)) d.1 d.2.2 (fun x hx => wf_i64 (d.2.1 x hx)) e.1 e.2.2 (fun x hx => wf_u8 (e.2.1 x hx)) f.1 f.2.2 (fun x hx => wf_u16 (f.2.1 x hx)) g.1 g.2.2 (fun x hx => wf_u16 (g.2.1 x hx)) (wf_u16 w7) fun _ => rfl)
end Go.Proofs.YtgjdjdjhoipfmaaGreatDoor.A
open Go Go.RowKit Go.Proofs.YtgjdjdjhoipfmaaGreatDoor.K
set_option linter.unusedVariables false
set_option maxRecDepth 100000
namespace Go.Proofs.YtgjdjdjhoipfmaaGreatDoor.T
theorem t19 (K : Kont) (E : PanK) (x0 x1 x2 : Value)  : den Tryz.prog (sel (bodyOf Tryz.f19) []) (bodyQ Tryz.prog Tryz.f19.results.toList K E) #[x0, x1, x2, undef, undef, undef, undef, undef, undef, undef, undef, undef, undef, undef, undef, undef, undef, undef, undef, undef, undef, undef, undef, undef, undef, undef, undef, undef, undef, undef, undef, undef, undef, undef, undef, undef, undef, undef] =
  pv (nilV x0) fun t1 =>
  pv (faV 0 t1) fun t2 =>
  ld false 1 t2 fun t3 =>
  pv (lenV t3) fun t4 =>
  lp (fun k1 => den Tryz.prog (sel (bodyOf Tryz.f19) [1, 1, 0, 1, 0, 0]) (thenD k1 (blk 0 (thenD (den Tryz.prog (sel (bodyOf Tryz.f19) [1, 1, 1]) (bodyQ Tryz.prog Tryz.f19.results.toList K E)) (bodyQ Tryz.prog Tryz.f19.results.toList K E))))) #[x0, x1, x2, undef, undef, undef, (.slice none 0 0), (.slice none 0 0), undef, undef, undef, x0, t1, t2, t3, t4, (.int .i64 0), undef, undef, undef, undef, undef, undef, undef, undef, undef, undef, undef, undef, undef, undef, undef, undef, undef, undef, undef, undef, undef] := by kernel_rfl
def m19_1_1_0_1_0_0 (x0 x1 x2 x3 x4 x5 x6 x8 x11 x12 x13 x14 x15 x37 : Value) (v7 v16 : Value) (j : Nat → Value) : Env := #[x0, x1, x2, x3, x4, x5, x6, v7, x8, (j 9), (j 10), x11, x12, x13, x14, x15, v16, (j 17), (j 18), (j 19), (j 20), (j 21), (j 22), (j 23), (j 24), (j 25), (j 26), (j 27), (j 28), (j 29), (j 30), (j 31), (j 32), (j 33), (j 34), (j 35), (j 36), x37]
theorem t19_1_1_0_1_0_0 (K : Kont) (E : PanK) (k1 : Env → Hp → Prop) (x0 x1 x2 x3 x4 x5 x6 x8 x11 x12 x13 x14 x15 x37 v7 v16 : Value) (j : Nat → Value) : den Tryz.prog (sel (bodyOf Tryz.f19) [1, 1, 0, 1, 0, 0]) (thenD k1 (blk 0 (thenD (den Tryz.prog (sel (bodyOf Tryz.f19) [1, 1, 1]) (bodyQ Tryz.prog Tryz.f19.results.toList K E)) (bodyQ Tryz.prog Tryz.f19.results.toList K E)))) (m19_1_1_0_1_0_0 x0 x1 x2 x3 x4 x5 x6 x8 x11 x12 x13 x14 x15 x37 v7 v16 j) =
  pv (binV .none .lss v16 x15) fun t1 =>
  cnd t1 (
    pv (iaV none 2 x14 v16) fun t2 =>
    ld true 2 t2 fun t3 =>
    nw 52 [(.int .u32 0), (.slice none 0 0)] fun t4 =>
    st 2 t4 t3 fun _ =>
    pv (faV 1 t4) fun t5 =>
    ld false 1 t5 fun t6 =>
    callv Tryz.prog (.func (.func 41) #[] #[]) #[x1, x2] (fun t7 h8 => (ldV h8 false 1 t5 t6) ∧ (
      callv Tryz.prog (.func (.func 40) #[] #[]) #[t6, t7, (.bool true)] (fun t9 =>
      pv (lenV t9) fun t10 =>
      pv (binV .none .gtr t10 (.int .i64 0)) fun t11 =>
      cnd t11 (
        pv (faV 0 t4) fun t12 =>
        ld false 1 t12 fun t13 =>
        pv (bdC #[(.int .u32 0), (.slice none 0 0)] [(0, 1), (1, 1)] #[(0, t13), (1, t9)]) fun t14 =>
        nws 52 1 (bsC #[(.int .u32 0), (.slice none 0 0)] 2 1 #[(0, t14)]) fun t15 =>
        appX 52 2 32 v7 t15 fun t16 =>
        den Tryz.prog (sel (bodyOf Tryz.f19) [1, 1, 0, 1, 0, 0, 1, 1, 1]) (thenD k1 (blk 0 (thenD (den Tryz.prog (sel (bodyOf Tryz.f19) [1, 1, 1]) (bodyQ Tryz.prog Tryz.f19.results.toList K E)) (bodyQ Tryz.prog Tryz.f19.results.toList K E)))) #[x0, x1, x2, x3, x4, x5, x6, t16, x8, t4, t9, x11, x12, x13, x14, x15, v16, t1, t2, t3, t5, t6, x1, x2, t7, t9, t9, t10, t11, v7, t12, t13, t9, t14, t15, t16, (j 36), x37]) (
        den Tryz.prog (sel (bodyOf Tryz.f19) [1, 1, 0, 1, 0, 0, 1, 1, 1]) (thenD k1 (blk 0 (thenD (den Tryz.prog (sel (bodyOf Tryz.f19) [1, 1, 1]) (bodyQ Tryz.prog Tryz.f19.results.toList K E)) (bodyQ Tryz.prog Tryz.f19.results.toList K E)))) #[x0, x1, x2, x3, x4, x5, x6, v7, x8, t4, t9, x11, x12, x13, x14, x15, v16, t1, t2, t3, t5, t6, x1, x2, t7, t9, t9, t10, t11, (j 29), (j 30), (j 31), (j 32), (j 33), (j 34), (j 35), (j 36), x37])) E) h8) E) (
    den Tryz.prog (sel (bodyOf Tryz.f19) [1, 1, 1]) (bodyQ Tryz.prog Tryz.f19.results.toList K E) #[x0, x1, x2, x3, x4, x5, x6, v7, x8, (j 9), (j 10), x11, x12, x13, x14, x15, v16, t1, (j 18), (j 19), (j 20), (j 21), (j 22), (j 23), (j 24), (j 25), (j 26), (j 27), (j 28), (j 29), (j 30), (j 31), (j 32), (j 33), (j 34), (j 35), (j 36), x37]) := by kernel_rfl
theorem t19_1_1_1 (K : Kont) (E : PanK) (x0 x1 x2 x3 x4 x5 x6 x7 x8 x9 x10 x11 x12 x13 x14 x15 x16 x17 x18 x19 x20 x21 x22 x23 x24 x25 x26 x27 x28 x29 x30 x31 x32 x33 x34 x35 x36 x37 : Value)  : den Tryz.prog (sel (bodyOf Tryz.f19) [1, 1, 1]) (bodyQ Tryz.prog Tryz.f19.results.toList K E) #[x0, x1, x2, x3, x4, x5, x6, x7, x8, x9, x10, x11, x12, x13, x14, x15, x16, x17, x18, x19, x20, x21, x22, x23, x24, x25, x26, x27, x28, x29, x30, x31, x32, x33, x34, x35, x36, x37] =
  K x7 := by kernel_rfl
theorem t19_1_1_0_1_0_0_1_1_1 (K : Kont) (E : PanK) (k1 : Env → Hp → Prop) (x0 x1 x2 x3 x4 x5 x6 x7 x8 x9 x10 x11 x12 x13 x14 x15 x16 x17 x18 x19 x20 x21 x22 x23 x24 x25 x26 x27 x28 x29 x30 x31 x32 x33 x34 x35 x36 x37 : Value)  : den Tryz.prog (sel (bodyOf Tryz.f19) [1, 1, 0, 1, 0, 0, 1, 1, 1]) (thenD k1 (blk 0 (thenD (den Tryz.prog (sel (bodyOf Tryz.f19) [1, 1, 1]) (bodyQ Tryz.prog Tryz.f19.results.toList K E)) (bodyQ Tryz.prog Tryz.f19.results.toList K E)))) #[x0, x1, x2, x3, x4, x5, x6, x7, x8, x9, x10, x11, x12, x13, x14, x15, x16, x17, x18, x19, x20, x21, x22, x23, x24, x25, x26, x27, x28, x29, x30, x31, x32, x33, x34, x35, x36, x37] =
  pv (binV .none .add x16 (.int .i64 1)) fun t1 =>
  k1 (m19_1_1_0_1_0_0 x0 x1 x2 x3 x4 x5 x6 x8 x11 x12 x13 x14 x15 x37 x7 t1 (jf #[x0, x1, x2, x3, x4, x5, x6, x7, x8, x9, x10, x11, x12, x13, x14, x15, t1, x17, x18, x19, x20, x21, x22, x23, x24, x25, x26, x27, x28, x29, x30, x31, x32, x33, x34, x35, t1, x37])) := by kernel_rfl
theorem l19_1_1_0_1_0_0 {K : Kont} {E : PanK} {σ : Type} {x0 x1 x2 x3 x4 x5 x6 x8 x11 x12 x13 x14 x15 x37 v7 v16 y9 y10 y17 y18 y19 y20 y21 y22 y23 y24 y25 y26 y27 y28 y29 y30 y31 y32 y33 y34 y35 y36 : Value} {h : Hp} (f7 f16 : σ → Value) (I : σ → Hp → Prop) (μ : σ → Nat) (s0 : σ) (e7 : v7 = f7 s0) (e16 : v16 = f16 s0) (h0 : h.wf → ∃ h', h.wk h' ∧ I s0 h')
  (round : ∀ (k1 : Env → Hp → Prop) (s : σ) (j : Nat → Value) (h : Hp), I s h → h.wf → (∀ s' j' h', μ s' < μ s → (h'.wf → ∃ h'', h'.wk h'' ∧ I s' h'') → k1 (m19_1_1_0_1_0_0 x0 x1 x2 x3 x4 x5 x6 x8 x11 x12 x13 x14 x15 x37 (f7 s') (f16 s') j') h') → (
  pv (binV .none .lss (f16 s) x15) fun t1 =>
  cnd t1 (
    pv (iaV none 2 x14 (f16 s)) fun t2 =>
    ld true 2 t2 fun t3 =>
    nw 52 [(.int .u32 0), (.slice none 0 0)] fun t4 =>
    st 2 t4 t3 fun _ =>
    pv (faV 1 t4) fun t5 =>
    ld false 1 t5 fun t6 =>
    callv Tryz.prog (.func (.func 41) #[] #[]) #[x1, x2] (fun t7 h8 => (ldV h8 false 1 t5 t6) ∧ (
      callv Tryz.prog (.func (.func 40) #[] #[]) #[t6, t7, (.bool true)] (fun t9 =>
      pv (lenV t9) fun t10 =>
      pv (binV .none .gtr t10 (.int .i64 0)) fun t11 =>
      cnd t11 (
        pv (faV 0 t4) fun t12 =>
        ld false 1 t12 fun t13 =>
        pv (bdC #[(.int .u32 0), (.slice none 0 0)] [(0, 1), (1, 1)] #[(0, t13), (1, t9)]) fun t14 =>
        nws 52 1 (bsC #[(.int .u32 0), (.slice none 0 0)] 2 1 #[(0, t14)]) fun t15 =>
        appX 52 2 32 (f7 s) t15 fun t16 =>
        den Tryz.prog (sel (bodyOf Tryz.f19) [1, 1, 0, 1, 0, 0, 1, 1, 1]) (thenD k1 (blk 0 (thenD (den Tryz.prog (sel (bodyOf Tryz.f19) [1, 1, 1]) (bodyQ Tryz.prog Tryz.f19.results.toList K E)) (bodyQ Tryz.prog Tryz.f19.results.toList K E)))) #[x0, x1, x2, x3, x4, x5, x6, t16, x8, t4, t9, x11, x12, x13, x14, x15, (f16 s), t1, t2, t3, t5, t6, x1, x2, t7, t9, t9, t10, t11, (f7 s), t12, t13, t9, t14, t15, t16, (j 36), x37]) (
        den Tryz.prog (sel (bodyOf Tryz.f19) [1, 1, 0, 1, 0, 0, 1, 1, 1]) (thenD k1 (blk 0 (thenD (den Tryz.prog (sel (bodyOf Tryz.f19) [1, 1, 1]) (bodyQ Tryz.prog Tryz.f19.results.toList K E)) (bodyQ Tryz.prog Tryz.f19.results.toList K E)))) #[x0, x1, x2, x3, x4, x5, x6, (f7 s), x8, t4, t9, x11, x12, x13, x14, x15, (f16 s), t1, t2, t3, t5, t6, x1, x2, t7, t9, t9, t10, t11, (j 29), (j 30), (j 31), (j 32), (j 33), (j 34), (j 35), (j 36), x37])) E) h8) E) (
    den Tryz.prog (sel (bodyOf Tryz.f19) [1, 1, 1]) (bodyQ Tryz.prog Tryz.f19.results.toList K E) #[x0, x1, x2, x3, x4, x5, x6, (f7 s), x8, (j 9), (j 10), x11, x12, x13, x14, x15, (f16 s), t1, (j 18), (j 19), (j 20), (j 21), (j 22), (j 23), (j 24), (j 25), (j 26), (j 27), (j 28), (j 29), (j 30), (j 31), (j 32), (j 33), (j 34), (j 35), (j 36), x37])) h) :
  lp (fun k1 => den Tryz.prog (sel (bodyOf Tryz.f19) [1, 1, 0, 1, 0, 0]) (thenD k1 (blk 0 (thenD (den Tryz.prog (sel (bodyOf Tryz.f19) [1, 1, 1]) (bodyQ Tryz.prog Tryz.f19.results.toList K E)) (bodyQ Tryz.prog Tryz.f19.results.toList K E))))) #[x0, x1, x2, x3, x4, x5, x6, v7, x8, y9, y10, x11, x12, x13, x14, x15, v16, y17, y18, y19, y20, y21, y22, y23, y24, y25, y26, y27, y28, y29, y30, y31, y32, y33, y34, y35, y36, x37] h := by
  subst e7
  subst e16
  have e : (#[x0, x1, x2, x3, x4, x5, x6, (f7 s0), x8, y9, y10, x11, x12, x13, x14, x15, (f16 s0), y17, y18, y19, y20, y21, y22, y23, y24, y25, y26, y27, y28, y29, y30, y31, y32, y33, y34, y35, y36, x37] : Env) = m19_1_1_0_1_0_0 x0 x1 x2 x3 x4 x5 x6 x8 x11 x12 x13 x14 x15 x37 (f7 s0) (f16 s0) (jf #[x0, x1, x2, x3, x4, x5, x6, (f7 s0), x8, y9, y10, x11, x12, x13, x14, x15, (f16 s0), y17, y18, y19, y20, y21, y22, y23, y24, y25, y26, y27, y28, y29, y30, y31, y32, y33, y34, y35, y36, x37]) := by kernel_rfl
  rw [e]
  exact loop_r (fun s j => m19_1_1_0_1_0_0 x0 x1 x2 x3 x4 x5 x6 x8 x11 x12 x13 x14 x15 x37 (f7 s) (f16 s) j) I μ (fun k s j h hI hw next => by rw [t19_1_1_0_1_0_0]; exact round k s j h hI hw next) s0 (jf #[x0, x1, x2, x3, x4, x5, x6, (f7 s0), x8, y9, y10, x11, x12, x13, x14, x15, (f16 s0), y17, y18, y19, y20, y21, y22, y23, y24, y25, y26, y27, y28, y29, y30, y31, y32, y33, y34, y35, y36, x37]) h0

theorem t26 (K : Kont) (E : PanK) (x0 x1 x2 x3 : Value)  : den Tryz.prog (sel (bodyOf Tryz.f26) []) (bodyQ Tryz.prog Tryz.f26.results.toList K E) #[x0, x1, x2, x3, undef, undef, undef, undef, undef, undef, undef, undef, undef, undef, undef, undef, undef, undef, undef, undef, undef, undef, undef, undef, undef, undef, undef, undef, undef, undef, undef, undef, undef, undef, undef, undef, undef, undef, undef, undef, undef, undef, undef, undef, undef, undef, undef, undef, undef, undef, undef, undef, undef, undef, undef, undef, undef, undef, undef, undef, undef, undef, undef, undef, undef, undef, undef, undef, undef, undef, undef, undef, undef, undef, undef, undef, undef, undef, undef, undef, undef, undef, undef, undef] =
  callv Tryz.prog (.func (.func 41) #[] #[]) #[x1, x2] (fun t1 =>
  callv Tryz.prog (.func (.func 50) #[] #[]) #[x0, t1, x3] (fun t2 =>
  pv (unV .not t2) fun t3 =>
  cnd t3 (
    K (.int .u16 1)) (
    pv (nilV x0) fun t4 =>
    pv (faV 0 t4) fun t5 =>
    ld false 1 t5 fun t6 =>
    pv (lenV t6) fun t7 =>
    lp (fun k1 => den Tryz.prog (sel (bodyOf Tryz.f26) [1, 1, 1, 1, 0, 1, 0, 0]) (thenD k1 (blk 0 (thenD (den Tryz.prog (sel (bodyOf Tryz.f26) [1, 1, 1, 1, 1]) (bodyQ Tryz.prog Tryz.f26.results.toList K E)) (bodyQ Tryz.prog Tryz.f26.results.toList K E))))) #[x0, x1, x2, x3, undef, undef, undef, undef, (.int .u16 0), t1, (.slice none 0 0), undef, undef, undef, undef, undef, undef, x1, x2, t1, x0, t1, x3, t2, t3, x0, t4, t5, t6, t7, (.int .i64 0), undef, undef, undef, undef, undef, undef, undef, undef, undef, undef, undef, undef, undef, undef, undef, undef, undef, undef, undef, undef, undef, undef, undef, undef, undef, undef, undef, undef, undef, undef, undef, undef, undef, undef, undef, undef, undef, undef, undef, undef, undef, undef, undef, undef, undef, undef, undef, undef, undef, undef, undef, undef, undef])) E) E := by kernel_rfl
def m26_1_1_1_1_0_1_0_0 (x0 x1 x2 x3 x4 x5 x6 x7 x8 x9 x11 x14 x15 x16 x17 x18 x19 x20 x21 x22 x23 x24 x25 x26 x27 x28 x29 x55 x56 x57 x58 x59 x60 x61 x62 x63 x64 x65 x66 x67 x68 x69 x70 x71 x72 x73 x74 x75 x76 x77 x78 x79 x80 x81 x82 x83 : Value) (v10 v30 : Value) (j : Nat → Value) : Env := #[x0, x1, x2, x3, x4, x5, x6, x7, x8, x9, v10, x11, (j 12), (j 13), x14, x15, x16, x17, x18, x19, x20, x21, x22, x23, x24, x25, x26, x27, x28, x29, v30, (j 31), (j 32), (j 33), (j 34), (j 35), (j 36), (j 37), (j 38), (j 39), (j 40), (j 41), (j 42), (j 43), (j 44), (j 45), (j 46), (j 47), (j 48), (j 49), (j 50), (j 51), (j 52), (j 53), (j 54), x55, x56, x57, x58, x59, x60, x61, x62, x63, x64, x65, x66, x67, x68, x69, x70, x71, x72, x73, x74, x75, x76, x77, x78, x79, x80, x81, x82, x83]
theorem t26_1_1_1_1_0_1_0_0 (K : Kont) (E : PanK) (k1 : Env → Hp → Prop) (x0 x1 x2 x3 x4 x5 x6 x7 x8 x9 x11 x14 x15 x16 x17 x18 x19 x20 x21 x22 x23 x24 x25 x26 x27 x28 x29 x55 x56 x57 x58 x59 x60 x61 x62 x63 x64 x65 x66 x67 x68 x69 x70 x71 x72 x73 x74 x75 x76 x77 x78 x79 x80 x81 x82 x83 v10 v30 : Value) (j : Nat → Value) : den Tryz.prog (sel (bodyOf Tryz.f26) [1, 1, 1, 1, 0, 1, 0, 0]) (thenD k1 (blk 0 (thenD (den Tryz.prog (sel (bodyOf Tryz.f26) [1, 1, 1, 1, 1]) (bodyQ Tryz.prog Tryz.f26.results.toList K E)) (bodyQ Tryz.prog Tryz.f26.results.toList K E)))) (m26_1_1_1_1_0_1_0_0 x0 x1 x2 x3 x4 x5 x6 x7 x8 x9 x11 x14 x15 x16 x17 x18 x19 x20 x21 x22 x23 x24 x25 x26 x27 x28 x29 x55 x56 x57 x58 x59 x60 x61 x62 x63 x64 x65 x66 x67 x68 x69 x70 x71 x72 x73 x74 x75 x76 x77 x78 x79 x80 x81 x82 x83 v10 v30 j) =
  pv (binV .none .lss v30 x29) fun t1 =>
  cnd t1 (
    pv (iaV none 2 x28 v30) fun t2 =>
    ld true 2 t2 fun t3 =>
    nw 52 [(.int .u32 0), (.slice none 0 0)] fun t4 =>
    st 2 t4 t3 fun _ =>
    pv (faV 1 t4) fun t5 =>
    ld false 1 t5 fun t6 =>
    callv Tryz.prog (.func (.func 40) #[] #[]) #[t6, x9, (.bool false)] (fun t7 =>
    pv (lenV t7) fun t8 =>
    pv (binV .none .gtr t8 (.int .i64 0)) fun t9 =>
    gdK t9 false (fun k => pv (faV 1 t4) k) fun t10 =>
    gdK t9 false (fun k => ld false 1 t10 k) fun t11 =>
    gdK t9 false (fun k => pv (lenV t11) k) fun t12 =>
    gdK t9 false (fun k => pv (binV .none .eql t12 (.int .i64 0)) k) fun t13 =>
    pv (pickV t9 (.bool true) t13) fun t14 =>
    cnd t14 (
      pv (faV 0 t4) fun t15 =>
      ld false 1 t15 fun t16 =>
      pv (bdC #[(.int .u32 0), (.slice none 0 0)] [(0, 1), (1, 1)] #[(0, t16), (1, t7)]) fun t17 =>
      nws 52 1 (bsC #[(.int .u32 0), (.slice none 0 0)] 2 1 #[(0, t17)]) fun t18 =>
      appX 52 2 32 v10 t18 fun t19 =>
      den Tryz.prog (sel (bodyOf Tryz.f26) [1, 1, 1, 1, 0, 1, 0, 0, 1, 1, 1]) (thenD k1 (blk 0 (thenD (den Tryz.prog (sel (bodyOf Tryz.f26) [1, 1, 1, 1, 1]) (bodyQ Tryz.prog Tryz.f26.results.toList K E)) (bodyQ Tryz.prog Tryz.f26.results.toList K E)))) #[x0, x1, x2, x3, x4, x5, x6, x7, x8, x9, t19, x11, t4, t7, x14, x15, x16, x17, x18, x19, x20, x21, x22, x23, x24, x25, x26, x27, x28, x29, v30, t1, t2, t3, t5, t6, x9, t7, t7, t8, t9, t9, t10, t11, t12, t13, t14, v10, t15, t16, t7, t17, t18, t19, (j 54), x55, x56, x57, x58, x59, x60, x61, x62, x63, x64, x65, x66, x67, x68, x69, x70, x71, x72, x73, x74, x75, x76, x77, x78, x79, x80, x81, x82, x83]) (
      den Tryz.prog (sel (bodyOf Tryz.f26) [1, 1, 1, 1, 0, 1, 0, 0, 1, 1, 1]) (thenD k1 (blk 0 (thenD (den Tryz.prog (sel (bodyOf Tryz.f26) [1, 1, 1, 1, 1]) (bodyQ Tryz.prog Tryz.f26.results.toList K E)) (bodyQ Tryz.prog Tryz.f26.results.toList K E)))) #[x0, x1, x2, x3, x4, x5, x6, x7, x8, x9, v10, x11, t4, t7, x14, x15, x16, x17, x18, x19, x20, x21, x22, x23, x24, x25, x26, x27, x28, x29, v30, t1, t2, t3, t5, t6, x9, t7, t7, t8, t9, t9, t10, t11, t12, t13, t14, (j 47), (j 48), (j 49), (j 50), (j 51), (j 52), (j 53), (j 54), x55, x56, x57, x58, x59, x60, x61, x62, x63, x64, x65, x66, x67, x68, x69, x70, x71, x72, x73, x74, x75, x76, x77, x78, x79, x80, x81, x82, x83])) E) (
    den Tryz.prog (sel (bodyOf Tryz.f26) [1, 1, 1, 1, 1]) (bodyQ Tryz.prog Tryz.f26.results.toList K E) #[x0, x1, x2, x3, x4, x5, x6, x7, x8, x9, v10, x11, (j 12), (j 13), x14, x15, x16, x17, x18, x19, x20, x21, x22, x23, x24, x25, x26, x27, x28, x29, v30, t1, (j 32), (j 33), (j 34), (j 35), (j 36), (j 37), (j 38), (j 39), (j 40), (j 41), (j 42), (j 43), (j 44), (j 45), (j 46), (j 47), (j 48), (j 49), (j 50), (j 51), (j 52), (j 53), (j 54), x55, x56, x57, x58, x59, x60, x61, x62, x63, x64, x65, x66, x67, x68, x69, x70, x71, x72, x73, x74, x75, x76, x77, x78, x79, x80, x81, x82, x83]) := by kernel_rfl
theorem t26_1_1_1_1_1 (K : Kont) (E : PanK) (x0 x1 x2 x3 x4 x5 x6 x7 x8 x9 x10 x11 x12 x13 x14 x15 x16 x17 x18 x19 x20 x21 x22 x23 x24 x25 x26 x27 x28 x29 x30 x31 x32 x33 x34 x35 x36 x37 x38 x39 x40 x41 x42 x43 x44 x45 x46 x47 x48 x49 x50 x51 x52 x53 x54 x55 x56 x57 x58 x59 x60 x61 x62 x63 x64 x65 x66 x67 x68 x69 x70 x71 x72 x73 x74 x75 x76 x77 x78 x79 x80 x81 x82 x83 : Value)  : den Tryz.prog (sel (bodyOf Tryz.f26) [1, 1, 1, 1, 1]) (bodyQ Tryz.prog Tryz.f26.results.toList K E) #[x0, x1, x2, x3, x4, x5, x6, x7, x8, x9, x10, x11, x12, x13, x14, x15, x16, x17, x18, x19, x20, x21, x22, x23, x24, x25, x26, x27, x28, x29, x30, x31, x32, x33, x34, x35, x36, x37, x38, x39, x40, x41, x42, x43, x44, x45, x46, x47, x48, x49, x50, x51, x52, x53, x54, x55, x56, x57, x58, x59, x60, x61, x62, x63, x64, x65, x66, x67, x68, x69, x70, x71, x72, x73, x74, x75, x76, x77, x78, x79, x80, x81, x82, x83] =
  pv (lenV x3) fun t1 =>
  lp (fun k1 => den Tryz.prog (sel (bodyOf Tryz.f26) [1, 1, 1, 1, 1, 0, 1, 0, 0]) (thenD k1 (blk 2 (thenD (den Tryz.prog (sel (bodyOf Tryz.f26) [1, 1, 1, 1, 1, 1]) (bodyQ Tryz.prog Tryz.f26.results.toList K E)) (bodyQ Tryz.prog Tryz.f26.results.toList K E))))) #[x0, x1, x2, x3, x4, x5, x6, x7, x8, x9, x10, x11, x12, x13, x14, x15, x16, x17, x18, x19, x20, x21, x22, x23, x24, x25, x26, x27, x28, x29, x30, x31, x32, x33, x34, x35, x36, x37, x38, x39, x40, x41, x42, x43, x44, x45, x46, x47, x48, x49, x50, x51, x52, x53, x54, x3, t1, (.int .i64 0), x58, x59, x60, x61, x62, x63, x64, x65, x66, x67, x68, x69, x70, x71, x72, x73, x74, x75, x76, x77, x78, x79, x80, x81, x82, x83] := by kernel_rfl
theorem t26_1_1_1_1_0_1_0_0_1_1_1 (K : Kont) (E : PanK) (k1 : Env → Hp → Prop) (x0 x1 x2 x3 x4 x5 x6 x7 x8 x9 x10 x11 x12 x13 x14 x15 x16 x17 x18 x19 x20 x21 x22 x23 x24 x25 x26 x27 x28 x29 x30 x31 x32 x33 x34 x35 x36 x37 x38 x39 x40 x41 x42 x43 x44 x45 x46 x47 x48 x49 x50 x51 x52 x53 x54 x55 x56 x57 x58 x59 x60 x61 x62 x63 x64 x65 x66 x67 x68 x69 x70 x71 x72 x73 x74 x75 x76 x77 x78 x79 x80 x81 x82 x83 : Value)  : den Tryz.prog (sel (bodyOf Tryz.f26) [1, 1, 1, 1, 0, 1, 0, 0, 1, 1, 1]) (thenD k1 (blk 0 (thenD (den Tryz.prog (sel (bodyOf Tryz.f26) [1, 1, 1, 1, 1]) (bodyQ Tryz.prog Tryz.f26.results.toList K E)) (bodyQ Tryz.prog Tryz.f26.results.toList K E)))) #[x0, x1, x2, x3, x4, x5, x6, x7, x8, x9, x10, x11, x12, x13, x14, x15, x16, x17, x18, x19, x20, x21, x22, x23, x24, x25, x26, x27, x28, x29, x30, x31, x32, x33, x34, x35, x36, x37, x38, x39, x40, x41, x42, x43, x44, x45, x46, x47, x48, x49, x50, x51, x52, x53, x54, x55, x56, x57, x58, x59, x60, x61, x62, x63, x64, x65, x66, x67, x68, x69, x70, x71, x72, x73, x74, x75, x76, x77, x78, x79, x80, x81, x82, x83] =
  pv (binV .none .add x30 (.int .i64 1)) fun t1 =>
  k1 (m26_1_1_1_1_0_1_0_0 x0 x1 x2 x3 x4 x5 x6 x7 x8 x9 x11 x14 x15 x16 x17 x18 x19 x20 x21 x22 x23 x24 x25 x26 x27 x28 x29 x55 x56 x57 x58 x59 x60 x61 x62 x63 x64 x65 x66 x67 x68 x69 x70 x71 x72 x73 x74 x75 x76 x77 x78 x79 x80 x81 x82 x83 x10 t1 (jf #[x0, x1, x2, x3, x4, x5, x6, x7, x8, x9, x10, x11, x12, x13, x14, x15, x16, x17, x18, x19, x20, x21, x22, x23, x24, x25, x26, x27, x28, x29, t1, x31, x32, x33, x34, x35, x36, x37, x38, x39, x40, x41, x42, x43, x44, x45, x46, x47, x48, x49, x50, x51, x52, x53, t1, x55, x56, x57, x58, x59, x60, x61, x62, x63, x64, x65, x66, x67, x68, x69, x70, x71, x72, x73, x74, x75, x76, x77, x78, x79, x80, x81, x82, x83])) := by kernel_rfl
def m26_1_1_1_1_1_0_1_0_0 (x0 x1 x2 x3 x4 x5 x6 x7 x8 x9 x11 x12 x13 x14 x16 x17 x18 x19 x20 x21 x22 x23 x24 x25 x26 x27 x28 x29 x30 x31 x32 x33 x34 x35 x36 x37 x38 x39 x40 x41 x42 x43 x44 x45 x46 x47 x48 x49 x50 x51 x52 x53 x54 x55 x56 x72 x73 x74 x75 x76 x77 x78 x79 x80 x81 x82 x83 : Value) (v10 v57 : Value) (j : Nat → Value) : Env := #[x0, x1, x2, x3, x4, x5, x6, x7, x8, x9, v10, x11, x12, x13, x14, (j 15), x16, x17, x18, x19, x20, x21, x22, x23, x24, x25, x26, x27, x28, x29, x30, x31, x32, x33, x34, x35, x36, x37, x38, x39, x40, x41, x42, x43, x44, x45, x46, x47, x48, x49, x50, x51, x52, x53, x54, x55, x56, v57, (j 58), (j 59), (j 60), (j 61), (j 62), (j 63), (j 64), (j 65), (j 66), (j 67), (j 68), (j 69), (j 70), (j 71), x72, x73, x74, x75, x76, x77, x78, x79, x80, x81, x82, x83]
theorem t26_1_1_1_1_1_0_1_0_0 (K : Kont) (E : PanK) (k1 : Env → Hp → Prop) (x0 x1 x2 x3 x4 x5 x6 x7 x8 x9 x11 x12 x13 x14 x16 x17 x18 x19 x20 x21 x22 x23 x24 x25 x26 x27 x28 x29 x30 x31 x32 x33 x34 x35 x36 x37 x38 x39 x40 x41 x42 x43 x44 x45 x46 x47 x48 x49 x50 x51 x52 x53 x54 x55 x56 x72 x73 x74 x75 x76 x77 x78 x79 x80 x81 x82 x83 v10 v57 : Value) (j : Nat → Value) : den Tryz.prog (sel (bodyOf Tryz.f26) [1, 1, 1, 1, 1, 0, 1, 0, 0]) (thenD k1 (blk 2 (thenD (den Tryz.prog (sel (bodyOf Tryz.f26) [1, 1, 1, 1, 1, 1]) (bodyQ Tryz.prog Tryz.f26.results.toList K E)) (bodyQ Tryz.prog Tryz.f26.results.toList K E)))) (m26_1_1_1_1_1_0_1_0_0 x0 x1 x2 x3 x4 x5 x6 x7 x8 x9 x11 x12 x13 x14 x16 x17 x18 x19 x20 x21 x22 x23 x24 x25 x26 x27 x28 x29 x30 x31 x32 x33 x34 x35 x36 x37 x38 x39 x40 x41 x42 x43 x44 x45 x46 x47 x48 x49 x50 x51 x52 x53 x54 x55 x56 x72 x73 x74 x75 x76 x77 x78 x79 x80 x81 x82 x83 v10 v57 j) =
  pv (binV .none .lss v57 x56) fun t1 =>
  cnd t1 (
    pv (iaV none 2 x55 v57) fun t2 =>
    ld true 2 t2 fun t3 =>
    nw 52 [(.int .u32 0), (.slice none 0 0)] fun t4 =>
    st 2 t4 t3 fun _ =>
    pv (faV 1 t4) fun t5 =>
    ld false 1 t5 fun t6 =>
    pv (lenV t6) fun t7 =>
    pv (binV .none .gtr t7 (.int .i64 0)) fun t8 =>
    cnd t8 (
      pv (faV 0 t4) fun t9 =>
      ld false 1 t9 fun t10 =>
      pv (faV 1 t4) fun t11 =>
      ld false 1 t11 fun t12 =>
      callv Tryz.prog (.func (.func 35) #[] #[]) #[v10, t10, t12] (fun t13 =>
      den Tryz.prog (sel (bodyOf Tryz.f26) [1, 1, 1, 1, 1, 0, 1, 0, 0, 1, 1, 1]) (thenD k1 (blk 2 (thenD (den Tryz.prog (sel (bodyOf Tryz.f26) [1, 1, 1, 1, 1, 1]) (bodyQ Tryz.prog Tryz.f26.results.toList K E)) (bodyQ Tryz.prog Tryz.f26.results.toList K E)))) #[x0, x1, x2, x3, x4, x5, x6, x7, x8, x9, t13, x11, x12, x13, x14, t4, x16, x17, x18, x19, x20, x21, x22, x23, x24, x25, x26, x27, x28, x29, x30, x31, x32, x33, x34, x35, x36, x37, x38, x39, x40, x41, x42, x43, x44, x45, x46, x47, x48, x49, x50, x51, x52, x53, x54, x55, x56, v57, t1, t2, t3, t5, t6, t7, t8, v10, t9, t10, t11, t12, t13, (j 71), x72, x73, x74, x75, x76, x77, x78, x79, x80, x81, x82, x83]) E) (
      den Tryz.prog (sel (bodyOf Tryz.f26) [1, 1, 1, 1, 1, 0, 1, 0, 0, 1, 1, 1]) (thenD k1 (blk 2 (thenD (den Tryz.prog (sel (bodyOf Tryz.f26) [1, 1, 1, 1, 1, 1]) (bodyQ Tryz.prog Tryz.f26.results.toList K E)) (bodyQ Tryz.prog Tryz.f26.results.toList K E)))) #[x0, x1, x2, x3, x4, x5, x6, x7, x8, x9, v10, x11, x12, x13, x14, t4, x16, x17, x18, x19, x20, x21, x22, x23, x24, x25, x26, x27, x28, x29, x30, x31, x32, x33, x34, x35, x36, x37, x38, x39, x40, x41, x42, x43, x44, x45, x46, x47, x48, x49, x50, x51, x52, x53, x54, x55, x56, v57, t1, t2, t3, t5, t6, t7, t8, (j 65), (j 66), (j 67), (j 68), (j 69), (j 70), (j 71), x72, x73, x74, x75, x76, x77, x78, x79, x80, x81, x82, x83])) (
    den Tryz.prog (sel (bodyOf Tryz.f26) [1, 1, 1, 1, 1, 1]) (bodyQ Tryz.prog Tryz.f26.results.toList K E) #[x0, x1, x2, x3, x4, x5, x6, x7, x8, x9, v10, x11, x12, x13, x14, (j 15), x16, x17, x18, x19, x20, x21, x22, x23, x24, x25, x26, x27, x28, x29, x30, x31, x32, x33, x34, x35, x36, x37, x38, x39, x40, x41, x42, x43, x44, x45, x46, x47, x48, x49, x50, x51, x52, x53, x54, x55, x56, v57, t1, (j 59), (j 60), (j 61), (j 62), (j 63), (j 64), (j 65), (j 66), (j 67), (j 68), (j 69), (j 70), (j 71), x72, x73, x74, x75, x76, x77, x78, x79, x80, x81, x82, x83]) := by kernel_rfl
theorem t26_1_1_1_1_1_1 (K : Kont) (E : PanK) (x0 x1 x2 x3 x4 x5 x6 x7 x8 x9 x10 x11 x12 x13 x14 x15 x16 x17 x18 x19 x20 x21 x22 x23 x24 x25 x26 x27 x28 x29 x30 x31 x32 x33 x34 x35 x36 x37 x38 x39 x40 x41 x42 x43 x44 x45 x46 x47 x48 x49 x50 x51 x52 x53 x54 x55 x56 x57 x58 x59 x60 x61 x62 x63 x64 x65 x66 x67 x68 x69 x70 x71 x72 x73 x74 x75 x76 x77 x78 x79 x80 x81 x82 x83 : Value)  : den Tryz.prog (sel (bodyOf Tryz.f26) [1, 1, 1, 1, 1, 1]) (bodyQ Tryz.prog Tryz.f26.results.toList K E) #[x0, x1, x2, x3, x4, x5, x6, x7, x8, x9, x10, x11, x12, x13, x14, x15, x16, x17, x18, x19, x20, x21, x22, x23, x24, x25, x26, x27, x28, x29, x30, x31, x32, x33, x34, x35, x36, x37, x38, x39, x40, x41, x42, x43, x44, x45, x46, x47, x48, x49, x50, x51, x52, x53, x54, x55, x56, x57, x58, x59, x60, x61, x62, x63, x64, x65, x66, x67, x68, x69, x70, x71, x72, x73, x74, x75, x76, x77, x78, x79, x80, x81, x82, x83] =
  pv (lenV x10) fun t1 =>
  pv (binV .none .gtr t1 (.int .i64 5000)) fun t2 =>
  gdK t2 false (fun k => k x10) fun t3 =>
  gdK t2 false (fun k => k (.func (.func 51) #[] #[])) fun t4 =>
  gdK t2 false (fun k => callv Tryz.prog (.func (.func 52) #[] #[]) #[t3, t4] k E) fun t5 =>
  pv (pickV t2 (.bool true) t5) fun t6 =>
  cnd t6 (
    K (.int .u16 3)) (
    pv (nilV x0) fun t7 =>
    pv (faV 0 t7) fun t8 =>
    st 1 t8 x10 fun _ =>
    K (.int .u16 0)) := by kernel_rfl
theorem t26_1_1_1_1_1_0_1_0_0_1_1_1 (K : Kont) (E : PanK) (k1 : Env → Hp → Prop) (x0 x1 x2 x3 x4 x5 x6 x7 x8 x9 x10 x11 x12 x13 x14 x15 x16 x17 x18 x19 x20 x21 x22 x23 x24 x25 x26 x27 x28 x29 x30 x31 x32 x33 x34 x35 x36 x37 x38 x39 x40 x41 x42 x43 x44 x45 x46 x47 x48 x49 x50 x51 x52 x53 x54 x55 x56 x57 x58 x59 x60 x61 x62 x63 x64 x65 x66 x67 x68 x69 x70 x71 x72 x73 x74 x75 x76 x77 x78 x79 x80 x81 x82 x83 : Value)  : den Tryz.prog (sel (bodyOf Tryz.f26) [1, 1, 1, 1, 1, 0, 1, 0, 0, 1, 1, 1]) (thenD k1 (blk 2 (thenD (den Tryz.prog (sel (bodyOf Tryz.f26) [1, 1, 1, 1, 1, 1]) (bodyQ Tryz.prog Tryz.f26.results.toList K E)) (bodyQ Tryz.prog Tryz.f26.results.toList K E)))) #[x0, x1, x2, x3, x4, x5, x6, x7, x8, x9, x10, x11, x12, x13, x14, x15, x16, x17, x18, x19, x20, x21, x22, x23, x24, x25, x26, x27, x28, x29, x30, x31, x32, x33, x34, x35, x36, x37, x38, x39, x40, x41, x42, x43, x44, x45, x46, x47, x48, x49, x50, x51, x52, x53, x54, x55, x56, x57, x58, x59, x60, x61, x62, x63, x64, x65, x66, x67, x68, x69, x70, x71, x72, x73, x74, x75, x76, x77, x78, x79, x80, x81, x82, x83] =
  pv (binV .none .add x57 (.int .i64 1)) fun t1 =>
  k1 (m26_1_1_1_1_1_0_1_0_0 x0 x1 x2 x3 x4 x5 x6 x7 x8 x9 x11 x12 x13 x14 x16 x17 x18 x19 x20 x21 x22 x23 x24 x25 x26 x27 x28 x29 x30 x31 x32 x33 x34 x35 x36 x37 x38 x39 x40 x41 x42 x43 x44 x45 x46 x47 x48 x49 x50 x51 x52 x53 x54 x55 x56 x72 x73 x74 x75 x76 x77 x78 x79 x80 x81 x82 x83 x10 t1 (jf #[x0, x1, x2, x3, x4, x5, x6, x7, x8, x9, x10, x11, x12, x13, x14, x15, x16, x17, x18, x19, x20, x21, x22, x23, x24, x25, x26, x27, x28, x29, x30, x31, x32, x33, x34, x35, x36, x37, x38, x39, x40, x41, x42, x43, x44, x45, x46, x47, x48, x49, x50, x51, x52, x53, x54, x55, x56, t1, x58, x59, x60, x61, x62, x63, x64, x65, x66, x67, x68, x69, x70, t1, x72, x73, x74, x75, x76, x77, x78, x79, x80, x81, x82, x83])) := by kernel_rfl
theorem l26_1_1_1_1_0_1_0_0 {K : Kont} {E : PanK} {σ : Type} {x0 x1 x2 x3 x4 x5 x6 x7 x8 x9 x11 x14 x15 x16 x17 x18 x19 x20 x21 x22 x23 x24 x25 x26 x27 x28 x29 x55 x56 x57 x58 x59 x60 x61 x62 x63 x64 x65 x66 x67 x68 x69 x70 x71 x72 x73 x74 x75 x76 x77 x78 x79 x80 x81 x82 x83 v10 v30 y12 y13 y31 y32 y33 y34 y35 y36 y37 y38 y39 y40 y41 y42 y43 y44 y45 y46 y47 y48 y49 y50 y51 y52 y53 y54 : Value} {h : Hp} (f10 f30 : σ → Value) (I : σ → Hp → Prop) (μ : σ → Nat) (s0 : σ) (e10 : v10 = f10 s0) (e30 : v30 = f30 s0) (h0 : h.wf → ∃ h', h.wk h' ∧ I s0 h')
  (round : ∀ (k1 : Env → Hp → Prop) (s : σ) (j : Nat → Value) (h : Hp), I s h → h.wf → (∀ s' j' h', μ s' < μ s → (h'.wf → ∃ h'', h'.wk h'' ∧ I s' h'') → k1 (m26_1_1_1_1_0_1_0_0 x0 x1 x2 x3 x4 x5 x6 x7 x8 x9 x11 x14 x15 x16 x17 x18 x19 x20 x21 x22 x23 x24 x25 x26 x27 x28 x29 x55 x56 x57 x58 x59 x60 x61 x62 x63 x64 x65 x66 x67 x68 x69 x70 x71 x72 x73 x74 x75 x76 x77 x78 x79 x80 x81 x82 x83 (f10 s') (f30 s') j') h') → (
  pv (binV .none .lss (f30 s) x29) fun t1 =>
  cnd t1 (
    pv (iaV none 2 x28 (f30 s)) fun t2 =>
    ld true 2 t2 fun t3 =>
    nw 52 [(.int .u32 0), (.slice none 0 0)] fun t4 =>
    st 2 t4 t3 fun _ =>
    pv (faV 1 t4) fun t5 =>
    ld false 1 t5 fun t6 =>
    callv Tryz.prog (.func (.func 40) #[] #[]) #[t6, x9, (.bool false)] (fun t7 =>
    pv (lenV t7) fun t8 =>
    pv (binV .none .gtr t8 (.int .i64 0)) fun t9 =>
    gdK t9 false (fun k => pv (faV 1 t4) k) fun t10 =>
    gdK t9 false (fun k => ld false 1 t10 k) fun t11 =>
    gdK t9 false (fun k => pv (lenV t11) k) fun t12 =>
    gdK t9 false (fun k => pv (binV .none .eql t12 (.int .i64 0)) k) fun t13 =>
    pv (pickV t9 (.bool true) t13) fun t14 =>
    cnd t14 (
      pv (faV 0 t4) fun t15 =>
      ld false 1 t15 fun t16 =>
      pv (bdC #[(.int .u32 0), (.slice none 0 0)] [(0, 1), (1, 1)] #[(0, t16), (1, t7)]) fun t17 =>
      nws 52 1 (bsC #[(.int .u32 0), (.slice none 0 0)] 2 1 #[(0, t17)]) fun t18 =>
      appX 52 2 32 (f10 s) t18 fun t19 =>
      den Tryz.prog (sel (bodyOf Tryz.f26) [1, 1, 1, 1, 0, 1, 0, 0, 1, 1, 1]) (thenD k1 (blk 0 (thenD (den Tryz.prog (sel (bodyOf Tryz.f26) [1, 1, 1, 1, 1]) (bodyQ Tryz.prog Tryz.f26.results.toList K E)) (bodyQ Tryz.prog Tryz.f26.results.toList K E)))) #[x0, x1, x2, x3, x4, x5, x6, x7, x8, x9, t19, x11, t4, t7, x14, x15, x16, x17, x18, x19, x20, x21, x22, x23, x24, x25, x26, x27, x28, x29, (f30 s), t1, t2, t3, t5, t6, x9, t7, t7, t8, t9, t9, t10, t11, t12, t13, t14, (f10 s), t15, t16, t7, t17, t18, t19, (j 54), x55, x56, x57, x58, x59, x60, x61, x62, x63, x64, x65, x66, x67, x68, x69, x70, x71, x72, x73, x74, x75, x76, x77, x78, x79, x80, x81, x82, x83]) (
      den Tryz.prog (sel (bodyOf Tryz.f26) [1, 1, 1, 1, 0, 1, 0, 0, 1, 1, 1]) (thenD k1 (blk 0 (thenD (den Tryz.prog (sel (bodyOf Tryz.f26) [1, 1, 1, 1, 1]) (bodyQ Tryz.prog Tryz.f26.results.toList K E)) (bodyQ Tryz.prog Tryz.f26.results.toList K E)))) #[x0, x1, x2, x3, x4, x5, x6, x7, x8, x9, (f10 s), x11, t4, t7, x14, x15, x16, x17, x18, x19, x20, x21, x22, x23, x24, x25, x26, x27, x28, x29, (f30 s), t1, t2, t3, t5, t6, x9, t7, t7, t8, t9, t9, t10, t11, t12, t13, t14, (j 47), (j 48), (j 49), (j 50), (j 51), (j 52), (j 53), (j 54), x55, x56, x57, x58, x59, x60, x61, x62, x63, x64, x65, x66, x67, x68, x69, x70, x71, x72, x73, x74, x75, x76, x77, x78, x79, x80, x81, x82, x83])) E) (
    den Tryz.prog (sel (bodyOf Tryz.f26) [1, 1, 1, 1, 1]) (bodyQ Tryz.prog Tryz.f26.results.toList K E) #[x0, x1, x2, x3, x4, x5, x6, x7, x8, x9, (f10 s), x11, (j 12), (j 13), x14, x15, x16, x17, x18, x19, x20, x21, x22, x23, x24, x25, x26, x27, x28, x29, (f30 s), t1, (j 32), (j 33), (j 34), (j 35), (j 36), (j 37), (j 38), (j 39), (j 40), (j 41), (j 42), (j 43), (j 44), (j 45), (j 46), (j 47), (j 48), (j 49), (j 50), (j 51), (j 52), (j 53), (j 54), x55, x56, x57, x58, x59, x60, x61, x62, x63, x64, x65, x66, x67, x68, x69, x70, x71, x72, x73, x74, x75, x76, x77, x78, x79, x80, x81, x82, x83])) h) :
  lp (fun k1 => den Tryz.prog (sel (bodyOf Tryz.f26) [1, 1, 1, 1, 0, 1, 0, 0]) (thenD k1 (blk 0 (thenD (den Tryz.prog (sel (bodyOf Tryz.f26) [1, 1, 1, 1, 1]) (bodyQ Tryz.prog Tryz.f26.results.toList K E)) (bodyQ Tryz.prog Tryz.f26.results.toList K E))))) #[x0, x1, x2, x3, x4, x5, x6, x7, x8, x9, v10, x11, y12, y13, x14, x15, x16, x17, x18, x19, x20, x21, x22, x23, x24, x25, x26, x27, x28, x29, v30, y31, y32, y33, y34, y35, y36, y37, y38, y39, y40, y41, y42, y43, y44, y45, y46, y47, y48, y49, y50, y51, y52, y53, y54, x55, x56, x57, x58, x59, x60, x61, x62, x63, x64, x65, x66, x67, x68, x69, x70, x71, x72, x73, x74, x75, x76, x77, x78, x79, x80, x81, x82, x83] h := by
  subst e10
  subst e30
  have e : (#[x0, x1, x2, x3, x4, x5, x6, x7, x8, x9, (f10 s0), x11, y12, y13, x14, x15, x16, x17, x18, x19, x20, x21, x22, x23, x24, x25, x26, x27, x28, x29, (f30 s0), y31, y32, y33, y34, y35, y36, y37, y38, y39, y40, y41, y42, y43, y44, y45, y46, y47, y48, y49, y50, y51, y52, y53, y54, x55, x56, x57, x58, x59, x60, x61, x62, x63, x64, x65, x66, x67, x68, x69, x70, x71, x72, x73, x74, x75, x76, x77, x78, x79, x80, x81, x82, x83] : Env) = m26_1_1_1_1_0_1_0_0 x0 x1 x2 x3 x4 x5 x6 x7 x8 x9 x11 x14 x15 x16 x17 x18 x19 x20 x21 x22 x23 x24 x25 x26 x27 x28 x29 x55 x56 x57 x58 x59 x60 x61 x62 x63 x64 x65 x66 x67 x68 x69 x70 x71 x72 x73 x74 x75 x76 x77 x78 x79 x80 x81 x82 x83 (f10 s0) (f30 s0) (jf #[x0, x1, x2, x3, x4, x5, x6, x7, x8, x9, (f10 s0), x11, y12, y13, x14, x15, x16, x17, x18, x19, x20, x21, x22, x23, x24, x25, x26, x27, x28, x29, (f30 s0), y31, y32, y33, y34, y35, y36, y37, y38, y39, y40, y41, y42, y43, y44, y45, y46, y47, y48, y49, y50, y51, y52, y53, y54, x55, x56, x57, x58, x59, x60, x61, x62, x63, x64, x65, x66, x67, x68, x69, x70, x71, x72, x73, x74, x75, x76, x77, x78, x79, x80, x81, x82, x83]) := by kernel_rfl
  rw [e]
  exact loop_r (fun s j => m26_1_1_1_1_0_1_0_0 x0 x1 x2 x3 x4 x5 x6 x7 x8 x9 x11 x14 x15 x16 x17 x18 x19 x20 x21 x22 x23 x24 x25 x26 x27 x28 x29 x55 x56 x57 x58 x59 x60 x61 x62 x63 x64 x65 x66 x67 x68 x69 x70 x71 x72 x73 x74 x75 x76 x77 x78 x79 x80 x81 x82 x83 (f10 s) (f30 s) j) I μ (fun k s j h hI hw next => by rw [t26_1_1_1_1_0_1_0_0]; exact round k s j h hI hw next) s0 (jf #[x0, x1, x2, x3, x4, x5, x6, x7, x8, x9, (f10 s0), x11, y12, y13, x14, x15, x16, x17, x18, x19, x20, x21, x22, x23, x24, x25, x26, x27, x28, x29, (f30 s0), y31, y32, y33, y34, y35, y36, y37, y38, y39, y40, y41, y42, y43, y44, y45, y46, y47, y48, y49, y50, y51, y52, y53, y54, x55, x56, x57, x58, x59, x60, x61, x62, x63, x64, x65, x66, x67, x68, x69, x70, x71, x72, x73, x74, x75, x76, x77, x78, x79, x80, x81, x82, x83]) h0
theorem l26_1_1_1_1_1_0_1_0_0 {K : Kont} {E : PanK} {σ : Type} {x0 x1 x2 x3 x4 x5 x6 x7 x8 x9 x11 x12 x13 x14 x16 x17 x18 x19 x20 x21 x22 x23 x24 x25 x26 x27 x28 x29 x30 x31 x32 x33 x34 x35 x36 x37 x38 x39 x40 x41 x42 x43 x44 x45 x46 x47 x48 x49 x50 x51 x52 x53 x54 x55 x56 x72 x73 x74 x75 x76 x77 x78 x79 x80 x81 x82 x83 v10 v57 y15 y58 y59 y60 y61 y62 y63 y64 y65 y66 y67 y68 y69 y70 y71 : Value} {h : Hp} (f10 f57 : σ → Value) (I : σ → Hp → Prop) (μ : σ → Nat) (s0 : σ) (e10 : v10 = f10 s0) (e57 : v57 = f57 s0) (h0 : h.wf → ∃ h', h.wk h' ∧ I s0 h')
  (round : ∀ (k1 : Env → Hp → Prop) (s : σ) (j : Nat → Value) (h : Hp), I s h → h.wf → (∀ s' j' h', μ s' < μ s → (h'.wf → ∃ h'', h'.wk h'' ∧ I s' h'') → k1 (m26_1_1_1_1_1_0_1_0_0 x0 x1 x2 x3 x4 x5 x6 x7 x8 x9 x11 x12 x13 x14 x16 x17 x18 x19 x20 x21 x22 x23 x24 x25 x26 x27 x28 x29 x30 x31 x32 x33 x34 x35 x36 x37 x38 x39 x40 x41 x42 x43 x44 x45 x46 x47 x48 x49 x50 x51 x52 x53 x54 x55 x56 x72 x73 x74 x75 x76 x77 x78 x79 x80 x81 x82 x83 (f10 s') (f57 s') j') h') → (
  pv (binV .none .lss (f57 s) x56) fun t1 =>
  cnd t1 (
    pv (iaV none 2 x55 (f57 s)) fun t2 =>
    ld true 2 t2 fun t3 =>
    nw 52 [(.int .u32 0), (.slice none 0 0)] fun t4 =>
    st 2 t4 t3 fun _ =>
    pv (faV 1 t4) fun t5 =>
    ld false 1 t5 fun t6 =>
    pv (lenV t6) fun t7 =>
    pv (binV .none .gtr t7 (.int .i64 0)) fun t8 =>
    cnd t8 (
      pv (faV 0 t4) fun t9 =>
      ld false 1 t9 fun t10 =>
      pv (faV 1 t4) fun t11 =>
      ld false 1 t11 fun t12 =>
      callv Tryz.prog (.func (.func 35) #[] #[]) #[(f10 s), t10, t12] (fun t13 =>
      den Tryz.prog (sel (bodyOf Tryz.f26) [1, 1, 1, 1, 1, 0, 1, 0, 0, 1, 1, 1]) (thenD k1 (blk 2 (thenD (den Tryz.prog (sel (bodyOf Tryz.f26) [1, 1, 1, 1, 1, 1]) (bodyQ Tryz.prog Tryz.f26.results.toList K E)) (bodyQ Tryz.prog Tryz.f26.results.toList K E)))) #[x0, x1, x2, x3, x4, x5, x6, x7, x8, x9, t13, x11, x12, x13, x14, t4, x16, x17, x18, x19, x20, x21, x22, x23, x24, x25, x26, x27, x28, x29, x30, x31, x32, x33, x34, x35, x36, x37, x38, x39, x40, x41, x42, x43, x44, x45, x46, x47, x48, x49, x50, x51, x52, x53, x54, x55, x56, (f57 s), t1, t2, t3, t5, t6, t7, t8, (f10 s), t9, t10, t11, t12, t13, (j 71), x72, x73, x74, x75, x76, x77, x78, x79, x80, x81, x82, x83]) E) (
      den Tryz.prog (sel (bodyOf Tryz.f26) [1, 1, 1, 1, 1, 0, 1, 0, 0, 1, 1, 1]) (thenD k1 (blk 2 (thenD (den Tryz.prog (sel (bodyOf Tryz.f26) [1, 1, 1, 1, 1, 1]) (bodyQ Tryz.prog Tryz.f26.results.toList K E)) (bodyQ Tryz.prog Tryz.f26.results.toList K E)))) #[x0, x1, x2, x3, x4, x5, x6, x7, x8, x9, (f10 s), x11, x12, x13, x14, t4, x16, x17, x18, x19, x20, x21, x22, x23, x24, x25, x26, x27, x28, x29, x30, x31, x32, x33, x34, x35, x36, x37, x38, x39, x40, x41, x42, x43, x44, x45, x46, x47, x48, x49, x50, x51, x52, x53, x54, x55, x56, (f57 s), t1, t2, t3, t5, t6, t7, t8, (j 65), (j 66), (j 67), (j 68), (j 69), (j 70), (j 71), x72, x73, x74, x75, x76, x77, x78, x79, x80, x81, x82, x83])) (
    den Tryz.prog (sel (bodyOf Tryz.f26) [1, 1, 1, 1, 1, 1]) (bodyQ Tryz.prog Tryz.f26.results.toList K E) #[x0, x1, x2, x3, x4, x5, x6, x7, x8, x9, (f10 s), x11, x12, x13, x14, (j 15), x16, x17, x18, x19, x20, x21, x22, x23, x24, x25, x26, x27, x28, x29, x30, x31, x32, x33, x34, x35, x36, x37, x38, x39, x40, x41, x42, x43, x44, x45, x46, x47, x48, x49, x50, x51, x52, x53, x54, x55, x56, (f57 s), t1, (j 59), (j 60), (j 61), (j 62), (j 63), (j 64), (j 65), (j 66), (j 67), (j 68), (j 69), (j 70), (j 71), x72, x73, x74, x75, x76, x77, x78, x79, x80, x81, x82, x83])) h) :
  lp (fun k1 => den Tryz.prog (sel (bodyOf Tryz.f26) [1, 1, 1, 1, 1, 0, 1, 0, 0]) (thenD k1 (blk 2 (thenD (den Tryz.prog (sel (bodyOf Tryz.f26) [1, 1, 1, 1, 1, 1]) (bodyQ Tryz.prog Tryz.f26.results.toList K E)) (bodyQ Tryz.prog Tryz.f26.results.toList K E))))) #[x0, x1, x2, x3, x4, x5, x6, x7, x8, x9, v10, x11, x12, x13, x14, y15, x16, x17, x18, x19, x20, x21, x22, x23, x24, x25, x26, x27, x28, x29, x30, x31, x32, x33, x34, x35, x36, x37, x38, x39, x40, x41, x42, x43, x44, x45, x46, x47, x48, x49, x50, x51, x52, x53, x54, x55, x56, v57, y58, y59, y60, y61, y62, y63, y64, y65, y66, y67, y68, y69, y70, y71, x72, x73, x74, x75, x76, x77, x78, x79, x80, x81, x82, x83] h := by
  subst e10
  subst e57
  have e : (#[x0, x1, x2, x3, x4, x5, x6, x7, x8, x9, (f10 s0), x11, x12, x13, x14, y15, x16, x17, x18, x19, x20, x21, x22, x23, x24, x25, x26, x27, x28, x29, x30, x31, x32, x33, x34, x35, x36, x37, x38, x39, x40, x41, x42, x43, x44, x45, x46, x47, x48, x49, x50, x51, x52, x53, x54, x55, x56, (f57 s0), y58, y59, y60, y61, y62, y63, y64, y65, y66, y67, y68, y69, y70, y71, x72, x73, x74, x75, x76, x77, x78, x79, x80, x81, x82, x83] : Env) = m26_1_1_1_1_1_0_1_0_0 x0 x1 x2 x3 x4 x5 x6 x7 x8 x9 x11 x12 x13 x14 x16 x17 x18 x19 x20 x21 x22 x23 x24 x25 x26 x27 x28 x29 x30 x31 x32 x33 x34 x35 x36 x37 x38 x39 x40 x41 x42 x43 x44 x45 x46 x47 x48 x49 x50 x51 x52 x53 x54 x55 x56 x72 x73 x74 x75 x76 x77 x78 x79 x80 x81 x82 x83 (f10 s0) (f57 s0) (jf #[x0, x1, x2, x3, x4, x5, x6, x7, x8, x9, (f10 s0), x11, x12, x13, x14, y15, x16, x17, x18, x19, x20, x21, x22, x23, x24, x25, x26, x27, x28, x29, x30, x31, x32, x33, x34, x35, x36, x37, x38, x39, x40, x41, x42, x43, x44, x45, x46, x47, x48, x49, x50, x51, x52, x53, x54, x55, x56, (f57 s0), y58, y59, y60, y61, y62, y63, y64, y65, y66, y67, y68, y69, y70, y71, x72, x73, x74, x75, x76, x77, x78, x79, x80, x81, x82, x83]) := by kernel_rfl
  rw [e]
  exact loop_r (fun s j => m26_1_1_1_1_1_0_1_0_0 x0 x1 x2 x3 x4 x5 x6 x7 x8 x9 x11 x12 x13 x14 x16 x17 x18 x19 x20 x21 x22 x23 x24 x25 x26 x27 x28 x29 x30 x31 x32 x33 x34 x35 x36 x37 x38 x39 x40 x41 x42 x43 x44 x45 x46 x47 x48 x49 x50 x51 x52 x53 x54 x55 x56 x72 x73 x74 x75 x76 x77 x78 x79 x80 x81 x82 x83 (f10 s) (f57 s) j) I μ (fun k s j h hI hw next => by rw [t26_1_1_1_1_1_0_1_0_0]; exact round k s j h hI hw next) s0 (jf #[x0, x1, x2, x3, x4, x5, x6, x7, x8, x9, (f10 s0), x11, x12, x13, x14, y15, x16, x17, x18, x19, x20, x21, x22, x23, x24, x25, x26, x27, x28, x29, x30, x31, x32, x33, x34, x35, x36, x37, x38, x39, x40, x41, x42, x43, x44, x45, x46, x47, x48, x49, x50, x51, x52, x53, x54, x55, x56, (f57 s0), y58, y59, y60, y61, y62, y63, y64, y65, y66, y67, y68, y69, y70, y71, x72, x73, x74, x75, x76, x77, x78, x79, x80, x81, x82, x83]) h0

theorem t40 (K : Kont) (E : PanK) (x0 x1 x2 : Value)  : den Tryz.prog (sel (bodyOf Tryz.f40) []) (bodyQ Tryz.prog Tryz.f40.results.toList K E) #[x0, x1, x2, undef, undef, undef, undef, undef, undef, undef, undef] =
  nw 98 (Value.cells x1).toList fun t1 =>
  nw 4 (Value.cells x2).toList fun t2 =>
  callv Tryz.prog (.func (.func 66) #[] #[]) #[x0] (fun t3 =>
  callv Tryz.prog (.func (.func 77) #[] #[]) #[t3, (.func (.func 78) #[] #[t1, t2])] (fun t4 =>
  K t4) E) E := by kernel_rfl

theorem t41 (K : Kont) (E : PanK) (x0 x1 : Value)  : den Tryz.prog (sel (bodyOf Tryz.f41) []) (bodyQ Tryz.prog Tryz.f41.results.toList K E) #[x0, x1, undef, undef, undef, undef] =
  nw 3 (Value.cells x0).toList fun t1 =>
  nw 3 (Value.cells x1).toList fun t2 =>
  K (.func (.func 79) #[] #[t1, t2]) := by kernel_rfl

theorem t50 (K : Kont) (E : PanK) (x0 x1 x2 : Value)  : den Tryz.prog (sel (bodyOf Tryz.f50) []) (bodyQ Tryz.prog Tryz.f50.results.toList K E) #[x0, x1, x2, undef, undef, undef, undef, undef, undef, undef, undef, undef, undef, undef, undef, undef, undef, undef, undef, undef, undef, undef, undef, undef, undef, undef, undef, undef, undef, undef, undef, undef, undef, undef, undef, undef, undef, undef] =
  pv (lenV x2) fun t1 =>
  lp (fun k1 => den Tryz.prog (sel (bodyOf Tryz.f50) [1, 1, 0, 1, 0, 0]) (thenD k1 (blk 0 (thenD (den Tryz.prog (sel (bodyOf Tryz.f50) [1, 1, 1]) (bodyQ Tryz.prog Tryz.f50.results.toList K E)) (bodyQ Tryz.prog Tryz.f50.results.toList K E))))) #[x0, x1, x2, undef, undef, undef, (.bool false), (.int .u32 0), undef, undef, x2, t1, (.int .i64 0), undef, undef, undef, undef, undef, undef, undef, undef, undef, undef, undef, undef, undef, undef, undef, undef, undef, undef, undef, undef, undef, undef, undef, undef, undef] := by kernel_rfl
def m50_1_1_0_1_0_0 (x0 x1 x2 x3 x4 x5 x8 x10 x11 : Value) (v7 v12 : Value) (j : Nat → Value) : Env := #[x0, x1, x2, x3, x4, x5, (j 6), v7, x8, (j 9), x10, x11, v12, (j 13), (j 14), (j 15), (j 16), (j 17), (j 18), (j 19), (j 20), (j 21), (j 22), (j 23), (j 24), (j 25), (j 26), (j 27), (j 28), (j 29), (j 30), (j 31), (j 32), (j 33), (j 34), (j 35), (j 36), (j 37)]
theorem t50_1_1_0_1_0_0 (K : Kont) (E : PanK) (k1 : Env → Hp → Prop) (x0 x1 x2 x3 x4 x5 x8 x10 x11 v7 v12 : Value) (j : Nat → Value) : den Tryz.prog (sel (bodyOf Tryz.f50) [1, 1, 0, 1, 0, 0]) (thenD k1 (blk 0 (thenD (den Tryz.prog (sel (bodyOf Tryz.f50) [1, 1, 1]) (bodyQ Tryz.prog Tryz.f50.results.toList K E)) (bodyQ Tryz.prog Tryz.f50.results.toList K E)))) (m50_1_1_0_1_0_0 x0 x1 x2 x3 x4 x5 x8 x10 x11 v7 v12 j) =
  pv (binV .none .lss v12 x11) fun t1 =>
  cnd t1 (
    pv (iaV none 2 x10 v12) fun t2 =>
    ld true 2 t2 fun t3 =>
    nw 52 [(.int .u32 0), (.slice none 0 0)] fun t4 =>
    st 2 t4 t3 fun _ =>
    pv (faV 0 t4) fun t5 =>
    ld false 1 t5 fun t6 =>
    pv (binV .none .leq t6 v7) fun t7 =>
    gdK t7 false (fun k => k x0) fun t8 =>
    gdK t7 false (fun k => pv (faV 1 t4) k) fun t9 =>
    gdK t7 false (fun k => ld false 1 t9 k) fun t10 =>
    gdK t7 false (fun k => callv Tryz.prog (.func (.func 34) #[] #[]) #[t8, t10] k E) fun t11 =>
    gdK t7 false (fun k => pv (unV .not t11) k) fun t12 =>
    pv (pickV t7 (.bool true) t12) fun t13 =>
    gdK t13 false (fun k => pv (faV 1 t4) k) fun t14 =>
    gdK t13 false (fun k => ld false 1 t14 k) fun t15 =>
    gdK t13 false (fun k => k x1) fun t16 =>
    gdK t13 false (fun k => callv Tryz.prog (.func (.func 40) #[] #[]) #[t15, t16, (.bool false)] k E) fun t17 =>
    gdK t13 false (fun k => pv (lenV t17) k) fun t18 =>
    gdK t13 false (fun k => pv (binV .none .gtr t18 (.int .i64 0)) k) fun t19 =>
    pv (pickV t13 (.bool true) t19) fun t20 =>
    cnd t20 (
      K (.bool false)) (
      pv (faV 0 t4) fun t21 =>
      ld false 1 t21 fun t22 =>
      pv (binV .none .add v12 (.int .i64 1)) fun t23 =>
      k1 (m50_1_1_0_1_0_0 x0 x1 x2 x3 x4 x5 x8 x10 x11 t22 t23 (jf #[x0, x1, x2, x3, x4, x5, (j 6), t22, x8, t4, x10, x11, t23, t1, t2, t3, t5, t6, v7, t7, t7, t8, t9, t10, t11, t12, t13, t13, t14, t15, t16, t17, t18, t19, t20, t21, t22, t23])))) (
    den Tryz.prog (sel (bodyOf Tryz.f50) [1, 1, 1]) (bodyQ Tryz.prog Tryz.f50.results.toList K E) #[x0, x1, x2, x3, x4, x5, (j 6), v7, x8, (j 9), x10, x11, v12, t1, (j 14), (j 15), (j 16), (j 17), (j 18), (j 19), (j 20), (j 21), (j 22), (j 23), (j 24), (j 25), (j 26), (j 27), (j 28), (j 29), (j 30), (j 31), (j 32), (j 33), (j 34), (j 35), (j 36), (j 37)]) := by kernel_rfl
theorem t50_1_1_1 (K : Kont) (E : PanK) (x0 x1 x2 x3 x4 x5 x6 x7 x8 x9 x10 x11 x12 x13 x14 x15 x16 x17 x18 x19 x20 x21 x22 x23 x24 x25 x26 x27 x28 x29 x30 x31 x32 x33 x34 x35 x36 x37 : Value)  : den Tryz.prog (sel (bodyOf Tryz.f50) [1, 1, 1]) (bodyQ Tryz.prog Tryz.f50.results.toList K E) #[x0, x1, x2, x3, x4, x5, x6, x7, x8, x9, x10, x11, x12, x13, x14, x15, x16, x17, x18, x19, x20, x21, x22, x23, x24, x25, x26, x27, x28, x29, x30, x31, x32, x33, x34, x35, x36, x37] =
  K (.bool true) := by kernel_rfl
theorem l50_1_1_0_1_0_0 {K : Kont} {E : PanK} {σ : Type} {x0 x1 x2 x3 x4 x5 x8 x10 x11 v7 v12 y6 y9 y13 y14 y15 y16 y17 y18 y19 y20 y21 y22 y23 y24 y25 y26 y27 y28 y29 y30 y31 y32 y33 y34 y35 y36 y37 : Value} {h : Hp} (f7 f12 : σ → Value) (I : σ → Hp → Prop) (μ : σ → Nat) (s0 : σ) (e7 : v7 = f7 s0) (e12 : v12 = f12 s0) (h0 : h.wf → ∃ h', h.wk h' ∧ I s0 h')
  (round : ∀ (k1 : Env → Hp → Prop) (s : σ) (j : Nat → Value) (h : Hp), I s h → h.wf → (∀ s' j' h', μ s' < μ s → (h'.wf → ∃ h'', h'.wk h'' ∧ I s' h'') → k1 (m50_1_1_0_1_0_0 x0 x1 x2 x3 x4 x5 x8 x10 x11 (f7 s') (f12 s') j') h') → (
  pv (binV .none .lss (f12 s) x11) fun t1 =>
  cnd t1 (
    pv (iaV none 2 x10 (f12 s)) fun t2 =>
    ld true 2 t2 fun t3 =>
    nw 52 [(.int .u32 0), (.slice none 0 0)] fun t4 =>
    st 2 t4 t3 fun _ =>
    pv (faV 0 t4) fun t5 =>
    ld false 1 t5 fun t6 =>
    pv (binV .none .leq t6 (f7 s)) fun t7 =>
    gdK t7 false (fun k => k x0) fun t8 =>
    gdK t7 false (fun k => pv (faV 1 t4) k) fun t9 =>
    gdK t7 false (fun k => ld false 1 t9 k) fun t10 =>
    gdK t7 false (fun k => callv Tryz.prog (.func (.func 34) #[] #[]) #[t8, t10] k E) fun t11 =>
    gdK t7 false (fun k => pv (unV .not t11) k) fun t12 =>
    pv (pickV t7 (.bool true) t12) fun t13 =>
    gdK t13 false (fun k => pv (faV 1 t4) k) fun t14 =>
    gdK t13 false (fun k => ld false 1 t14 k) fun t15 =>
    gdK t13 false (fun k => k x1) fun t16 =>
    gdK t13 false (fun k => callv Tryz.prog (.func (.func 40) #[] #[]) #[t15, t16, (.bool false)] k E) fun t17 =>
    gdK t13 false (fun k => pv (lenV t17) k) fun t18 =>
    gdK t13 false (fun k => pv (binV .none .gtr t18 (.int .i64 0)) k) fun t19 =>
    pv (pickV t13 (.bool true) t19) fun t20 =>
    cnd t20 (
      K (.bool false)) (
      pv (faV 0 t4) fun t21 =>
      ld false 1 t21 fun t22 =>
      pv (binV .none .add (f12 s) (.int .i64 1)) fun t23 =>
      k1 (m50_1_1_0_1_0_0 x0 x1 x2 x3 x4 x5 x8 x10 x11 t22 t23 (jf #[x0, x1, x2, x3, x4, x5, (j 6), t22, x8, t4, x10, x11, t23, t1, t2, t3, t5, t6, (f7 s), t7, t7, t8, t9, t10, t11, t12, t13, t13, t14, t15, t16, t17, t18, t19, t20, t21, t22, t23])))) (
    den Tryz.prog (sel (bodyOf Tryz.f50) [1, 1, 1]) (bodyQ Tryz.prog Tryz.f50.results.toList K E) #[x0, x1, x2, x3, x4, x5, (j 6), (f7 s), x8, (j 9), x10, x11, (f12 s), t1, (j 14), (j 15), (j 16), (j 17), (j 18), (j 19), (j 20), (j 21), (j 22), (j 23), (j 24), (j 25), (j 26), (j 27), (j 28), (j 29), (j 30), (j 31), (j 32), (j 33), (j 34), (j 35), (j 36), (j 37)])) h) :
  lp (fun k1 => den Tryz.prog (sel (bodyOf Tryz.f50) [1, 1, 0, 1, 0, 0]) (thenD k1 (blk 0 (thenD (den Tryz.prog (sel (bodyOf Tryz.f50) [1, 1, 1]) (bodyQ Tryz.prog Tryz.f50.results.toList K E)) (bodyQ Tryz.prog Tryz.f50.results.toList K E))))) #[x0, x1, x2, x3, x4, x5, y6, v7, x8, y9, x10, x11, v12, y13, y14, y15, y16, y17, y18, y19, y20, y21, y22, y23, y24, y25, y26, y27, y28, y29, y30, y31, y32, y33, y34, y35, y36, y37] h := by
  subst e7
  subst e12
  have e : (#[x0, x1, x2, x3, x4, x5, y6, (f7 s0), x8, y9, x10, x11, (f12 s0), y13, y14, y15, y16, y17, y18, y19, y20, y21, y22, y23, y24, y25, y26, y27, y28, y29, y30, y31, y32, y33, y34, y35, y36, y37] : Env) = m50_1_1_0_1_0_0 x0 x1 x2 x3 x4 x5 x8 x10 x11 (f7 s0) (f12 s0) (jf #[x0, x1, x2, x3, x4, x5, y6, (f7 s0), x8, y9, x10, x11, (f12 s0), y13, y14, y15, y16, y17, y18, y19, y20, y21, y22, y23, y24, y25, y26, y27, y28, y29, y30, y31, y32, y33, y34, y35, y36, y37]) := by kernel_rfl
  rw [e]
  exact loop_r (fun s j => m50_1_1_0_1_0_0 x0 x1 x2 x3 x4 x5 x8 x10 x11 (f7 s) (f12 s) j) I μ (fun k s j h hI hw next => by rw [t50_1_1_0_1_0_0]; exact round k s j h hI hw next) s0 (jf #[x0, x1, x2, x3, x4, x5, y6, (f7 s0), x8, y9, x10, x11, (f12 s0), y13, y14, y15, y16, y17, y18, y19, y20, y21, y22, y23, y24, y25, y26, y27, y28, y29, y30, y31, y32, y33, y34, y35, y36, y37]) h0

theorem t51 (K : Kont) (E : PanK) (x0 : Value)  : den Tryz.prog (sel (bodyOf Tryz.f51) []) (bodyQ Tryz.prog Tryz.f51.results.toList K E) #[x0, undef, undef, undef, undef, undef, undef] =
  nw 52 (Value.cells x0).toList fun t1 =>
  pv (faV 1 t1) fun t2 =>
  ld false 1 t2 fun t3 =>
  pv (lenV t3) fun t4 =>
  pv (binV .none .gtr t4 (.int .i64 200)) fun t5 =>
  K t5 := by kernel_rfl

theorem t52 (K : Kont) (E : PanK) (x0 x1 : Value)  : den Tryz.prog (sel (bodyOf Tryz.f52) []) (bodyQ Tryz.prog Tryz.f52.results.toList K E) #[x0, x1, undef, undef, undef, undef, undef, undef, undef] =
  callv Tryz.prog (.func (.func 91) #[] #[]) #[x0, x1] (fun t1 =>
  pv (binV .none .geq t1 (.int .i64 0)) fun t2 =>
  K t2) E := by kernel_rfl

theorem t65 (K : Kont) (E : PanK) (x0 : Value)  : den Tryz.prog (sel (bodyOf Tryz.f65) []) (bodyQ Tryz.prog Tryz.f65.results.toList K E) #[x0, undef, undef, undef, undef, undef, undef, undef, undef, undef, undef, undef, undef, undef, undef, undef, undef, undef, undef, undef, undef, undef, undef, undef, undef, undef, undef, undef, undef, undef, undef, undef, undef, undef, undef, undef] =
  pv (lenV x0) fun t1 =>
  lp (fun k1 => den Tryz.prog (sel (bodyOf Tryz.f65) [1, 1, 0, 1, 0, 0]) (thenD k1 (blk 0 (thenD (den Tryz.prog (sel (bodyOf Tryz.f65) [1, 1, 1]) (bodyQ Tryz.prog Tryz.f65.results.toList K E)) (bodyQ Tryz.prog Tryz.f65.results.toList K E))))) #[x0, undef, (.slice none 0 0), (.int .i64 0), undef, undef, undef, undef, undef, x0, t1, (.int .i64 0), undef, undef, undef, undef, undef, undef, undef, undef, undef, undef, undef, undef, undef, undef, undef, undef, undef, undef, undef, undef, undef, undef, undef, undef] := by kernel_rfl
def m65_1_1_0_1_0_0 (x0 x1 x2 x4 x6 x7 x8 x9 x10 x23 x24 x25 x26 x27 x28 x29 x30 x31 x32 x33 x34 x35 : Value) (v3 v11 : Value) (j : Nat → Value) : Env := #[x0, x1, x2, v3, x4, (j 5), x6, x7, x8, x9, x10, v11, (j 12), (j 13), (j 14), (j 15), (j 16), (j 17), (j 18), (j 19), (j 20), (j 21), (j 22), x23, x24, x25, x26, x27, x28, x29, x30, x31, x32, x33, x34, x35]
theorem t65_1_1_0_1_0_0 (K : Kont) (E : PanK) (k1 : Env → Hp → Prop) (x0 x1 x2 x4 x6 x7 x8 x9 x10 x23 x24 x25 x26 x27 x28 x29 x30 x31 x32 x33 x34 x35 v3 v11 : Value) (j : Nat → Value) : den Tryz.prog (sel (bodyOf Tryz.f65) [1, 1, 0, 1, 0, 0]) (thenD k1 (blk 0 (thenD (den Tryz.prog (sel (bodyOf Tryz.f65) [1, 1, 1]) (bodyQ Tryz.prog Tryz.f65.results.toList K E)) (bodyQ Tryz.prog Tryz.f65.results.toList K E)))) (m65_1_1_0_1_0_0 x0 x1 x2 x4 x6 x7 x8 x9 x10 x23 x24 x25 x26 x27 x28 x29 x30 x31 x32 x33 x34 x35 v3 v11 j) =
  pv (binV .none .lss v11 x10) fun t1 =>
  cnd t1 (
    pv (iaV none 1 x9 v11) fun t2 =>
    ld false 1 t2 fun t3 =>
    pv (lenV t3) fun t4 =>
    pv (binV .none .add v3 t4) fun t5 =>
    pv (binV .none .lss t5 (.int .i64 0)) fun t6 =>
    cnd t6 (
      pv (ifcV 9 (.string ⟨#[108, 101, 110, 32, 111, 117, 116, 32, 111, 102, 32, 114, 97, 110, 103, 101]⟩)) fun t7 =>
      pnc t7 E fun _ =>
      den Tryz.prog (sel (bodyOf Tryz.f65) [1, 1, 0, 1, 0, 0, 1, 1, 1]) (thenD k1 (blk 0 (thenD (den Tryz.prog (sel (bodyOf Tryz.f65) [1, 1, 1]) (bodyQ Tryz.prog Tryz.f65.results.toList K E)) (bodyQ Tryz.prog Tryz.f65.results.toList K E)))) #[x0, x1, x2, t5, x4, t3, x6, x7, x8, x9, x10, v11, t1, t2, t3, v3, t3, t4, t5, t5, t6, t7, (j 22), x23, x24, x25, x26, x27, x28, x29, x30, x31, x32, x33, x34, x35]) (
      den Tryz.prog (sel (bodyOf Tryz.f65) [1, 1, 0, 1, 0, 0, 1, 1, 1]) (thenD k1 (blk 0 (thenD (den Tryz.prog (sel (bodyOf Tryz.f65) [1, 1, 1]) (bodyQ Tryz.prog Tryz.f65.results.toList K E)) (bodyQ Tryz.prog Tryz.f65.results.toList K E)))) #[x0, x1, x2, t5, x4, t3, x6, x7, x8, x9, x10, v11, t1, t2, t3, v3, t3, t4, t5, t5, t6, (j 21), (j 22), x23, x24, x25, x26, x27, x28, x29, x30, x31, x32, x33, x34, x35])) (
    den Tryz.prog (sel (bodyOf Tryz.f65) [1, 1, 1]) (bodyQ Tryz.prog Tryz.f65.results.toList K E) #[x0, x1, x2, v3, x4, (j 5), x6, x7, x8, x9, x10, v11, t1, (j 13), (j 14), (j 15), (j 16), (j 17), (j 18), (j 19), (j 20), (j 21), (j 22), x23, x24, x25, x26, x27, x28, x29, x30, x31, x32, x33, x34, x35]) := by kernel_rfl
theorem t65_1_1_1 (K : Kont) (E : PanK) (x0 x1 x2 x3 x4 x5 x6 x7 x8 x9 x10 x11 x12 x13 x14 x15 x16 x17 x18 x19 x20 x21 x22 x23 x24 x25 x26 x27 x28 x29 x30 x31 x32 x33 x34 x35 : Value)  : den Tryz.prog (sel (bodyOf Tryz.f65) [1, 1, 1]) (bodyQ Tryz.prog Tryz.f65.results.toList K E) #[x0, x1, x2, x3, x4, x5, x6, x7, x8, x9, x10, x11, x12, x13, x14, x15, x16, x17, x18, x19, x20, x21, x22, x23, x24, x25, x26, x27, x28, x29, x30, x31, x32, x33, x34, x35] =
  callv Tryz.prog (.func (.func 97) #[] #[]) #[(.slice none 0 0), x3] (fun t1 =>
  pv (lenV x0) fun t2 =>
  lp (fun k1 => den Tryz.prog (sel (bodyOf Tryz.f65) [1, 1, 1, 1, 0, 1, 0, 0]) (thenD k1 (blk 2 (thenD (den Tryz.prog (sel (bodyOf Tryz.f65) [1, 1, 1, 1, 1]) (bodyQ Tryz.prog Tryz.f65.results.toList K E)) (bodyQ Tryz.prog Tryz.f65.results.toList K E))))) #[x0, x1, x2, x3, x4, x5, t1, x7, x8, x9, x10, x11, x12, x13, x14, x15, x16, x17, x18, x19, x20, x21, x22, x3, t1, x0, t2, (.int .i64 0), x28, x29, x30, x31, x32, x33, x34, x35]) E := by kernel_rfl
theorem t65_1_1_0_1_0_0_1_1_1 (K : Kont) (E : PanK) (k1 : Env → Hp → Prop) (x0 x1 x2 x3 x4 x5 x6 x7 x8 x9 x10 x11 x12 x13 x14 x15 x16 x17 x18 x19 x20 x21 x22 x23 x24 x25 x26 x27 x28 x29 x30 x31 x32 x33 x34 x35 : Value)  : den Tryz.prog (sel (bodyOf Tryz.f65) [1, 1, 0, 1, 0, 0, 1, 1, 1]) (thenD k1 (blk 0 (thenD (den Tryz.prog (sel (bodyOf Tryz.f65) [1, 1, 1]) (bodyQ Tryz.prog Tryz.f65.results.toList K E)) (bodyQ Tryz.prog Tryz.f65.results.toList K E)))) #[x0, x1, x2, x3, x4, x5, x6, x7, x8, x9, x10, x11, x12, x13, x14, x15, x16, x17, x18, x19, x20, x21, x22, x23, x24, x25, x26, x27, x28, x29, x30, x31, x32, x33, x34, x35] =
  pv (binV .none .add x11 (.int .i64 1)) fun t1 =>
  k1 (m65_1_1_0_1_0_0 x0 x1 x2 x4 x6 x7 x8 x9 x10 x23 x24 x25 x26 x27 x28 x29 x30 x31 x32 x33 x34 x35 x3 t1 (jf #[x0, x1, x2, x3, x4, x5, x6, x7, x8, x9, x10, t1, x12, x13, x14, x15, x16, x17, x18, x19, x20, x21, t1, x23, x24, x25, x26, x27, x28, x29, x30, x31, x32, x33, x34, x35])) := by kernel_rfl
def m65_1_1_1_1_0_1_0_0 (x0 x1 x2 x3 x4 x5 x7 x9 x10 x11 x12 x13 x14 x15 x16 x17 x18 x19 x20 x21 x22 x23 x24 x25 x26 x35 : Value) (v6 v27 : Value) (j : Nat → Value) : Env := #[x0, x1, x2, x3, x4, x5, v6, x7, (j 8), x9, x10, x11, x12, x13, x14, x15, x16, x17, x18, x19, x20, x21, x22, x23, x24, x25, x26, v27, (j 28), (j 29), (j 30), (j 31), (j 32), (j 33), (j 34), x35]
theorem t65_1_1_1_1_0_1_0_0 (K : Kont) (E : PanK) (k1 : Env → Hp → Prop) (x0 x1 x2 x3 x4 x5 x7 x9 x10 x11 x12 x13 x14 x15 x16 x17 x18 x19 x20 x21 x22 x23 x24 x25 x26 x35 v6 v27 : Value) (j : Nat → Value) : den Tryz.prog (sel (bodyOf Tryz.f65) [1, 1, 1, 1, 0, 1, 0, 0]) (thenD k1 (blk 2 (thenD (den Tryz.prog (sel (bodyOf Tryz.f65) [1, 1, 1, 1, 1]) (bodyQ Tryz.prog Tryz.f65.results.toList K E)) (bodyQ Tryz.prog Tryz.f65.results.toList K E)))) (m65_1_1_1_1_0_1_0_0 x0 x1 x2 x3 x4 x5 x7 x9 x10 x11 x12 x13 x14 x15 x16 x17 x18 x19 x20 x21 x22 x23 x24 x25 x26 x35 v6 v27 j) =
  pv (binV .none .lss v27 x26) fun t1 =>
  cnd t1 (
    pv (iaV none 1 x25 v27) fun t2 =>
    ld false 1 t2 fun t3 =>
    appX 48 2 32 v6 t3 fun t4 =>
    pv (binV .none .add v27 (.int .i64 1)) fun t5 =>
    k1 (m65_1_1_1_1_0_1_0_0 x0 x1 x2 x3 x4 x5 x7 x9 x10 x11 x12 x13 x14 x15 x16 x17 x18 x19 x20 x21 x22 x23 x24 x25 x26 x35 t4 t5 (jf #[x0, x1, x2, x3, x4, x5, t4, x7, t3, x9, x10, x11, x12, x13, x14, x15, x16, x17, x18, x19, x20, x21, x22, x23, x24, x25, x26, t5, t1, t2, t3, v6, t3, t4, t5, x35]))) (
    den Tryz.prog (sel (bodyOf Tryz.f65) [1, 1, 1, 1, 1]) (bodyQ Tryz.prog Tryz.f65.results.toList K E) #[x0, x1, x2, x3, x4, x5, v6, x7, (j 8), x9, x10, x11, x12, x13, x14, x15, x16, x17, x18, x19, x20, x21, x22, x23, x24, x25, x26, v27, t1, (j 29), (j 30), (j 31), (j 32), (j 33), (j 34), x35]) := by kernel_rfl
theorem t65_1_1_1_1_1 (K : Kont) (E : PanK) (x0 x1 x2 x3 x4 x5 x6 x7 x8 x9 x10 x11 x12 x13 x14 x15 x16 x17 x18 x19 x20 x21 x22 x23 x24 x25 x26 x27 x28 x29 x30 x31 x32 x33 x34 x35 : Value)  : den Tryz.prog (sel (bodyOf Tryz.f65) [1, 1, 1, 1, 1]) (bodyQ Tryz.prog Tryz.f65.results.toList K E) #[x0, x1, x2, x3, x4, x5, x6, x7, x8, x9, x10, x11, x12, x13, x14, x15, x16, x17, x18, x19, x20, x21, x22, x23, x24, x25, x26, x27, x28, x29, x30, x31, x32, x33, x34, x35] =
  K x6 := by kernel_rfl
theorem l65_1_1_0_1_0_0 {K : Kont} {E : PanK} {σ : Type} {x0 x1 x2 x4 x6 x7 x8 x9 x10 x23 x24 x25 x26 x27 x28 x29 x30 x31 x32 x33 x34 x35 v3 v11 y5 y12 y13 y14 y15 y16 y17 y18 y19 y20 y21 y22 : Value} {h : Hp} (f3 f11 : σ → Value) (I : σ → Hp → Prop) (μ : σ → Nat) (s0 : σ) (e3 : v3 = f3 s0) (e11 : v11 = f11 s0) (h0 : h.wf → ∃ h', h.wk h' ∧ I s0 h')
  (round : ∀ (k1 : Env → Hp → Prop) (s : σ) (j : Nat → Value) (h : Hp), I s h → h.wf → (∀ s' j' h', μ s' < μ s → (h'.wf → ∃ h'', h'.wk h'' ∧ I s' h'') → k1 (m65_1_1_0_1_0_0 x0 x1 x2 x4 x6 x7 x8 x9 x10 x23 x24 x25 x26 x27 x28 x29 x30 x31 x32 x33 x34 x35 (f3 s') (f11 s') j') h') → (
  pv (binV .none .lss (f11 s) x10) fun t1 =>
  cnd t1 (
    pv (iaV none 1 x9 (f11 s)) fun t2 =>
    ld false 1 t2 fun t3 =>
    pv (lenV t3) fun t4 =>
    pv (binV .none .add (f3 s) t4) fun t5 =>
    pv (binV .none .lss t5 (.int .i64 0)) fun t6 =>
    cnd t6 (
      pv (ifcV 9 (.string ⟨#[108, 101, 110, 32, 111, 117, 116, 32, 111, 102, 32, 114, 97, 110, 103, 101]⟩)) fun t7 =>
      pnc t7 E fun _ =>
      den Tryz.prog (sel (bodyOf Tryz.f65) [1, 1, 0, 1, 0, 0, 1, 1, 1]) (thenD k1 (blk 0 (thenD (den Tryz.prog (sel (bodyOf Tryz.f65) [1, 1, 1]) (bodyQ Tryz.prog Tryz.f65.results.toList K E)) (bodyQ Tryz.prog Tryz.f65.results.toList K E)))) #[x0, x1, x2, t5, x4, t3, x6, x7, x8, x9, x10, (f11 s), t1, t2, t3, (f3 s), t3, t4, t5, t5, t6, t7, (j 22), x23, x24, x25, x26, x27, x28, x29, x30, x31, x32, x33, x34, x35]) (
      den Tryz.prog (sel (bodyOf Tryz.f65) [1, 1, 0, 1, 0, 0, 1, 1, 1]) (thenD k1 (blk 0 (thenD (den Tryz.prog (sel (bodyOf Tryz.f65) [1, 1, 1]) (bodyQ Tryz.prog Tryz.f65.results.toList K E)) (bodyQ Tryz.prog Tryz.f65.results.toList K E)))) #[x0, x1, x2, t5, x4, t3, x6, x7, x8, x9, x10, (f11 s), t1, t2, t3, (f3 s), t3, t4, t5, t5, t6, (j 21), (j 22), x23, x24, x25, x26, x27, x28, x29, x30, x31, x32, x33, x34, x35])) (
    den Tryz.prog (sel (bodyOf Tryz.f65) [1, 1, 1]) (bodyQ Tryz.prog Tryz.f65.results.toList K E) #[x0, x1, x2, (f3 s), x4, (j 5), x6, x7, x8, x9, x10, (f11 s), t1, (j 13), (j 14), (j 15), (j 16), (j 17), (j 18), (j 19), (j 20), (j 21), (j 22), x23, x24, x25, x26, x27, x28, x29, x30, x31, x32, x33, x34, x35])) h) :
  lp (fun k1 => den Tryz.prog (sel (bodyOf Tryz.f65) [1, 1, 0, 1, 0, 0]) (thenD k1 (blk 0 (thenD (den Tryz.prog (sel (bodyOf Tryz.f65) [1, 1, 1]) (bodyQ Tryz.prog Tryz.f65.results.toList K E)) (bodyQ Tryz.prog Tryz.f65.results.toList K E))))) #[x0, x1, x2, v3, x4, y5, x6, x7, x8, x9, x10, v11, y12, y13, y14, y15, y16, y17, y18, y19, y20, y21, y22, x23, x24, x25, x26, x27, x28, x29, x30, x31, x32, x33, x34, x35] h := by
  subst e3
  subst e11
  have e : (#[x0, x1, x2, (f3 s0), x4, y5, x6, x7, x8, x9, x10, (f11 s0), y12, y13, y14, y15, y16, y17, y18, y19, y20, y21, y22, x23, x24, x25, x26, x27, x28, x29, x30, x31, x32, x33, x34, x35] : Env) = m65_1_1_0_1_0_0 x0 x1 x2 x4 x6 x7 x8 x9 x10 x23 x24 x25 x26 x27 x28 x29 x30 x31 x32 x33 x34 x35 (f3 s0) (f11 s0) (jf #[x0, x1, x2, (f3 s0), x4, y5, x6, x7, x8, x9, x10, (f11 s0), y12, y13, y14, y15, y16, y17, y18, y19, y20, y21, y22, x23, x24, x25, x26, x27, x28, x29, x30, x31, x32, x33, x34, x35]) := by kernel_rfl
  rw [e]
  exact loop_r (fun s j => m65_1_1_0_1_0_0 x0 x1 x2 x4 x6 x7 x8 x9 x10 x23 x24 x25 x26 x27 x28 x29 x30 x31 x32 x33 x34 x35 (f3 s) (f11 s) j) I μ (fun k s j h hI hw next => by rw [t65_1_1_0_1_0_0]; exact round k s j h hI hw next) s0 (jf #[x0, x1, x2, (f3 s0), x4, y5, x6, x7, x8, x9, x10, (f11 s0), y12, y13, y14, y15, y16, y17, y18, y19, y20, y21, y22, x23, x24, x25, x26, x27, x28, x29, x30, x31, x32, x33, x34, x35]) h0
theorem l65_1_1_1_1_0_1_0_0 {K : Kont} {E : PanK} {σ : Type} {x0 x1 x2 x3 x4 x5 x7 x9 x10 x11 x12 x13 x14 x15 x16 x17 x18 x19 x20 x21 x22 x23 x24 x25 x26 x35 v6 v27 y8 y28 y29 y30 y31 y32 y33 y34 : Value} {h : Hp} (f6 f27 : σ → Value) (I : σ → Hp → Prop) (μ : σ → Nat) (s0 : σ) (e6 : v6 = f6 s0) (e27 : v27 = f27 s0) (h0 : h.wf → ∃ h', h.wk h' ∧ I s0 h')
  (round : ∀ (k1 : Env → Hp → Prop) (s : σ) (j : Nat → Value) (h : Hp), I s h → h.wf → (∀ s' j' h', μ s' < μ s → (h'.wf → ∃ h'', h'.wk h'' ∧ I s' h'') → k1 (m65_1_1_1_1_0_1_0_0 x0 x1 x2 x3 x4 x5 x7 x9 x10 x11 x12 x13 x14 x15 x16 x17 x18 x19 x20 x21 x22 x23 x24 x25 x26 x35 (f6 s') (f27 s') j') h') → (
  pv (binV .none .lss (f27 s) x26) fun t1 =>
  cnd t1 (
    pv (iaV none 1 x25 (f27 s)) fun t2 =>
    ld false 1 t2 fun t3 =>
    appX 48 2 32 (f6 s) t3 fun t4 =>
    pv (binV .none .add (f27 s) (.int .i64 1)) fun t5 =>
    k1 (m65_1_1_1_1_0_1_0_0 x0 x1 x2 x3 x4 x5 x7 x9 x10 x11 x12 x13 x14 x15 x16 x17 x18 x19 x20 x21 x22 x23 x24 x25 x26 x35 t4 t5 (jf #[x0, x1, x2, x3, x4, x5, t4, x7, t3, x9, x10, x11, x12, x13, x14, x15, x16, x17, x18, x19, x20, x21, x22, x23, x24, x25, x26, t5, t1, t2, t3, (f6 s), t3, t4, t5, x35]))) (
    den Tryz.prog (sel (bodyOf Tryz.f65) [1, 1, 1, 1, 1]) (bodyQ Tryz.prog Tryz.f65.results.toList K E) #[x0, x1, x2, x3, x4, x5, (f6 s), x7, (j 8), x9, x10, x11, x12, x13, x14, x15, x16, x17, x18, x19, x20, x21, x22, x23, x24, x25, x26, (f27 s), t1, (j 29), (j 30), (j 31), (j 32), (j 33), (j 34), x35])) h) :
  lp (fun k1 => den Tryz.prog (sel (bodyOf Tryz.f65) [1, 1, 1, 1, 0, 1, 0, 0]) (thenD k1 (blk 2 (thenD (den Tryz.prog (sel (bodyOf Tryz.f65) [1, 1, 1, 1, 1]) (bodyQ Tryz.prog Tryz.f65.results.toList K E)) (bodyQ Tryz.prog Tryz.f65.results.toList K E))))) #[x0, x1, x2, x3, x4, x5, v6, x7, y8, x9, x10, x11, x12, x13, x14, x15, x16, x17, x18, x19, x20, x21, x22, x23, x24, x25, x26, v27, y28, y29, y30, y31, y32, y33, y34, x35] h := by
  subst e6
  subst e27
  have e : (#[x0, x1, x2, x3, x4, x5, (f6 s0), x7, y8, x9, x10, x11, x12, x13, x14, x15, x16, x17, x18, x19, x20, x21, x22, x23, x24, x25, x26, (f27 s0), y28, y29, y30, y31, y32, y33, y34, x35] : Env) = m65_1_1_1_1_0_1_0_0 x0 x1 x2 x3 x4 x5 x7 x9 x10 x11 x12 x13 x14 x15 x16 x17 x18 x19 x20 x21 x22 x23 x24 x25 x26 x35 (f6 s0) (f27 s0) (jf #[x0, x1, x2, x3, x4, x5, (f6 s0), x7, y8, x9, x10, x11, x12, x13, x14, x15, x16, x17, x18, x19, x20, x21, x22, x23, x24, x25, x26, (f27 s0), y28, y29, y30, y31, y32, y33, y34, x35]) := by kernel_rfl
  rw [e]
  exact loop_r (fun s j => m65_1_1_1_1_0_1_0_0 x0 x1 x2 x3 x4 x5 x7 x9 x10 x11 x12 x13 x14 x15 x16 x17 x18 x19 x20 x21 x22 x23 x24 x25 x26 x35 (f6 s) (f27 s) j) I μ (fun k s j h hI hw next => by rw [t65_1_1_1_1_0_1_0_0]; exact round k s j h hI hw next) s0 (jf #[x0, x1, x2, x3, x4, x5, (f6 s0), x7, y8, x9, x10, x11, x12, x13, x14, x15, x16, x17, x18, x19, x20, x21, x22, x23, x24, x25, x26, (f27 s0), y28, y29, y30, y31, y32, y33, y34, x35]) h0

theorem t77 (K : Kont) (E : PanK) (x0 x1 : Value)  : den Tryz.prog (sel (bodyOf Tryz.f77) []) (bodyQ Tryz.prog Tryz.f77.results.toList K E) #[x0, x1, undef, undef, undef, undef, undef, undef, undef, undef, undef, undef, undef, undef, undef, undef, undef, undef, undef, undef, undef, undef, undef, undef, undef, undef, undef, undef, undef, undef, undef, undef, undef, undef, undef, undef, undef, undef, undef, undef, undef, undef] =
  callv Tryz.prog (.func (.func 94) #[] #[]) #[x0, x1] (fun t1 =>
  pv (binV .none .eql t1 (.int .i64 (-1))) fun t2 =>
  cnd t2 (
    K x0) (
    pv (binV .none .add t1 (.int .i64 1)) fun t3 =>
    lp (fun k1 => den Tryz.prog (sel (bodyOf Tryz.f77) [1, 1, 1, 0, 1, 0, 0]) (thenD k1 (blk 0 (thenD (den Tryz.prog (sel (bodyOf Tryz.f77) [1, 1, 1, 1]) (bodyQ Tryz.prog Tryz.f77.results.toList K E)) (bodyQ Tryz.prog Tryz.f77.results.toList K E))))) #[x0, x1, undef, undef, (.slice none 0 0), t1, t3, undef, x0, x1, t1, t1, t2, undef, t1, t3, undef, undef, undef, undef, undef, undef, undef, undef, undef, undef, undef, undef, undef, undef, undef, undef, undef, undef, undef, undef, undef, undef, undef, undef, undef, undef])) E := by kernel_rfl
def m77_1_1_1_0_1_0_0 (x0 x1 x2 x3 x4 x8 x9 x10 x11 x12 x13 x14 x15 x36 x37 x38 x39 x40 x41 : Value) (v5 v6 : Value) (j : Nat → Value) : Env := #[x0, x1, x2, x3, x4, v5, v6, (j 7), x8, x9, x10, x11, x12, x13, x14, x15, (j 16), (j 17), (j 18), (j 19), (j 20), (j 21), (j 22), (j 23), (j 24), (j 25), (j 26), (j 27), (j 28), (j 29), (j 30), (j 31), (j 32), (j 33), (j 34), (j 35), x36, x37, x38, x39, x40, x41]
theorem t77_1_1_1_0_1_0_0 (K : Kont) (E : PanK) (k1 : Env → Hp → Prop) (x0 x1 x2 x3 x4 x8 x9 x10 x11 x12 x13 x14 x15 x36 x37 x38 x39 x40 x41 v5 v6 : Value) (j : Nat → Value) : den Tryz.prog (sel (bodyOf Tryz.f77) [1, 1, 1, 0, 1, 0, 0]) (thenD k1 (blk 0 (thenD (den Tryz.prog (sel (bodyOf Tryz.f77) [1, 1, 1, 1]) (bodyQ Tryz.prog Tryz.f77.results.toList K E)) (bodyQ Tryz.prog Tryz.f77.results.toList K E)))) (m77_1_1_1_0_1_0_0 x0 x1 x2 x3 x4 x8 x9 x10 x11 x12 x13 x14 x15 x36 x37 x38 x39 x40 x41 v5 v6 j) =
  pv (lenV x0) fun t1 =>
  pv (binV .none .lss v6 t1) fun t2 =>
  cnd t2 (
    pv (iaV none 2 x0 v6) fun t3 =>
    ld true 2 t3 fun t4 =>
    nw 48 [(.slice none 0 0), (.int .i64 0)] fun t5 =>
    st 2 t5 t4 fun _ =>
    ld true 2 t5 fun t6 =>
    callv Tryz.prog x1 #[t6] (fun t7 =>
    pv (unV .not t7) fun t8 =>
    cnd t8 (
      ld true 2 t5 fun t9 =>
      pv (iaV none 2 x0 v5) fun t10 =>
      st 2 t10 t9 fun _ =>
      pv (binV .none .add v5 (.int .i64 1)) fun t11 =>
      den Tryz.prog (sel (bodyOf Tryz.f77) [1, 1, 1, 0, 1, 0, 0, 1, 1]) (thenD k1 (blk 0 (thenD (den Tryz.prog (sel (bodyOf Tryz.f77) [1, 1, 1, 1]) (bodyQ Tryz.prog Tryz.f77.results.toList K E)) (bodyQ Tryz.prog Tryz.f77.results.toList K E)))) #[x0, x1, x2, x3, x4, t11, v6, t5, x8, x9, x10, x11, x12, x13, x14, x15, v6, x0, t1, t2, (j 20), (j 21), x0, v6, t3, t4, x1, t6, t7, t8, x0, v5, t9, t10, v5, t11, x36, x37, x38, x39, x40, x41]) (
      den Tryz.prog (sel (bodyOf Tryz.f77) [1, 1, 1, 0, 1, 0, 0, 1, 1]) (thenD k1 (blk 0 (thenD (den Tryz.prog (sel (bodyOf Tryz.f77) [1, 1, 1, 1]) (bodyQ Tryz.prog Tryz.f77.results.toList K E)) (bodyQ Tryz.prog Tryz.f77.results.toList K E)))) #[x0, x1, x2, x3, x4, v5, v6, t5, x8, x9, x10, x11, x12, x13, x14, x15, v6, x0, t1, t2, (j 20), (j 21), x0, v6, t3, t4, x1, t6, t7, t8, (j 30), (j 31), (j 32), (j 33), (j 34), (j 35), x36, x37, x38, x39, x40, x41])) E) (
    den Tryz.prog (sel (bodyOf Tryz.f77) [1, 1, 1, 1]) (bodyQ Tryz.prog Tryz.f77.results.toList K E) #[x0, x1, x2, x3, x4, v5, v6, (j 7), x8, x9, x10, x11, x12, x13, x14, x15, v6, x0, t1, t2, (j 20), (j 21), (j 22), (j 23), (j 24), (j 25), (j 26), (j 27), (j 28), (j 29), (j 30), (j 31), (j 32), (j 33), (j 34), (j 35), x36, x37, x38, x39, x40, x41]) := by kernel_rfl
theorem t77_1_1_1_1 (K : Kont) (E : PanK) (x0 x1 x2 x3 x4 x5 x6 x7 x8 x9 x10 x11 x12 x13 x14 x15 x16 x17 x18 x19 x20 x21 x22 x23 x24 x25 x26 x27 x28 x29 x30 x31 x32 x33 x34 x35 x36 x37 x38 x39 x40 x41 : Value)  : den Tryz.prog (sel (bodyOf Tryz.f77) [1, 1, 1, 1]) (bodyQ Tryz.prog Tryz.f77.results.toList K E) #[x0, x1, x2, x3, x4, x5, x6, x7, x8, x9, x10, x11, x12, x13, x14, x15, x16, x17, x18, x19, x20, x21, x22, x23, x24, x25, x26, x27, x28, x29, x30, x31, x32, x33, x34, x35, x36, x37, x38, x39, x40, x41] =
  pv (slV 2 x0 (some x5) none none) fun t1 =>
  clr 48 [(.slice none 0 0), (.int .i64 0)] 2 t1 fun _ =>
  pv (slV 2 x0 none (some x5) none) fun t2 =>
  K t2 := by kernel_rfl
theorem t77_1_1_1_0_1_0_0_1_1 (K : Kont) (E : PanK) (k1 : Env → Hp → Prop) (x0 x1 x2 x3 x4 x5 x6 x7 x8 x9 x10 x11 x12 x13 x14 x15 x16 x17 x18 x19 x20 x21 x22 x23 x24 x25 x26 x27 x28 x29 x30 x31 x32 x33 x34 x35 x36 x37 x38 x39 x40 x41 : Value)  : den Tryz.prog (sel (bodyOf Tryz.f77) [1, 1, 1, 0, 1, 0, 0, 1, 1]) (thenD k1 (blk 0 (thenD (den Tryz.prog (sel (bodyOf Tryz.f77) [1, 1, 1, 1]) (bodyQ Tryz.prog Tryz.f77.results.toList K E)) (bodyQ Tryz.prog Tryz.f77.results.toList K E)))) #[x0, x1, x2, x3, x4, x5, x6, x7, x8, x9, x10, x11, x12, x13, x14, x15, x16, x17, x18, x19, x20, x21, x22, x23, x24, x25, x26, x27, x28, x29, x30, x31, x32, x33, x34, x35, x36, x37, x38, x39, x40, x41] =
  pv (binV .none .add x6 (.int .i64 1)) fun t1 =>
  k1 (m77_1_1_1_0_1_0_0 x0 x1 x2 x3 x4 x8 x9 x10 x11 x12 x13 x14 x15 x36 x37 x38 x39 x40 x41 x5 t1 (jf #[x0, x1, x2, x3, x4, x5, t1, x7, x8, x9, x10, x11, x12, x13, x14, x15, x16, x17, x18, x19, x6, t1, x22, x23, x24, x25, x26, x27, x28, x29, x30, x31, x32, x33, x34, x35, x36, x37, x38, x39, x40, x41])) := by kernel_rfl
theorem l77_1_1_1_0_1_0_0 {K : Kont} {E : PanK} {σ : Type} {x0 x1 x2 x3 x4 x8 x9 x10 x11 x12 x13 x14 x15 x36 x37 x38 x39 x40 x41 v5 v6 y7 y16 y17 y18 y19 y20 y21 y22 y23 y24 y25 y26 y27 y28 y29 y30 y31 y32 y33 y34 y35 : Value} {h : Hp} (f5 f6 : σ → Value) (I : σ → Hp → Prop) (μ : σ → Nat) (s0 : σ) (e5 : v5 = f5 s0) (e6 : v6 = f6 s0) (h0 : h.wf → ∃ h', h.wk h' ∧ I s0 h')
  (round : ∀ (k1 : Env → Hp → Prop) (s : σ) (j : Nat → Value) (h : Hp), I s h → h.wf → (∀ s' j' h', μ s' < μ s → (h'.wf → ∃ h'', h'.wk h'' ∧ I s' h'') → k1 (m77_1_1_1_0_1_0_0 x0 x1 x2 x3 x4 x8 x9 x10 x11 x12 x13 x14 x15 x36 x37 x38 x39 x40 x41 (f5 s') (f6 s') j') h') → (
  pv (lenV x0) fun t1 =>
  pv (binV .none .lss (f6 s) t1) fun t2 =>
  cnd t2 (
    pv (iaV none 2 x0 (f6 s)) fun t3 =>
    ld true 2 t3 fun t4 =>
    nw 48 [(.slice none 0 0), (.int .i64 0)] fun t5 =>
    st 2 t5 t4 fun _ =>
    ld true 2 t5 fun t6 =>
    callv Tryz.prog x1 #[t6] (fun t7 =>
    pv (unV .not t7) fun t8 =>
    cnd t8 (
      ld true 2 t5 fun t9 =>
      pv (iaV none 2 x0 (f5 s)) fun t10 =>
      st 2 t10 t9 fun _ =>
      pv (binV .none .add (f5 s) (.int .i64 1)) fun t11 =>
      den Tryz.prog (sel (bodyOf Tryz.f77) [1, 1, 1, 0, 1, 0, 0, 1, 1]) (thenD k1 (blk 0 (thenD (den Tryz.prog (sel (bodyOf Tryz.f77) [1, 1, 1, 1]) (bodyQ Tryz.prog Tryz.f77.results.toList K E)) (bodyQ Tryz.prog Tryz.f77.results.toList K E)))) #[x0, x1, x2, x3, x4, t11, (f6 s), t5, x8, x9, x10, x11, x12, x13, x14, x15, (f6 s), x0, t1, t2, (j 20), (j 21), x0, (f6 s), t3, t4, x1, t6, t7, t8, x0, (f5 s), t9, t10, (f5 s), t11, x36, x37, x38, x39, x40, x41]) (
      den Tryz.prog (sel (bodyOf Tryz.f77) [1, 1, 1, 0, 1, 0, 0, 1, 1]) (thenD k1 (blk 0 (thenD (den Tryz.prog (sel (bodyOf Tryz.f77) [1, 1, 1, 1]) (bodyQ Tryz.prog Tryz.f77.results.toList K E)) (bodyQ Tryz.prog Tryz.f77.results.toList K E)))) #[x0, x1, x2, x3, x4, (f5 s), (f6 s), t5, x8, x9, x10, x11, x12, x13, x14, x15, (f6 s), x0, t1, t2, (j 20), (j 21), x0, (f6 s), t3, t4, x1, t6, t7, t8, (j 30), (j 31), (j 32), (j 33), (j 34), (j 35), x36, x37, x38, x39, x40, x41])) E) (
    den Tryz.prog (sel (bodyOf Tryz.f77) [1, 1, 1, 1]) (bodyQ Tryz.prog Tryz.f77.results.toList K E) #[x0, x1, x2, x3, x4, (f5 s), (f6 s), (j 7), x8, x9, x10, x11, x12, x13, x14, x15, (f6 s), x0, t1, t2, (j 20), (j 21), (j 22), (j 23), (j 24), (j 25), (j 26), (j 27), (j 28), (j 29), (j 30), (j 31), (j 32), (j 33), (j 34), (j 35), x36, x37, x38, x39, x40, x41])) h) :
  lp (fun k1 => den Tryz.prog (sel (bodyOf Tryz.f77) [1, 1, 1, 0, 1, 0, 0]) (thenD k1 (blk 0 (thenD (den Tryz.prog (sel (bodyOf Tryz.f77) [1, 1, 1, 1]) (bodyQ Tryz.prog Tryz.f77.results.toList K E)) (bodyQ Tryz.prog Tryz.f77.results.toList K E))))) #[x0, x1, x2, x3, x4, v5, v6, y7, x8, x9, x10, x11, x12, x13, x14, x15, y16, y17, y18, y19, y20, y21, y22, y23, y24, y25, y26, y27, y28, y29, y30, y31, y32, y33, y34, y35, x36, x37, x38, x39, x40, x41] h := by
  subst e5
  subst e6
  have e : (#[x0, x1, x2, x3, x4, (f5 s0), (f6 s0), y7, x8, x9, x10, x11, x12, x13, x14, x15, y16, y17, y18, y19, y20, y21, y22, y23, y24, y25, y26, y27, y28, y29, y30, y31, y32, y33, y34, y35, x36, x37, x38, x39, x40, x41] : Env) = m77_1_1_1_0_1_0_0 x0 x1 x2 x3 x4 x8 x9 x10 x11 x12 x13 x14 x15 x36 x37 x38 x39 x40 x41 (f5 s0) (f6 s0) (jf #[x0, x1, x2, x3, x4, (f5 s0), (f6 s0), y7, x8, x9, x10, x11, x12, x13, x14, x15, y16, y17, y18, y19, y20, y21, y22, y23, y24, y25, y26, y27, y28, y29, y30, y31, y32, y33, y34, y35, x36, x37, x38, x39, x40, x41]) := by kernel_rfl
  rw [e]
  exact loop_r (fun s j => m77_1_1_1_0_1_0_0 x0 x1 x2 x3 x4 x8 x9 x10 x11 x12 x13 x14 x15 x36 x37 x38 x39 x40 x41 (f5 s) (f6 s) j) I μ (fun k s j h hI hw next => by rw [t77_1_1_1_0_1_0_0]; exact round k s j h hI hw next) s0 (jf #[x0, x1, x2, x3, x4, (f5 s0), (f6 s0), y7, x8, x9, x10, x11, x12, x13, x14, x15, y16, y17, y18, y19, y20, y21, y22, y23, y24, y25, y26, y27, y28, y29, y30, y31, y32, y33, y34, y35, x36, x37, x38, x39, x40, x41]) h0

theorem t78 (K : Kont) (E : PanK) (x0 x1 x2 : Value)  : den Tryz.prog (sel (bodyOf Tryz.f78) []) (bodyQ Tryz.prog Tryz.f78.results.toList K E) #[x0, x1, x2, undef, undef, undef, undef, undef, undef, undef] =
  nw 48 (Value.cells x0).toList fun t1 =>
  ld false 1 x1 fun t2 =>
  ld true 2 t1 fun t3 =>
  ld false 1 x2 fun t4 =>
  callv Tryz.prog t2 #[t3] (fun t5 h6 => (ldV h6 false 1 x2 t4) ∧ (
    pv (binV .bool .neq t5 t4) fun t7 =>
    K t7) h6) E := by kernel_rfl

theorem t79 (K : Kont) (E : PanK) (x0 x1 x2 : Value)  : den Tryz.prog (sel (bodyOf Tryz.f79) []) (bodyQ Tryz.prog Tryz.f79.results.toList K E) #[x0, x1, x2, undef, undef, undef, undef, undef, undef, undef, undef, undef, undef, undef, undef, undef, undef, undef, undef, undef, undef, undef, undef, undef, undef] =
  nw 48 (Value.cells x0).toList fun t1 =>
  pv (faV 0 t1) fun t2 =>
  ld false 1 t2 fun t3 =>
  pv (lenV t3) fun t4 =>
  pv (binV .none .gtr t4 (.int .i64 0)) fun t5 =>
  gdK t5 true (fun k => pv (faV 0 t1) k) fun t6 =>
  gdK t5 true (fun k => ld false 1 t6 k) fun t7 =>
  gdK t5 true (fun k => pv (iaV none 1 t7 (.int .i64 0)) k) fun t8 =>
  gdK t5 true (fun k => ld false 1 t8 k) fun t9 =>
  gdK t5 true (fun k => ld false 1 x1 k) fun t10 =>
  gdK t5 true (fun k => pv (binV .none .geq t9 t10) k) fun t11 =>
  pv (pickV t5 t11 (.bool false)) fun t12 =>
  gdK t12 true (fun k => pv (faV 0 t1) k) fun t13 =>
  gdK t12 true (fun k => ld false 1 t13 k) fun t14 =>
  gdK t12 true (fun k => pv (iaV none 1 t14 (.int .i64 0)) k) fun t15 =>
  gdK t12 true (fun k => ld false 1 t15 k) fun t16 =>
  gdK t12 true (fun k => ld false 1 x2 k) fun t17 =>
  gdK t12 true (fun k => pv (binV .none .lss t16 t17) k) fun t18 =>
  pv (pickV t12 t18 (.bool false)) fun t19 =>
  K t19 := by kernel_rfl

theorem t91 (K : Kont) (E : PanK) (x0 x1 : Value)  : den Tryz.prog (sel (bodyOf Tryz.f91) []) (bodyQ Tryz.prog Tryz.f91.results.toList K E) #[x0, x1, undef, undef, undef, undef, undef, undef, undef, undef, undef, undef, undef, undef, undef, undef, undef, undef, undef] =
  pv (lenV x0) fun t1 =>
  lp (fun k1 => den Tryz.prog (sel (bodyOf Tryz.f91) [1, 0, 1, 0, 0]) (thenD k1 (blk 0 (thenD (den Tryz.prog (sel (bodyOf Tryz.f91) [1, 1]) (bodyQ Tryz.prog Tryz.f91.results.toList K E)) (bodyQ Tryz.prog Tryz.f91.results.toList K E))))) #[x0, x1, undef, undef, (.int .i64 0), undef, x0, t1, (.int .i64 0), undef, undef, undef, undef, undef, undef, undef, undef, undef, undef] := by kernel_rfl
def m91_1_0_1_0_0 (x0 x1 x2 x3 x6 x7 : Value) (v8 : Value) (j : Nat → Value) : Env := #[x0, x1, x2, x3, (j 4), (j 5), x6, x7, v8, (j 9), (j 10), (j 11), (j 12), (j 13), (j 14), (j 15), (j 16), (j 17), (j 18)]
theorem t91_1_0_1_0_0 (K : Kont) (E : PanK) (k1 : Env → Hp → Prop) (x0 x1 x2 x3 x6 x7 v8 : Value) (j : Nat → Value) : den Tryz.prog (sel (bodyOf Tryz.f91) [1, 0, 1, 0, 0]) (thenD k1 (blk 0 (thenD (den Tryz.prog (sel (bodyOf Tryz.f91) [1, 1]) (bodyQ Tryz.prog Tryz.f91.results.toList K E)) (bodyQ Tryz.prog Tryz.f91.results.toList K E)))) (m91_1_0_1_0_0 x0 x1 x2 x3 x6 x7 v8 j) =
  pv (binV .none .lss v8 x7) fun t1 =>
  cnd t1 (
    pv (iaV none 2 x0 v8) fun t2 =>
    ld true 2 t2 fun t3 =>
    callv Tryz.prog x1 #[t3] (fun t4 =>
    cnd t4 (
      K v8) (
      pv (binV .none .add v8 (.int .i64 1)) fun t5 =>
      k1 (m91_1_0_1_0_0 x0 x1 x2 x3 x6 x7 t5 (jf #[x0, x1, x2, x3, (j 4), v8, x6, x7, t5, t1, v8, x1, x0, v8, t2, t3, t4, (j 17), t5])))) E) (
    den Tryz.prog (sel (bodyOf Tryz.f91) [1, 1]) (bodyQ Tryz.prog Tryz.f91.results.toList K E) #[x0, x1, x2, x3, (j 4), (j 5), x6, x7, v8, t1, (j 10), (j 11), (j 12), (j 13), (j 14), (j 15), (j 16), (j 17), (j 18)]) := by kernel_rfl
theorem t91_1_1 (K : Kont) (E : PanK) (x0 x1 x2 x3 x4 x5 x6 x7 x8 x9 x10 x11 x12 x13 x14 x15 x16 x17 x18 : Value)  : den Tryz.prog (sel (bodyOf Tryz.f91) [1, 1]) (bodyQ Tryz.prog Tryz.f91.results.toList K E) #[x0, x1, x2, x3, x4, x5, x6, x7, x8, x9, x10, x11, x12, x13, x14, x15, x16, x17, x18] =
  K (.int .i64 (-1)) := by kernel_rfl
theorem l91_1_0_1_0_0 {K : Kont} {E : PanK} {σ : Type} {x0 x1 x2 x3 x6 x7 v8 y4 y5 y9 y10 y11 y12 y13 y14 y15 y16 y17 y18 : Value} {h : Hp} (f8 : σ → Value) (I : σ → Hp → Prop) (μ : σ → Nat) (s0 : σ) (e8 : v8 = f8 s0) (h0 : h.wf → ∃ h', h.wk h' ∧ I s0 h')
  (round : ∀ (k1 : Env → Hp → Prop) (s : σ) (j : Nat → Value) (h : Hp), I s h → h.wf → (∀ s' j' h', μ s' < μ s → (h'.wf → ∃ h'', h'.wk h'' ∧ I s' h'') → k1 (m91_1_0_1_0_0 x0 x1 x2 x3 x6 x7 (f8 s') j') h') → (
  pv (binV .none .lss (f8 s) x7) fun t1 =>
  cnd t1 (
    pv (iaV none 2 x0 (f8 s)) fun t2 =>
    ld true 2 t2 fun t3 =>
    callv Tryz.prog x1 #[t3] (fun t4 =>
    cnd t4 (
      K (f8 s)) (
      pv (binV .none .add (f8 s) (.int .i64 1)) fun t5 =>
      k1 (m91_1_0_1_0_0 x0 x1 x2 x3 x6 x7 t5 (jf #[x0, x1, x2, x3, (j 4), (f8 s), x6, x7, t5, t1, (f8 s), x1, x0, (f8 s), t2, t3, t4, (j 17), t5])))) E) (
    den Tryz.prog (sel (bodyOf Tryz.f91) [1, 1]) (bodyQ Tryz.prog Tryz.f91.results.toList K E) #[x0, x1, x2, x3, (j 4), (j 5), x6, x7, (f8 s), t1, (j 10), (j 11), (j 12), (j 13), (j 14), (j 15), (j 16), (j 17), (j 18)])) h) :
  lp (fun k1 => den Tryz.prog (sel (bodyOf Tryz.f91) [1, 0, 1, 0, 0]) (thenD k1 (blk 0 (thenD (den Tryz.prog (sel (bodyOf Tryz.f91) [1, 1]) (bodyQ Tryz.prog Tryz.f91.results.toList K E)) (bodyQ Tryz.prog Tryz.f91.results.toList K E))))) #[x0, x1, x2, x3, y4, y5, x6, x7, v8, y9, y10, y11, y12, y13, y14, y15, y16, y17, y18] h := by
  subst e8
  have e : (#[x0, x1, x2, x3, y4, y5, x6, x7, (f8 s0), y9, y10, y11, y12, y13, y14, y15, y16, y17, y18] : Env) = m91_1_0_1_0_0 x0 x1 x2 x3 x6 x7 (f8 s0) (jf #[x0, x1, x2, x3, y4, y5, x6, x7, (f8 s0), y9, y10, y11, y12, y13, y14, y15, y16, y17, y18]) := by kernel_rfl
  rw [e]
  exact loop_r (fun s j => m91_1_0_1_0_0 x0 x1 x2 x3 x6 x7 (f8 s) j) I μ (fun k s j h hI hw next => by rw [t91_1_0_1_0_0]; exact round k s j h hI hw next) s0 (jf #[x0, x1, x2, x3, y4, y5, x6, x7, (f8 s0), y9, y10, y11, y12, y13, y14, y15, y16, y17, y18]) h0

theorem t97 (K : Kont) (E : PanK) (x0 x1 : Value)  : den Tryz.prog (sel (bodyOf Tryz.f97) []) (bodyQ Tryz.prog Tryz.f97.results.toList K E) #[x0, x1, undef, undef, undef, undef, undef, undef, undef, undef, undef, undef, undef, undef, undef, undef, undef, undef, undef, undef, undef, undef, undef, undef, undef, undef, undef] =
  pv (binV .none .lss x1 (.int .i64 0)) fun t1 =>
  cnd t1 (
    pv (ifcV 9 (.string ⟨#[99, 97, 110, 110, 111, 116, 32, 98, 101, 32, 110, 101, 103, 97, 116, 105, 118, 101]⟩)) fun t2 =>
    pnc t2 E fun _ =>
    den Tryz.prog (sel (bodyOf Tryz.f97) [1, 1]) (bodyQ Tryz.prog Tryz.f97.results.toList K E) #[x0, x1, undef, undef, (.slice none 0 0), x1, t1, t2, undef, undef, undef, undef, undef, undef, undef, undef, undef, undef, undef, undef, undef, undef, undef, undef, undef, undef, undef]) (
    den Tryz.prog (sel (bodyOf Tryz.f97) [1, 1]) (bodyQ Tryz.prog Tryz.f97.results.toList K E) #[x0, x1, undef, undef, (.slice none 0 0), x1, t1, undef, undef, undef, undef, undef, undef, undef, undef, undef, undef, undef, undef, undef, undef, undef, undef, undef, undef, undef, undef]) := by kernel_rfl
theorem t97_1_1 (K : Kont) (E : PanK) (x0 x1 x2 x3 x4 x5 x6 x7 x8 x9 x10 x11 x12 x13 x14 x15 x16 x17 x18 x19 x20 x21 x22 x23 x24 x25 x26 : Value)  : den Tryz.prog (sel (bodyOf Tryz.f97) [1, 1]) (bodyQ Tryz.prog Tryz.f97.results.toList K E) #[x0, x1, x2, x3, x4, x5, x6, x7, x8, x9, x10, x11, x12, x13, x14, x15, x16, x17, x18, x19, x20, x21, x22, x23, x24, x25, x26] =
  pv (capV x0) fun t1 =>
  pv (lenV x0) fun t2 =>
  pv (binV .none .sub t1 t2) fun t3 =>
  pv (binV .none .sub x1 t3) fun t4 =>
  pv (binV .none .gtr t4 (.int .i64 0)) fun t5 =>
  cnd t5 (
    pv (capV x0) fun t6 =>
    pv (slV 2 x0 none (some t6) none) fun t7 =>
    appZ 48 [(.slice none 0 0), (.int .i64 0)] 2 32 t7 t4 fun t8 =>
    pv (lenV x0) fun t9 =>
    pv (slV 2 t8 none (some t9) none) fun t10 =>
    den Tryz.prog (sel (bodyOf Tryz.f97) [1, 1, 1]) (bodyQ Tryz.prog Tryz.f97.results.toList K E) #[t10, t4, x2, x3, x4, x5, x6, x7, x1, x0, t1, x0, t2, t3, t4, t4, t5, x0, x0, t6, t7, t4, t8, x0, t9, t10, x26]) (
    den Tryz.prog (sel (bodyOf Tryz.f97) [1, 1, 1]) (bodyQ Tryz.prog Tryz.f97.results.toList K E) #[x0, t4, x2, x3, x4, x5, x6, x7, x1, x0, t1, x0, t2, t3, t4, t4, t5, x17, x18, x19, x20, x21, x22, x23, x24, x25, x26]) := by kernel_rfl
theorem t97_1_1_1 (K : Kont) (E : PanK) (x0 x1 x2 x3 x4 x5 x6 x7 x8 x9 x10 x11 x12 x13 x14 x15 x16 x17 x18 x19 x20 x21 x22 x23 x24 x25 x26 : Value)  : den Tryz.prog (sel (bodyOf Tryz.f97) [1, 1, 1]) (bodyQ Tryz.prog Tryz.f97.results.toList K E) #[x0, x1, x2, x3, x4, x5, x6, x7, x8, x9, x10, x11, x12, x13, x14, x15, x16, x17, x18, x19, x20, x21, x22, x23, x24, x25, x26] =
  K x0 := by kernel_rfl

end Go.Proofs.YtgjdjdjhoipfmaaGreatDoor.T
open Go Go.RowKit Go.Proofs.YtgjdjdjhoipfmaaGreatDoor.K Go.Proofs.YtgjdjdjhoipfmaaGreatDoor.T
set_option linter.unusedVariables false
set_option linter.unusedSimpArgs false
namespace Go.Proofs.YtgjdjdjhoipfmaaGreatDoor.A
variable {F F' : Nat → Option (List Value)} {M M' : Nat → Option Chunk} {N N' : Nat} {K : Kont} {E : PanK}
theorem flat_takeF {α : Type} (l : List (List α)) {i : Nat} (h : i < l.length) : (l.take (i + 1)).flatten = (l.take i).flatten ++ l[i] := by
  rw [List.take_add_one, List.getElem?_eq_getElem h, Option.toList_some, List.flatten_append]; simp
theorem growF_c {n : Nat} (hm : clean M N) (hn : n ≤ 1000000000000) (k : ∀ v' M' N', own M' N 48 2 v' 0 [] → (∀ q, q < N → M' q = M q) → N ≤ N' → clean M' N' → (Hp.mk F M' N').wf → K v' ⟨F, M', N'⟩) :
    callv Tryz.prog (.func (.func 97) #[] #[]) #[.slice none 0 0, .int .i64 (n : Nat)] K E ⟨F, M, N⟩ := by
  refine callv_of_text mixed Tryz.func97 (by kernel_rfl) (t97 _ E _ _) (fun hw => ?_)
  refine lss_f (by omega) ?_
  try simp only [gdTT, gdFF, gdTF, gdFT, pvS, pickT, pickF, faP, lenS, capS, nilP, exA, exB, exC, notB, cndT, cndF, Bool.not_true, Bool.not_false, Nat.zero_add, Nat.add_zero]
  rw [t97_1_1]
  try simp only [gdTT, gdFF, gdTF, gdFT, pvS, pickT, pickF, faP, lenS, capS, nilP, exA, exB, exC, notB, cndT, cndF, Bool.not_true, Bool.not_false, Nat.zero_add, Nat.add_zero]
  refine sub_n (a := 0) (b := 0) (by omega) (by omega) ?_
  refine sub_n (a := n) (b := 0) (by omega) (by omega) ?_
  rw [Nat.sub_zero]
  refine gtr_r (fun h0 => ?_) (fun h0 => ?_)
  · try simp only [gdTT, gdFF, gdTF, gdFT, pvS, pickT, pickF, faP, lenS, capS, nilP, exA, exB, exC, notB, cndT, cndF, Bool.not_true, Bool.not_false, Nat.zero_add, Nat.add_zero]
    refine sl_r 0 0 0 (Nat.le_refl _) (Nat.le_refl _) (Nat.le_refl _) ?_
    refine ⟨none, 0, 0, [], n, .i64, rfl, rfl, ⟨by simp, .inl ⟨_, _, rfl, rfl⟩⟩, Nat.le_refl _, by omega, by omega, by simp [maxLen]; omega, fun b c hb0 hc hcm => ?_⟩
    have hb : N ≤ b := hb0
    try simp only [gdTT, gdFF, gdTF, gdFT, pvS, pickT, pickF, faP, lenS, capS, nilP, exA, exB, exC, notB, cndT, cndF, Bool.not_true, Bool.not_false, Nat.zero_add, Nat.add_zero]
    refine sl_pre 0 (Nat.zero_le _) ?_
    try simp only [gdTT, gdFF, gdTF, gdFT, pvS, pickT, pickF, faP, lenS, capS, nilP, exA, exB, exC, notB, cndT, cndF, Bool.not_true, Bool.not_false, Nat.zero_add, Nat.add_zero]
    rw [t97_1_1_1]
    refine fun hc' => ⟨_, wk_refl hc', fun hw' => k _ _ _ ⟨by simp, .inr ⟨b, c, _, rfl, Nat.zero_le _, hcm, hb, upd_same _ _ _⟩⟩ (fun q hq => upd_ne _ _ (by omega)) (Nat.le_succ_of_le hb) (hm.new hb _) hw'⟩
  · try simp only [gdTT, gdFF, gdTF, gdFT, pvS, pickT, pickF, faP, lenS, capS, nilP, exA, exB, exC, notB, cndT, cndF, Bool.not_true, Bool.not_false, Nat.zero_add, Nat.add_zero]
    rw [t97_1_1_1]
    exact fun hc' => ⟨_, wk_refl hc', fun hw' => k _ _ _ own.nil (fun _ _ => rfl) (Nat.le_refl _) hm hw'⟩
/-- Lists of facts in a row. -/
def fctssD (F : Nat → Option (List Value)) (v : Value) (ts : List (List Fc)) : Prop := ∃ rows, sF F 1 v ts.length rows.flatten ∧ rowsF (fun r t => ∃ u, r = [u] ∧ fctsD F u t ∧ t.length ≤ 140737488351232) 1 rows ts
theorem fctssD.mono {v : Value} {ts : List (List Fc)} (h : fctssD F v ts) (hF : subF F F') : fctssD F' v ts := let ⟨rows, h1, h2⟩ := h; ⟨rows, h1.mono hF, h2.mono fun _ _ ⟨u, e, h, l⟩ => ⟨u, e, h.mono hF, l⟩⟩
/-- ts[i] -/
theorem fctss_r {v : Value} {ts : List (List Fc)} {K : Value → Kont} (hv : fctssD F v ts) {i : Nat} (hi : i < ts.length) (k : ∀ p u, fctsD F u ts[i] → ts[i].length ≤ 140737488351232 → K p u ⟨F, M, N⟩) : pv (iaV none 1 v (.int .i64 (i : Nat))) (fun p => ld false 1 p (K p)) ⟨F, M, N⟩ := by
  obtain ⟨rows, h1, h2⟩ := hv
  obtain ⟨b, o, c, cs, r, rfl, hF, _, ⟨u, rfl, hu, hul⟩, hl, _, hle, ht, hj⟩ := row_at h1 h2 (by decide) hi
  exact iaN_r hi (ld_r (ldV_c (row_F hF) (hj 0 (by decide))) (k _ _ hu hul))
theorem concatF_c {v : Value} {ts : List (List Fc)} (hv : fctssD F v ts) (hl : ts.flatten.length ≤ 1000000000) (htl : ts.length ≤ 1000000000) (k : ∀ v' F' N', (Hp.mk F' M N').wf → subF F F' → N ≤ N' → fctsD F' v' ts.flatten → K v' ⟨F', M, N'⟩) :
    callv Tryz.prog (.func (.func 65) #[] #[]) #[v] K E ⟨F, M, N⟩ := by
  refine callv_of_text mixed Tryz.func65 (by kernel_rfl) (t65 _ E _) (fun hw => ?_)
  have hm : clean M N := hw.m
  have hlv : lenV v = some (.int .i64 (ts.length : Nat)) := by obtain ⟨rows, h1, _⟩ := hv; obtain ⟨a, c, rfl, _⟩ := h1.form; rfl
  have hfl : ∀ i, i ≤ ts.length → (ts.take i).flatten.length ≤ ts.flatten.length := fun i hi => by
    have h := congrArg List.flatten (List.take_append_drop i ts)
    rw [List.flatten_append] at h
    have := congrArg List.length h
    rw [List.length_append] at this
    omega
  simp only [hlv]
  try simp only [gdTT, gdFF, gdTF, gdFT, pvS, pickT, pickF, faP, lenS, capS, nilP, exA, exB, exC, notB, cndT, cndF, Bool.not_true, Bool.not_false, Nat.zero_add, Nat.add_zero]
  refine l65_1_1_0_1_0_0 (σ := Nat) (fun i => .int .i64 ((ts.take i).flatten.length : Nat)) (fun i => .int .i64 (i : Nat)) (fun i h => h = ⟨F, M, N⟩ ∧ i ≤ ts.length) (fun i => ts.length - i) 0 rfl rfl
    (fun hw1 => ⟨_, wk_refl hw1, rfl, Nat.zero_le _⟩) (fun k1 i j h1 hI hw1 next => ?_)
  obtain ⟨rfl, hi⟩ := hI
  refine lss_r (fun hlt => ?_) (fun hge => ?_)
  · have h1 : i < ts.length := by omega
    try simp only [gdTT, gdFF, gdTF, gdFT, pvS, pickT, pickF, faP, lenS, capS, nilP, exA, exB, exC, notB, cndT, cndF, Bool.not_true, Bool.not_false, Nat.zero_add, Nat.add_zero]
    refine fctss_r hv h1 fun p u hu hul => ?_
    obtain ⟨a, c, rfl⟩ := hu.form
    have h2 := hfl (i + 1) h1
    have e := flat_takeF ts h1
    rw [e, List.length_append] at h2
    try simp only [gdTT, gdFF, gdTF, gdFT, pvS, pickT, pickF, faP, lenS, capS, nilP, exA, exB, exC, notB, cndT, cndF, Bool.not_true, Bool.not_false, Nat.zero_add, Nat.add_zero]
    refine add_n (by omega) (lss_f (by omega) ?_)
    try simp only [gdTT, gdFF, gdTF, gdFT, pvS, pickT, pickF, faP, lenS, capS, nilP, exA, exB, exC, notB, cndT, cndF, Bool.not_true, Bool.not_false, Nat.zero_add, Nat.add_zero]
    rw [t65_1_1_0_1_0_0_1_1_1]
    refine inc_r (by omega) ?_
    rw [← List.length_append, ← e]
    exact next (i + 1) _ _ (by omega) (fun hw2 => ⟨_, wk_refl hw2, rfl, h1⟩)
  · try simp only [gdTT, gdFF, gdTF, gdFT, pvS, pickT, pickF, faP, lenS, capS, nilP, exA, exB, exC, notB, cndT, cndF, Bool.not_true, Bool.not_false, Nat.zero_add, Nat.add_zero]
    rw [t65_1_1_1]
    rw [List.take_of_length_le (by omega)]
    refine growF_c hm (by omega) (fun u M1 N1 ho hM1 hN1 hm1 hw1 => ?_)
    simp only [hlv]
    try simp only [gdTT, gdFF, gdTF, gdFT, pvS, pickT, pickF, faP, lenS, capS, nilP, exA, exB, exC, notB, cndT, cndF, Bool.not_true, Bool.not_false, Nat.zero_add, Nat.add_zero]
    refine l65_1_1_1_1_0_1_0_0 (σ := Nat × Value) (fun s => s.2) (fun s => .int .i64 (s.1 : Nat))
      (fun s h => ∃ M' N' rows, h = ⟨F, M', N'⟩ ∧ N ≤ N' ∧ (∀ q, q < N → M' q = M q) ∧ clean M' N' ∧ s.1 ≤ ts.length ∧ own M' N 48 2 s.2 (ts.take s.1).flatten.length rows.flatten ∧ rowsF (fctD F) 2 rows (ts.take s.1).flatten) (fun s => ts.length - s.1) (0, u) rfl rfl
      (fun hw2 => ⟨_, wk_refl hw2, M1, N1, [], rfl, hN1, hM1, hm1, Nat.zero_le _, ho, rowsF.nil _ _⟩) (fun k1 s j h1 hI hw2 next => ?_)
    obtain ⟨M2, N2, rows, rfl, hN2, hM2, hm2, hi, ho2, hr2⟩ := hI
    refine lss_r (fun hlt => ?_) (fun hge => ?_)
    · have h1 : s.1 < ts.length := by omega
      try simp only [gdTT, gdFF, gdTF, gdFT, pvS, pickT, pickF, faP, lenS, capS, nilP, exA, exB, exC, notB, cndT, cndF, Bool.not_true, Bool.not_false, Nat.zero_add, Nat.add_zero]
      refine fctss_r hv h1 fun p w hwt hwl => ?_
      obtain ⟨rows3, hw3, hr3⟩ := hwt
      have h2 := hfl (s.1 + 1) h1
      have e := flat_takeF ts h1
      rw [e, List.length_append] at h2
      refine ho2.app hm2 hN2 hw3.sR hr3.f1 (by omega) (by unfold maxLen; omega) (fun w' M3 N3 h4 h5 h6 h7 => ?_)
      refine inc_r (by omega) ?_
      refine next (s.1 + 1, w') _ _ (by simp only; omega) (fun hw4 => ⟨_, wk_refl hw4, M3, N3, rows ++ rows3, rfl, by omega, fun q hq => ?_, h7, h1, ?_, ?_⟩)
      · have q1 : s.2.ownBlock ≠ some q := fun e => by have := (ho2.ge q e).1; omega
        exact ((h5 q q1 (by omega)).1).trans (hM2 q hq)
      · simp only
        rw [e, List.length_append, List.flatten_append]; exact h4
      · simp only
        rw [e]; exact rows_app hr2 hr3
    · try simp only [gdTT, gdFF, gdTF, gdFT, pvS, pickT, pickF, faP, lenS, capS, nilP, exA, exB, exC, notB, cndT, cndF, Bool.not_true, Bool.not_false, Nat.zero_add, Nat.add_zero]
      rw [t65_1_1_1_1_1]
      rw [List.take_of_length_le (by omega)] at ho2 hr2
      exact fun hc => ⟨_, frz_wf hm hM2 hc, fun hw' => k _ _ _ hw' (subF_frzAll hc) hN2 (fcts_frzA hc ho2 hr2)⟩
/-- A cell of a row of an own list. -/
theorem ofld_r {α : Type} {R : List Value → α → Prop} {B sz off : Nat} {e : TypeId} {v : Value} {l : List α} {rows : List (List Value)} {K : Value → Value → Kont} (hv : own M B e sz v l.length rows.flatten) (hr : rowsF R sz rows l) (ho : off < sz) {i : Nat} (hi : i < l.length)
    (k : ∀ b c r x, v = .slice (some ⟨b, 0, none⟩) l.length c → (∃ cs tot, M b = some (.cells e cs tot) ∧ cs[i * sz + off]? = some x) → rows[i]? = some r → R r l[i] → r.length = sz → r[off]? = some x → K (.pointer (some ⟨b, 0 + i * sz, none⟩)) (.pointer (some ⟨b, 0 + i * sz + off, none⟩)) x ⟨F, M, N⟩) : pv (iaV none sz v (.int .i64 (i : Nat))) (fun p => pv (faV off p) fun q => ld false 1 q (K p q)) ⟨F, M, N⟩ := by
  rcases hv.2 with ⟨rfl, h0⟩ | ⟨b, c, rest, rfl, h1, h2, h3, h4⟩
  · omega
  obtain ⟨r, hri, hR, hdt, hle, hrl⟩ := hr.get (List.getElem?_eq_getElem hi)
  have hx : r[off]? = some (r[off]'(by omega)) := List.getElem?_eq_getElem _
  have hcx : (rows.flatten ++ rest)[i * sz + off]? = some (r[off]'(by omega)) := by
    rw [List.getElem?_append_left (by omega), ← hx, ← hdt, List.getElem?_take, if_pos ho, List.getElem?_drop]
  refine iaN_r hi (h_fa (ld_r (ldV_c (row_M h4) (by rw [Nat.zero_add]; exact hcx)) ?_))
  exact k b c r _ rfl ⟨_, _, h4, hcx⟩ hri hR hrl hx
theorem flatten_set {sz : Nat} : ∀ (rows : List (List Value)) (i off : Nat) (x : Value), (∀ r ∈ rows, r.length = sz) → off < sz → (hi : i < rows.length) → rows.flatten.set (i * sz + off) x = (rows.set i (rows[i].set off x)).flatten
  | [], i, off, x, _, _, hi => by simp at hi
  | r :: rows, 0, off, x, hl, ho, _ => by
    have := hl r List.mem_cons_self
    simp only [List.flatten_cons, Nat.zero_mul, Nat.zero_add, List.set_cons_zero, List.getElem_cons_zero]
    rw [List.set_append_left _ _ (by omega)]
  | r :: rows, i + 1, off, x, hl, ho, hi => by
    have h1 := hl r List.mem_cons_self
    have ih := flatten_set rows i off x (fun q hq => hl q (List.mem_cons_of_mem _ hq)) ho (by simpa using hi)
    simp only [List.flatten_cons, List.set_cons_succ, List.getElem_cons_succ]
    rw [List.set_append_right _ _ (by rw [Nat.succ_mul]; omega), ← ih, h1]
    congr 2
    rw [Nat.succ_mul]; omega
theorem rowsF_set {α : Type} {R : List Value → α → Prop} {sz : Nat} {rows : List (List Value)} {l : List α} (h : rowsF R sz rows l) {r : List Value} {x : α} (h1 : r.length = sz ∧ ∀ c ∈ r, c.oneCell' = true) (hR : R r x) (i : Nat) : rowsF R sz (rows.set i r) (l.set i x) := by
  refine ⟨fun q hq => ?_, fun q hq => ?_, by rw [List.length_set, List.length_set]; exact h.all.1, fun j a b ha hb => ?_⟩
  · rcases List.mem_or_eq_of_mem_set hq with hq | rfl
    · exact h.len q hq
    · exact h1.1
  · rcases List.mem_or_eq_of_mem_set hq with hq | rfl
    · exact h.one q hq
    · exact h1.2
  · rw [List.getElem?_set] at ha hb
    by_cases hij : i = j
    · rw [if_pos hij] at ha hb
      split at ha
      · split at hb
        · cases ha; cases hb; exact hR
        · cases hb
      · cases ha
    · rw [if_neg hij] at ha hb
      exact h.all.2 j a b ha hb
/-- A cell of a row of an own list is stored. -/
theorem oput_r {α : Type} {R : List Value → α → Prop} {B sz off : Nat} {e : TypeId} {v : Value} {l : List α} {rows : List (List Value)} {K : Value → Value → Kont} {u : Value} {y : α} (hv : own M B e sz v l.length rows.flatten) (hr : rowsF R sz rows l) (ho : off < sz) {i : Nat} (hi : i < l.length) (hu : u.cells = #[u]) (hu1 : u.oneCell' = true) (hR : ∀ r, rows[i]? = some r → R (r.set off u) y)
    (k : ∀ p q M' rows', own M' B e sz v (l.set i y).length rows'.flatten → rowsF R sz rows' (l.set i y) → (∀ q, v.ownBlock ≠ some q → M' q = M q) → (∀ n, clean M n → clean M' n) → K p q undef ⟨F, M', N⟩) : pv (iaV none sz v (.int .i64 (i : Nat))) (fun p => pv (faV off p) fun q => st 1 q u (K p q)) ⟨F, M, N⟩ := by
  rcases hv.2 with ⟨rfl, h0⟩ | ⟨b, c, rest, rfl, h1, h2, h3, h4⟩
  · omega
  obtain ⟨r, hri, hRr, hdt, hle, hrl⟩ := hr.get (List.getElem?_eq_getElem hi)
  have hri' := hri
  obtain ⟨hil, hre⟩ := List.getElem?_eq_some_iff.1 hri
  have hrl1 := hr.one r (List.mem_of_getElem? hri)
  refine iaN_r hi (h_fa ?_)
  have hlen : 0 + i * sz + off < (rows.flatten ++ rest).length := by rw [List.length_append]; omega
  have hsp : splice (rows.flatten ++ rest) (0 + i * sz + off) u.cells.toList = (rows.set i (r.set off u)).flatten ++ rest := by
    rw [hu, show (#[u] : Array Value).toList = [u] from rfl, splice_one hlen, List.set_append_left _ _ (by omega), Nat.zero_add, flatten_set rows i off u hr.len ho hil, hre]
  refine st_r h4 (by rw [hu]; rfl) (by rw [hu]; intro x hx; rw [List.mem_singleton.1 hx]; exact hu1) (by omega) hsp ?_
  refine k _ _ _ (rows.set i (r.set off u)) ⟨?_, .inr ⟨b, c, rest, by rw [List.length_set], by rw [List.length_set]; exact h1, h2, h3, upd_same _ _ _⟩⟩ (rowsF_set hr ⟨by rw [List.length_set]; exact hrl, fun x hx => ?_⟩ (hR r hri) i) (fun q hq => upd_ne _ _ (fun e => hq (by rw [e]; rfl))) (fun n hn => hn.set (hn.lt h4) _)
  · rw [List.length_set, flatten_len _ (fun q hq => ?_), List.length_set, hr.all.1]
    rcases List.mem_or_eq_of_mem_set hq with hq | rfl
    · exact hr.len q hq
    · rw [List.length_set]; exact hrl
  · rcases List.mem_or_eq_of_mem_set hx with hx | rfl
    · exact hrl1 x hx
    · exact hu1
end Go.Proofs.YtgjdjdjhoipfmaaGreatDoor.A
open Go Go.RowKit Go.Proofs.YtgjdjdjhoipfmaaGreatDoor.K Go.Proofs.YtgjdjdjhoipfmaaGreatDoor.T
set_option linter.unusedVariables false
set_option linter.unusedSimpArgs false
namespace Go.Proofs.YtgjdjdjhoipfmaaGreatDoor.A
variable {F F' : Nat → Option (List Value)} {M M' : Nat → Option Chunk} {N N' : Nat} {K : Kont} {E : PanK}
/-- The closure of a range. -/
def isW (F : Nat → Option (List Value)) (w : Value) (a b : Int) : Prop := ∃ c1 c2, w = .func (.func 79) #[] #[.pointer (some ⟨c1, 0, none⟩), .pointer (some ⟨c2, 0, none⟩)] ∧ F c1 = some [.int .i64 a] ∧ F c2 = some [.int .i64 b]
theorem isW.mono {w : Value} {a b : Int} (h : isW F w a b) (hF : subF F F') : isW F' w a b := let ⟨c1, c2, h1, h2, h3⟩ := h; ⟨c1, c2, h1, hF _ _ h2, hF _ _ h3⟩
/-- within -/
theorem within_cube_c {a b : Int} (k : ∀ w F' N', (Hp.mk F' M N').wf → subF F F' → N ≤ N' → isW F' w a b → K w ⟨F', M, N'⟩) :
    callv Tryz.prog (.func (.func 41) #[] #[]) #[.int .i64 a, .int .i64 b] K E ⟨F, M, N⟩ := by
  refine callv_of_text mixed Tryz.func41 (by kernel_rfl) (t41 _ E _ _) (fun hw => ?_)
  have hm : clean M N := hw.m
  refine nw_r (cs := [.int .i64 a]) (fun b1 hb1 => ?_)
  refine nw_r (cs := [.int .i64 b]) (fun b2 hb2 => ?_)
  refine fun hc => ⟨_, frz_wf hm (fun q hq => (upd_ne _ _ (by omega)).trans (upd_ne _ _ (by omega))) hc, fun hw' => k _ _ _ hw' (subF_frzAll hc) (by omega) ⟨b1, b2, rfl, ?_, ?_⟩⟩
  · exact frz_at (by omega) ((upd_ne _ _ (by omega)).trans (upd_same _ _ _))
  · exact frz_at (by omega) (upd_same _ _ _)
theorem ldF {sz b o : Nat} {cs : List Value} {v : Value} (k : K v ⟨F, M, N⟩) (hF : F b = some cs) (hv : cs[o]? = some v := by rfl) : ld false sz (.pointer (some ⟨b, o, none⟩)) K ⟨F, M, N⟩ := ld_r (ldV_c (row_F hF) hv) k
/-- within$1 -/
theorem inR_c {w : Value} {a b : Int} {cs : List Value} {f : Fc} (hW : isW F w a b) (hf : fctD F cs f) (k : ∀ N', N ≤ N' → (Hp.mk F M N').wf → K (.bool (inR a b f)) ⟨F, M, N'⟩) :
    callv Tryz.prog w #[.agg cs.toArray] K E ⟨F, M, N⟩ := by
  obtain ⟨c1, c2, rfl, hc1, hc2⟩ := hW
  obtain ⟨kv, rfl, hkv, hkl⟩ := hf
  refine callv_of_text mixed Tryz.func79 (by kernel_rfl) (t79 _ E _ _ _) (fun hw => ?_)
  have hm : clean M N := hw.m
  have fin : ∀ b1, N ≤ b1 → ∀ r : Bool, r = inR a b f → ∀ h', h' = (⟨F, upd M b1 (some (.cells 48 [kv, .int .i64 f.2] 2)), b1 + 1⟩ : Hp) → h'.wf → ∃ h'', h'.wk h'' ∧ (h''.wf → K (.bool r) h'') := fun b1 hb1 r e h' e' hc => by
    subst e'
    refine ⟨⟨F, M, b1 + 1⟩, wk_drop hc (subM_drop (subM_refl _) (hm _ hb1)), fun hw' => ?_⟩
    rw [e]; exact k _ (by omega) hw'
  refine nw_r (cs := [kv, .int .i64 f.2]) (fun b1 hb1 => ?_)
  have hb := upd_same M b1 (some (.cells 48 [kv, .int .i64 f.2] 2))
  try simp only [gdTT, gdFF, gdTF, gdFT, pvS, pickT, pickF, faP, lenS, capS, nilP, exA, exB, exC, notB, cndT, cndF, Bool.not_true, Bool.not_false, Nat.zero_add, Nat.add_zero]
  refine ldM (v := kv) ?_ hb
  refine lenF_r hkv ?_
  refine gtr_r (fun h0 => ?_) (fun h0 => ?_)
  · have hl : 0 < f.1.length := by omega
    try simp only [gdTT, gdFF, gdTF, gdFT, pvS, pickT, pickF, faP, lenS, capS, nilP, exA, exB, exC, notB, cndT, cndF, Bool.not_true, Bool.not_false, Nat.zero_add, Nat.add_zero]
    refine ldM (v := kv) ?_ hb
    try simp only [gdTT, gdFF, gdTF, gdFT, pvS, pickT, pickF, faP, lenS, capS, nilP, exA, exB, exC, notB, cndT, cndF, Bool.not_true, Bool.not_false, Nat.zero_add, Nat.add_zero]
    refine ixn_r (i := 0) hkv hl fun p => ?_
    try simp only [gdTT, gdFF, gdTF, gdFT, pvS, pickT, pickF, faP, lenS, capS, nilP, exA, exB, exC, notB, cndT, cndF, Bool.not_true, Bool.not_false, Nat.zero_add, Nat.add_zero]
    refine ldF (v := .int .i64 a) ?_ hc1
    try simp only [gdTT, gdFF, gdTF, gdFT, pvS, pickT, pickF, faP, lenS, capS, nilP, exA, exB, exC, notB, cndT, cndF, Bool.not_true, Bool.not_false, Nat.zero_add, Nat.add_zero]
    have e0 : f.1.getD 0 0 = f.1[0] := getD_at hl 0
    refine geq_r (fun h1 => ?_) (fun h1 => ?_)
    · try simp only [gdTT, gdFF, gdTF, gdFT, pvS, pickT, pickF, faP, lenS, capS, nilP, exA, exB, exC, notB, cndT, cndF, Bool.not_true, Bool.not_false, Nat.zero_add, Nat.add_zero]
      refine ldM (v := kv) ?_ hb
      try simp only [gdTT, gdFF, gdTF, gdFT, pvS, pickT, pickF, faP, lenS, capS, nilP, exA, exB, exC, notB, cndT, cndF, Bool.not_true, Bool.not_false, Nat.zero_add, Nat.add_zero]
      refine ixn_r (i := 0) hkv hl fun p => ?_
      try simp only [gdTT, gdFF, gdTF, gdFT, pvS, pickT, pickF, faP, lenS, capS, nilP, exA, exB, exC, notB, cndT, cndF, Bool.not_true, Bool.not_false, Nat.zero_add, Nat.add_zero]
      refine ldF (v := .int .i64 b) ?_ hc2
      try simp only [gdTT, gdFF, gdTF, gdFT, pvS, pickT, pickF, faP, lenS, capS, nilP, exA, exB, exC, notB, cndT, cndF, Bool.not_true, Bool.not_false, Nat.zero_add, Nat.add_zero]
      refine lss_r (fun h2 => ?_) (fun h2 => ?_)
      · try simp only [gdTT, gdFF, gdTF, gdFT, pvS, pickT, pickF, faP, lenS, capS, nilP, exA, exB, exC, notB, cndT, cndF, Bool.not_true, Bool.not_false, Nat.zero_add, Nat.add_zero]
        exact fin b1 hb1 true (by unfold inR; rw [decide_eq_true ⟨hl, by omega, by omega⟩]) _ rfl
      · try simp only [gdTT, gdFF, gdTF, gdFT, pvS, pickT, pickF, faP, lenS, capS, nilP, exA, exB, exC, notB, cndT, cndF, Bool.not_true, Bool.not_false, Nat.zero_add, Nat.add_zero]
        exact fin b1 hb1 false (by unfold inR; rw [decide_eq_false (by omega)]) _ rfl
    · try simp only [gdTT, gdFF, gdTF, gdFT, pvS, pickT, pickF, faP, lenS, capS, nilP, exA, exB, exC, notB, cndT, cndF, Bool.not_true, Bool.not_false, Nat.zero_add, Nat.add_zero]
      exact fin b1 hb1 false (by unfold inR; rw [decide_eq_false (by omega)]) _ rfl
  · try simp only [gdTT, gdFF, gdTF, gdFT, pvS, pickT, pickF, faP, lenS, capS, nilP, exA, exB, exC, notB, cndT, cndF, Bool.not_true, Bool.not_false, Nat.zero_add, Nat.add_zero]
    exact fin b1 hb1 false (by unfold inR; rw [decide_eq_false (by omega)]) _ rfl
/-- Facts of a kind. -/
def ofK (a b : Int) (want : Bool) (f : Fc) : Bool := inR a b f == want
theorem bneV {x y : Bool} : binV .bool .neq (.bool x) (.bool y) = some (.bool !(x == y)) := rfl
/-- chosen$1 -/
theorem chosen1_c {b1 b2 : Nat} {w : Value} {a b : Int} {want : Bool} {cs : List Value} {f : Fc} (h1 : F b1 = some [w]) (h2 : F b2 = some [.bool want]) (hW : isW F w a b) (hf : fctD F cs f) (k : ∀ N', N ≤ N' → (Hp.mk F M N').wf → K (.bool (!ofK a b want f)) ⟨F, M, N'⟩) :
    callv Tryz.prog (.func (.func 78) #[] #[.pointer (some ⟨b1, 0, none⟩), .pointer (some ⟨b2, 0, none⟩)]) #[.agg cs.toArray] K E ⟨F, M, N⟩ := by
  have hf' := hf
  obtain ⟨kv, rfl, hkv, hkl⟩ := hf'
  refine callv_of_text mixed Tryz.func78 (by kernel_rfl) (t78 _ E _ _ _) (fun hw => ?_)
  have hm : clean M N := hw.m
  refine nw_r (cs := [kv, .int .i64 f.2]) (fun b3 hb3 => ?_)
  refine ldF (v := w) ?_ h1
  refine ldMa (vs := [kv, .int .i64 f.2]) ?_
  refine ldF (v := .bool want) ?_ h2
  refine inR_c hW hf (fun N2 hN2 hw2 => ?_)
  refine ⟨ldV_c (row_F h2) rfl, ?_⟩
  refine pv_r bneV ?_
  exact fun hc => ⟨⟨F, M, N2⟩, wk_drop hc (subM_drop (subM_refl _) (hm _ hb3)), fun hw' => k _ (by omega) hw'⟩
end Go.Proofs.YtgjdjdjhoipfmaaGreatDoor.A
open Go Go.RowKit Go.Proofs.YtgjdjdjhoipfmaaGreatDoor.K Go.Proofs.YtgjdjdjhoipfmaaGreatDoor.T
set_option linter.unusedVariables false
set_option linter.unusedSimpArgs false
namespace Go.Proofs.YtgjdjdjhoipfmaaGreatDoor.A
variable {F F' : Nat → Option (List Value)} {M M' : Nat → Option Chunk} {N N' : Nat} {K : Kont} {E : PanK}
theorem flatten_takeF {sz : Nat} : ∀ (rows : List (List Value)) (i : Nat), (∀ r ∈ rows, r.length = sz) → rows.flatten.take (i * sz) = (rows.take i).flatten
  | [], i, _ => by simp
  | x :: rows, 0, _ => by simp
  | x :: rows, i + 1, h => by
    have hx := h x List.mem_cons_self
    have ih := flatten_takeF rows i fun r hr => h r (List.mem_cons_of_mem _ hr)
    rw [List.flatten_cons, List.take_succ_cons, List.flatten_cons, List.take_append, List.take_of_length_le (by rw [Nat.succ_mul]; omega), ← ih]
    congr 2
    rw [Nat.succ_mul]; omega
theorem splice_row {sz : Nat} {rows : List (List Value)} {rest r : List Value} (hl : ∀ q ∈ rows, q.length = sz) {i : Nat} (hi : i < rows.length) (hr : r.length = sz) : splice (rows.flatten ++ rest) (i * sz) r = (rows.set i r).flatten ++ rest := by
  have hA : (rows.take i).flatten.length = i * sz := by rw [flatten_len _ (fun q hq => hl q (List.mem_of_mem_take hq)), List.length_take, Nat.min_eq_left (by omega)]
  have e : rows = rows.take i ++ rows[i] :: rows.drop (i + 1) := by rw [← List.drop_eq_getElem_cons hi, List.take_append_drop]
  have h := splice_at (rows.take i).flatten rows[i] r ((rows.drop (i + 1)).flatten ++ rest) (by rw [hl _ (List.getElem_mem hi), hr])
  rw [hA] at h
  have e1 : rows.flatten ++ rest = (rows.take i).flatten ++ rows[i] ++ ((rows.drop (i + 1)).flatten ++ rest) := by
    have e2 := congrArg List.flatten e
    rw [List.flatten_append, List.flatten_cons] at e2
    rw [e2]; simp [List.append_assoc]
  rw [e1, h, List.set_eq_take_append_cons_drop, if_pos hi]
  simp [List.flatten_append, List.append_assoc]
/-- A row of an own list is stored. -/
theorem orowput_r {α : Type} {R : List Value → α → Prop} {B sz : Nat} {e : TypeId} {v : Value} {l : List α} {rows : List (List Value)} {K : Value → Kont} {r : List Value} {y : α} (hv : own M B e sz v l.length rows.flatten) (hr : rowsF R sz rows l) {i : Nat} (hi : i < l.length) (hl : r.length = sz) (h1 : ∀ c ∈ r, c.oneCell' = true) (hR : R r y)
    (k : ∀ p M', own M' B e sz v (l.set i y).length (rows.set i r).flatten → rowsF R sz (rows.set i r) (l.set i y) → (∀ q, v.ownBlock ≠ some q → M' q = M q) → (∀ n, clean M n → clean M' n) → K p undef ⟨F, M', N⟩) : pv (iaV none sz v (.int .i64 (i : Nat))) (fun p => st sz p (.agg r.toArray) (K p)) ⟨F, M, N⟩ := by
  rcases hv.2 with ⟨rfl, h0⟩ | ⟨b, c, rest, rfl, g1, g2, g3, g4⟩
  · omega
  have hlen := hr.all.1
  have hfl := hr.flen
  have hle : i * sz + sz ≤ l.length * sz := by rw [← Nat.succ_mul]; exact Nat.mul_le_mul_right _ hi
  refine iaN_r hi ?_
  have hsp : splice (rows.flatten ++ rest) (0 + i * sz) (Value.agg r.toArray).cells.toList = (rows.set i r).flatten ++ rest := by
    rw [Nat.zero_add]
    exact splice_row hr.len (by omega) hl
  refine st_r g4 (by simpa [Value.cells] using hl) (by simpa [Value.cells] using h1) (by rw [List.length_append]; omega) hsp ?_
  have hrs := rowsF_set hr (r := r) (x := y) ⟨hl, h1⟩ hR i
  refine k _ _ ⟨by rw [hrs.flen], .inr ⟨b, c, rest, by rw [List.length_set], by rw [List.length_set]; exact g1, g2, g3, upd_same _ _ _⟩⟩ hrs (fun q hq => upd_ne _ _ (fun e => hq (by rw [e]; rfl))) (fun n hn => hn.set (hn.lt g4) _)
/-- slices.IndexFunc, over facts of one's own. -/
theorem oidx_c {B : Nat} {v d : Value} {l : List Fc} {rows : List (List Value)} {p : Fc → Bool} (hv : own M B 48 2 v l.length rows.flatten) (hr : rowsF (fctD F) 2 rows l) (hl : l.length ≤ 1000000000)
    (hd : ∀ {K : Kont} (M1 : Nat → Option Chunk) (N1 : Nat) (cs : List Value) (f : Fc), fctD F cs f → (∀ N', N1 ≤ N' → (Hp.mk F M1 N').wf → K (.bool (!p f)) ⟨F, M1, N'⟩) → callv Tryz.prog d #[.agg cs.toArray] K E ⟨F, M1, N1⟩)
    (k1 : ∀ i (hi : i < l.length), (∀ f ∈ l.take i, p f = true) → p l[i] = false → ∀ N', N ≤ N' → (Hp.mk F M N').wf → K (.int .i64 (i : Nat)) ⟨F, M, N'⟩)
    (k2 : (∀ f ∈ l, p f = true) → ∀ N', N ≤ N' → (Hp.mk F M N').wf → K (.int .i64 (-1)) ⟨F, M, N'⟩) :
    callv Tryz.prog (.func (.func 94) #[] #[]) #[v, d] K E ⟨F, M, N⟩ := by
  refine callv_of_text mixed Tryz.func94 (by kernel_rfl) (t94 _ E _ _) (fun hw => ?_)
  have hlv : lenV v = some (.int .i64 (l.length : Nat)) := by obtain ⟨a, c, e, _⟩ := hv.form; rw [e]; rfl
  refine pv_r hlv ?_
  refine l94_1_0_1_0_0 (σ := Nat) (fun i => .int .i64 (i : Nat)) (fun i h => ∃ N', h = ⟨F, M, N'⟩ ∧ N ≤ N' ∧ i ≤ l.length ∧ ∀ f ∈ l.take i, p f = true) (fun i => l.length - i) 0 rfl
    (fun hw1 => ⟨_, wk_refl hw1, N, rfl, Nat.le_refl _, Nat.zero_le _, by simp⟩) (fun kk i j h1 hI hw1 next => ?_)
  obtain ⟨N1, rfl, hN1, hi, he⟩ := hI
  refine lss_r (fun hlt => ?_) (fun hge => ?_)
  · have i1 : i < l.length := by omega
    try simp only [gdTT, gdFF, gdTF, gdFT, pvS, pickT, pickF, faP, lenS, capS, nilP, exA, exB, exC, notB, cndT, cndF, Bool.not_true, Bool.not_false, Nat.zero_add, Nat.add_zero]
    refine orow_r hv hr (by decide) i1 fun q r _ hR _ _ => hd _ _ _ _ hR (fun N2 hN2 hw2 => ?_)
    cases hp : p l[i]
    · refine cnd_t ?_
      exact fun hc => ⟨_, wk_refl hc, fun hw' => k1 i i1 he hp _ (by omega) hw'⟩
    · refine cnd_f ?_
      refine inc_r (by omega) ?_
      refine next (i + 1) _ _ (by omega) (fun hw3 => ⟨_, wk_refl hw3, N2, rfl, by omega, i1, fun f hf => ?_⟩)
      rw [List.take_add_one, List.getElem?_eq_getElem i1, Option.toList_some] at hf
      rcases List.mem_append.1 hf with hf | hf
      · exact he f hf
      · rw [List.mem_singleton.1 hf]; exact hp
  · try simp only [gdTT, gdFF, gdTF, gdFT, pvS, pickT, pickF, faP, lenS, capS, nilP, exA, exB, exC, notB, cndT, cndF, Bool.not_true, Bool.not_false, Nat.zero_add, Nat.add_zero]
    rw [t94_1_1]
    refine fun hc => ⟨_, wk_refl hc, fun hw' => k2 (fun f hf => he f ?_) _ hN1 hw'⟩
    rw [List.take_of_length_le (by omega)]; exact hf
theorem take_set_same {α : Type} (l : List α) (i : Nat) (x : α) (hi : i < l.length) : (l.set i x).take (i + 1) = l.take i ++ [x] := by
  rw [List.take_add_one, List.getElem?_set_self hi, Option.toList_some, List.take_set_of_le (Nat.le_refl _)]
set_option maxRecDepth 10000 in
set_option maxHeartbeats 2000000 in
/-- slices.DeleteFunc, of facts of one's own: those stay of which p says so. -/
theorem delf_c {B : Nat} {v d : Value} {l : List Fc} {rows : List (List Value)} {p : Fc → Bool} (hv : own M B 48 2 v l.length rows.flatten) (hr : rowsF (fctD F) 2 rows l) (hl : l.length ≤ 1000000000) (hB : B ≤ N)
    (hd : ∀ {K : Kont} (M1 : Nat → Option Chunk) (N1 : Nat) (cs : List Value) (f : Fc), fctD F cs f → (∀ N', N1 ≤ N' → (Hp.mk F M1 N').wf → K (.bool (!p f)) ⟨F, M1, N'⟩) → callv Tryz.prog d #[.agg cs.toArray] K E ⟨F, M1, N1⟩)
    (k : ∀ v' M' N' rows', own M' B 48 2 v' (l.filter p).length rows'.flatten → rowsF (fctD F) 2 rows' (l.filter p) → (∀ x, v.ownBlock ≠ some x → x < N → M' x = M x ∧ v'.ownBlock ≠ some x) → N ≤ N' → clean M' N' → (Hp.mk F M' N').wf → ∃ h', (Hp.mk F M' N').wk h' ∧ (h'.wf → K v' h')) :
    callv Tryz.prog (.func (.func 77) #[] #[]) #[v, d] K E ⟨F, M, N⟩ := by
  refine callv_of_text mixed Tryz.func77 (by kernel_rfl) (t77 _ E _ _) (fun hw => ?_)
  have hm : clean M N := hw.m
  have hlv : lenV v = some (.int .i64 (l.length : Nat)) := by obtain ⟨a, c, e, _⟩ := hv.form; rw [e]; rfl
  refine oidx_c hv hr hl hd (fun i hi he hpi N1 hN1 hw1 => ?_) (fun he N1 hN1 hw1 => ?_)
  rotate_left
  · refine eql_t rfl ?_
    try simp only [gdTT, gdFF, gdTF, gdFT, pvS, pickT, pickF, faP, lenS, capS, nilP, exA, exB, exC, notB, cndT, cndF, Bool.not_true, Bool.not_false, Nat.zero_add, Nat.add_zero]
    have e : l.filter p = l := List.filter_eq_self.2 he
    rw [e] at k
    exact fun hc => k v M N1 rows hv hr (fun x hx _ => ⟨rfl, hx⟩) hN1 (hm.up hN1) hc
  refine eql_f (by omega) ?_
  try simp only [gdTT, gdFF, gdTF, gdFT, pvS, pickT, pickF, faP, lenS, capS, nilP, exA, exB, exC, notB, cndT, cndF, Bool.not_true, Bool.not_false, Nat.zero_add, Nat.add_zero]
  refine inc_r (by omega) ?_
  refine l77_1_1_1_0_1_0_0 (σ := Nat × Nat) (fun s => .int .i64 (s.1 : Nat)) (fun s => .int .i64 (s.2 : Nat))
    (fun s h => ∃ M' N' rows' l', h = ⟨F, M', N'⟩ ∧ N ≤ N' ∧ own M' B 48 2 v l'.length rows'.flatten ∧ rowsF (fctD F) 2 rows' l' ∧ l'.length = l.length ∧ s.1 < s.2 ∧ s.2 ≤ l.length ∧ l'.take s.1 = (l.take s.2).filter p ∧ l'.drop s.2 = l.drop s.2 ∧ (∀ x, v.ownBlock ≠ some x → x < N → M' x = M x) ∧ clean M' N') (fun s => l.length - s.2) (i, i + 1) rfl rfl
    (fun hw2 => ⟨_, wk_refl hw2, M, N1, rows, l, rfl, hN1, hv, hr, rfl, Nat.lt_succ_self _, hi, ?_, rfl, fun _ _ _ => rfl, hm.up hN1⟩) (fun kk s j h1 hI hw2 next => ?_)
  · simp only
    rw [List.take_add_one, List.getElem?_eq_getElem hi, Option.toList_some, List.filter_append, List.filter_eq_self.2 he]
    simp [hpi]
  obtain ⟨M2, N2, rows2, l2, rfl, hN2, ho, hr2, hl2, hs, hs2, ht, hdr, hM2, hm2⟩ := hI
  refine pv_r hlv ?_
  refine lss_r (fun hlt => ?_) (fun hge => ?_)
  · have j1 : s.2 < l.length := by omega
    have j2 : s.2 < l2.length := by omega
    have ej : l2[s.2] = l[s.2] := by
      have h := congrArg (fun x : List Fc => x[0]?) hdr
      simp only [List.getElem?_drop, Nat.add_zero, List.getElem?_eq_getElem j1, List.getElem?_eq_getElem j2] at h
      exact Option.some.inj h
    have hdr' : l2.drop (s.2 + 1) = l.drop (s.2 + 1) := by rw [← List.drop_drop, ← List.drop_drop, hdr]
    try simp only [gdTT, gdFF, gdTF, gdFT, pvS, pickT, pickF, faP, lenS, capS, nilP, exA, exB, exC, notB, cndT, cndF, Bool.not_true, Bool.not_false, Nat.zero_add, Nat.add_zero]
    refine orow_r ho hr2 (by decide) j2 fun q r _ hR hrl hr1 => ?_
    rw [ej] at hR
    have hR' := hR
    obtain ⟨kv, hre, hkv, hkl⟩ := hR
    subst hre
    refine nw_r (fun b5 hb5 => ?_)
    refine stM (cs' := [kv, .int .i64 l[s.2].2]) ?_ (upd_same _ _ _) rfl rfl hr1
    rw [upd_upd]
    refine ldMa (vs := [kv, .int .i64 l[s.2].2]) ?_
    refine hd _ _ _ _ hR' (fun N3 hN3 hw3 => ?_)
    have hvb : ∀ x, v.ownBlock = some x → x ≠ b5 := fun x hx e => by have := ho.lt hm2 x hx; omega
    have hbox := upd_same M2 b5 (some (.cells 48 [kv, .int .i64 l[s.2].2] [Value.slice none 0 0, Value.int .i64 0].length))
    have ho3 := ho.box hm2 hb5 (some (.cells 48 [kv, .int .i64 l[s.2].2] [Value.slice none 0 0, Value.int .i64 0].length))
    have hm3 : clean (upd M2 b5 (some (.cells 48 [kv, .int .i64 l[s.2].2] [Value.slice none 0 0, Value.int .i64 0].length))) N3 := hw3.m
    have hM3 : ∀ x, v.ownBlock ≠ some x → x < N → upd M2 b5 (some (.cells 48 [kv, .int .i64 l[s.2].2] [Value.slice none 0 0, Value.int .i64 0].length)) x = M x := fun x hx hxN => (upd_ne _ _ (by omega)).trans (hM2 x hx hxN)
    generalize upd M2 b5 _ = M3 at *
    cases hp : p l[s.2]
    · rw [Bool.not_false]
      try simp only [gdTT, gdFF, gdTF, gdFT, pvS, pickT, pickF, faP, lenS, capS, nilP, exA, exB, exC, notB, cndT, cndF, Bool.not_true, Bool.not_false, Nat.zero_add, Nat.add_zero]
      rw [t77_1_1_1_0_1_0_0_1_1]
      refine inc_r (by omega) ?_
      refine next (s.1, s.2 + 1) _ _ (by simp only; omega) (fun hw4 => ⟨_, wk_refl hw4, M3, N3, rows2, l2, rfl, by omega, ho3, hr2, hl2, by simp only; omega, j1, ?_, hdr', hM3, hm3⟩)
      simp only
      rw [ht, List.take_add_one, List.getElem?_eq_getElem j1, Option.toList_some, List.filter_append]
      simp [hp]
    · rw [Bool.not_true]
      try simp only [gdTT, gdFF, gdTF, gdFT, pvS, pickT, pickF, faP, lenS, capS, nilP, exA, exB, exC, notB, cndT, cndF, Bool.not_true, Bool.not_false, Nat.zero_add, Nat.add_zero]
      refine ldMa (vs := [kv, .int .i64 l[s.2].2]) ?_ hbox
      have i1 : s.1 < l2.length := by omega
      refine orowput_r (y := l[s.2]) ho3 hr2 i1 rfl hr1 hR' fun q M4 g1 g2 g3 g4 => ?_
      refine inc_r (by omega) ?_
      rw [t77_1_1_1_0_1_0_0_1_1]
      refine inc_r (by omega) ?_
      refine next (s.1 + 1, s.2 + 1) _ _ (by simp only; omega) (fun hw4 => ⟨_, wk_refl hw4, M4, N3, _, _, rfl, by omega, g1, g2, by rw [List.length_set]; exact hl2, by simp only; omega, j1, ?_, ?_, fun x hx hxN => (g3 x hx).trans (hM3 x hx hxN), g4 _ hm3⟩)
      · simp only
        rw [take_set_same _ _ _ i1, ht, List.take_add_one, List.getElem?_eq_getElem j1, Option.toList_some, List.filter_append]
        simp [hp]
      · simp only
        rw [List.drop_set_of_lt (by omega)]
        exact hdr'
  · try simp only [gdTT, gdFF, gdTF, gdFT, pvS, pickT, pickF, faP, lenS, capS, nilP, exA, exB, exC, notB, cndT, cndF, Bool.not_true, Bool.not_false, Nat.zero_add, Nat.add_zero]
    rw [t77_1_1_1_1]
    have es : s.2 = l.length := by omega
    rw [es, List.take_length] at ht
    have i1 : s.1 < l.length := by omega
    have hlen2 := hr2.all.1
    have hfl2 := hr2.flen
    have hn : (l.filter p).length = s.1 := by rw [← ht, List.length_take]; omega
    rcases ho.2 with ⟨hv0, h0⟩ | ⟨b, c, rest, hvf, g1, g2, g3, g4⟩
    · omega
    rw [hvf, hl2]
    refine sl_suf s.1 (by omega) (by omega) ?_
    rw [if_neg (by omega)]
    refine .inr ⟨b, 0 + s.1 * 2, l.length - s.1, c - s.1, _, _, _, rfl, by omega, g4, by exact List.all_eq_true.1 rfl, by rw [List.length_append, hfl2]; omega, ?_⟩
    refine sl_pre s.1 (by omega) ?_
    obtain ⟨Z, hcs⟩ : ∃ Z, splice (rows2.flatten ++ rest) (0 + s.1 * 2) (List.replicate (l.length - s.1) [Value.slice none 0 0, Value.int .i64 0]).flatten = (rows2.take s.1).flatten ++ Z := ⟨_, by
      unfold splice
      rw [Nat.zero_add, List.take_append_of_le_length (by rw [hfl2]; omega), flatten_takeF rows2 s.1 hr2.len, List.append_assoc]⟩
    have hrt := rows_take hr2 s.1
    rw [ht] at hrt
    refine fun hc => k _ _ N2 (rows2.take s.1) ⟨by rw [hrt.flen], .inr ⟨b, c, Z, by rw [hn], by omega, g2, g3, ?_⟩⟩ hrt (fun x hx hxN => ⟨?_, fun e => hx (by rw [hvf]; exact e)⟩) hN2 (hm2.set (hm2.lt g4) _) hc
    · rw [← hcs]; exact upd_same _ _ _
    · have hxb : x ≠ b := fun e => hx (by rw [hvf, e]; rfl)
      exact (upd_ne _ _ hxb).trans (hM2 x hx hxN)
/-- chosen -/
theorem chosen_c {v w : Value} {l : List Fc} {a b : Int} {want : Bool} (hv : fctsD F v l) (hW : isW F w a b) (hl : l.length ≤ 1000000000) (hk : ∀ f ∈ l, f.1.length ≤ 10000000000)
    (k : ∀ v' F' N', (Hp.mk F' M N').wf → subF F F' → N ≤ N' → fctsD F' v' (l.filter (ofK a b want)) → K v' ⟨F', M, N'⟩) :
    callv Tryz.prog (.func (.func 40) #[] #[]) #[v, w, .bool want] K E ⟨F, M, N⟩ := by
  refine callv_of_text mixed Tryz.func40 (by kernel_rfl) (t40 _ E _ _ _) (fun hw => ?_)
  have hm : clean M N := hw.m
  have hW' := hW
  obtain ⟨c1, c2, hwf, _, _⟩ := hW'
  refine nw_r (cs := [w]) (fun b1 hb1 => ?_) (by rw [hwf]; rfl)
  refine nw_r (cs := [.bool want]) (fun b2 hb2 => ?_)
  generalize hM2 : upd (upd M b1 _) b2 _ = M2
  have g1 : ∃ e, M2 b1 = some (.cells e [w] 1) := ⟨_, by rw [← hM2]; exact (upd_ne _ _ (by omega)).trans (upd_same _ _ _)⟩
  have g2 : ∃ e, M2 b2 = some (.cells e [.bool want] 1) := ⟨_, by rw [← hM2]; exact upd_same _ _ _⟩
  have hM2' : ∀ q, q < N → M2 q = M q := fun q hq => by rw [← hM2]; exact (upd_ne _ _ (by omega)).trans (upd_ne _ _ (by omega))
  clear hM2
  obtain ⟨ty1, g1⟩ := g1
  obtain ⟨ty2, g2⟩ := g2
  refine callv_go (fun hc => ⟨_, frz_wf hm hM2' hc, ?_⟩)
  have hs := subF_frzAll (N := N) hc
  have f1 := frz_at (F := F) (N := N) (b := b1) (by omega) g1
  have f2 := frz_at (F := F) (N := N) (b := b2) (by omega) g2
  generalize frzAll F M2 N = F1 at *
  clear hc g1 g2 hM2' M2
  refine cclone_o (hv.mono hs) hl hk (fun v2 F2 M2 N2 rows hF2 hN2 ho hr hM2 hm2 hw2 => ?_)
  refine delf_c (p := ofK a b want) ho hr hl (by omega) (fun M1 N1 cs f hf kk => chosen1_c (hF2 _ _ f1) (hF2 _ _ f2) (hW.mono (hs.trans hF2)) hf kk) (fun v3 M3 N3 rows3 ho3 hr3 hM3 hN3 hm3 hc3 => ⟨_, wk_refl hc3, fun hw3 => ?_⟩)
  have hX : ∀ q, q < N → M3 q = M q := fun q hq => ((hM3 q (fun e => by have := (ho.ge q e).1; omega) (by omega)).1).trans (hM2 q (by omega))
  have ho3' : own M3 N 48 2 v3 (l.filter (ofK a b want)).length rows3.flatten := ho3.keep (fun _ _ => rfl) (by omega)
  exact fun hc => ⟨_, frz_wf hm hX hc, fun hw' => k _ _ _ hw' ((hs.trans hF2).trans (subF_frzAll hc)) (by omega) (fcts_frzA hc ho3' hr3)⟩
end Go.Proofs.YtgjdjdjhoipfmaaGreatDoor.A
open Go Go.RowKit Go.Proofs.YtgjdjdjhoipfmaaGreatDoor.K Go.Proofs.YtgjdjdjhoipfmaaGreatDoor.T
set_option linter.unusedVariables false
set_option linter.unusedSimpArgs false
namespace Go.Proofs.YtgjdjdjhoipfmaaGreatDoor.A
variable {F F' : Nat → Option (List Value)} {M M' : Nat → Option Chunk} {N N' : Nat} {K : Kont} {E : PanK}
def entsD (F : Nat → Option (List Value)) (v : Value) (h : List En) : Prop := ∃ rows, sF F 2 v h.length rows.flatten ∧ rowsF (entD F) 2 rows h
theorem entsD.mono {v : Value} {t : List En} (h : entsD F v t) (hF : subF F F') : entsD F' v t := let ⟨rows, h1, h2⟩ := h; ⟨rows, h1.mono hF, h2.mono fun _ _ hr => hr.mono hF⟩
theorem entsD.form {v : Value} {t : List En} (h : entsD F v t) : ∃ a c, v = .slice a t.length c := let ⟨rows, h1, _⟩ := h; let ⟨a, c, h2, _⟩ := h1.form; ⟨a, c, h2⟩
theorem entsD.nil {c : Nat} : entsD F (.slice none 0 c) [] := ⟨[], sF.nil _ _ _, rowsF.nil _ _⟩
theorem ents_frzA {v : Value} {t : List En} {rows : List (List Value)} (hc : (Hp.mk F M' N').wf) (ho : own M' N 52 2 v t.length rows.flatten) (hr : rowsF (entD F) 2 rows t) : entsD (frzAll F M' N) v t :=
  ⟨rows, ho.rd.frz hc (fun b hb => .inl (ho.ge b hb).1), hr.mono fun _ _ h => h.mono (subF_frzAll hc)⟩
theorem ofK_true (a b : Int) : ofK a b true = inR a b := by funext f; unfold ofK; cases inR a b f <;> rfl
theorem ofK_false (a b : Int) : ofK a b false = outR a b := by funext f; unfold ofK outR; cases inR a b f <;> rfl
theorem take_fm (f : En → Option En) (h : List En) {i : Nat} (hi : i < h.length) : (h.take (i + 1)).filterMap f = (h.take i).filterMap f ++ (f h[i]).toList := by
  rw [List.take_add_one, List.getElem?_eq_getElem hi, Option.toList_some, List.filterMap_append]
  cases hf : f h[i] <;> simp [hf]
theorem fm_len (f : En → Option En) (h : List En) (i : Nat) : ((h.take i).filterMap f).length ≤ i := by
  have := List.length_filterMap_le f (h.take i)
  rw [List.length_take] at this; omega
theorem okH.keys {l : List Dm} {n m : Nat} {h : List En} (o : okH l n m h) (hl : l.length ≤ 1000) {e : En} (he : e ∈ h) : ∀ f ∈ e.2, f.1.length ≤ 10000000000 := fun f hf => by
  have := inF_len (o.fi e he f hf); omega
set_option maxRecDepth 10000 in
/-- Entries of a cube -/
theorem centries_c {B g : Nat} {hv dv : Value} {rows : List (List Value)} {l : List Dm} {h : List En} {a b : Int} (hC : isCube F M B g hv dv rows l h) (o : okH l 5000 200 h) (hdl : l.length ≤ 1000)
    (k : ∀ v' F' N', (Hp.mk F' M N').wf → subF F F' → N ≤ N' → entsD F' v' (entF a b h) → K v' ⟨F', M, N'⟩) :
    callv Tryz.prog (.func (.func 19) #[] #[]) #[.pointer (some ⟨g, 0, none⟩), .int .i64 a, .int .i64 b] K E ⟨F, M, N⟩ := by
  refine callv_of_text mixed Tryz.func19 (by kernel_rfl) (t19 _ E _ _ _) (fun hw => ?_)
  have hm : clean M N := hw.m
  have hgN := hm.lt hC.gg
  have hol := o.le
  have hlv : lenV hv = some (.int .i64 (h.length : Nat)) := by obtain ⟨x, c, e, _⟩ := hC.oo.form; rw [e]; rfl
  try simp only [gdTT, gdFF, gdTF, gdFT, pvS, pickT, pickF, faP, lenS, capS, nilP, exA, exB, exC, notB, cndT, cndF, Bool.not_true, Bool.not_false, Nat.zero_add, Nat.add_zero]
  refine ldM (v := hv) ?_ hC.gg
  refine pv_r hlv ?_
  refine l19_1_1_0_1_0_0 (σ := Nat × Value) (fun s => s.2) (fun s => .int .i64 (s.1 : Nat))
    (fun s h' => ∃ F' M' N' rows', h' = ⟨F', M', N'⟩ ∧ subF F F' ∧ N ≤ N' ∧ (∀ q, q < N → M' q = M q) ∧ clean M' N' ∧ s.1 ≤ h.length ∧ own M' N 52 2 s.2 (entF a b (h.take s.1)).length rows'.flatten ∧ rowsF (entD F') 2 rows' (entF a b (h.take s.1))) (fun s => h.length - s.1) (0, .slice none 0 0) rfl rfl
    (fun hw2 => ⟨_, wk_refl hw2, F, M, N, [], rfl, subF.refl _, Nat.le_refl _, fun _ _ => rfl, hm, Nat.zero_le _, own.nil, rowsF.nil _ _⟩) (fun kk s j h1 hI hw2 next => ?_)
  obtain ⟨F1, M1, N1, rows1, rfl, hF1, hN1, hM1, hm1, hi, ho, hr⟩ := hI
  refine lss_r (fun hlt => ?_) (fun hge => ?_)
  · have i1 : s.1 < h.length := by omega
    have e1 := take_fm (entE a b) h i1
    have hle : (entF a b (h.take s.1)).length ≤ s.1 := fm_len (entE a b) h s.1
    try simp only [gdTT, gdFF, gdTF, gdFT, pvS, pickT, pickF, faP, lenS, capS, nilP, exA, exB, exC, notB, cndT, cndF, Bool.not_true, Bool.not_false, Nat.zero_add, Nat.add_zero]
    have hoo1 : own M1 B 52 2 hv h.length rows.flatten := hC.oo.keep (fun q hq => hM1 q (hC.oo.lt hm q hq)) (Nat.le_refl _)
    refine orow_r hoo1 hC.rr (by decide) i1 fun p r _ hR _ hr1 => ?_
    obtain ⟨fv, rfl, hfv, hfl⟩ := hR
    have hfm := o.fl _ (List.getElem_mem i1)
    refine nw_r (fun b4 hb4 => ?_)
    refine stM (cs' := [.int .u32 h[s.1].1, fv]) ?_ (upd_same _ _ _) rfl rfl hr1
    rw [upd_upd]
    have hbox := upd_same M1 b4 (some (.cells 52 [.int .u32 h[s.1].1, fv] [Value.int .u32 0, Value.slice none 0 0].length))
    have ho2 := ho.box hm1 hb4 (some (.cells 52 [.int .u32 h[s.1].1, fv] [Value.int .u32 0, Value.slice none 0 0].length))
    have hm2 := hm1.new hb4 (some (.cells 52 [.int .u32 h[s.1].1, fv] [Value.int .u32 0, Value.slice none 0 0].length))
    have hM2 : ∀ q, q < N → upd M1 b4 (some (.cells 52 [.int .u32 h[s.1].1, fv] [Value.int .u32 0, Value.slice none 0 0].length)) q = M q := fun q hq => (upd_ne _ _ (by omega)).trans (hM1 q hq)
    generalize upd M1 b4 _ = M2 at *
    try simp only [gdTT, gdFF, gdTF, gdFT, pvS, pickT, pickF, faP, lenS, capS, nilP, exA, exB, exC, notB, cndT, cndF, Bool.not_true, Bool.not_false, Nat.zero_add, Nat.add_zero]
    refine ldM (v := fv) ?_ hbox
    refine within_cube_c (fun w F3 N3 hw3 hF3 hN3 hW => ?_)
    refine ⟨ldV_c (row_M hbox) rfl, ?_⟩
    refine chosen_c (hfv.mono (hF1.trans hF3)) hW (by omega) (o.keys hdl (List.getElem_mem i1)) (fun v4 F4 N4 hw4 hF4 hN4 hf4 => ?_)
    rw [ofK_true] at hf4
    obtain ⟨frows, hf4a, hf4b⟩ := hf4
    refine lenF_r hf4a ?_
    have hF4' := (hF1.trans hF3).trans hF4
    refine gtr_r (fun h0 => ?_) (fun h0 => ?_)
    · try simp only [gdTT, gdFF, gdTF, gdFT, pvS, pickT, pickF, faP, lenS, capS, nilP, exA, exB, exC, notB, cndT, cndF, Bool.not_true, Bool.not_false, Nat.zero_add, Nat.add_zero]
      refine ldM (v := .int .u32 h[s.1].1) ?_ hbox
      obtain ⟨a5, c5, e5, _⟩ := hf4a.form
      have hflen : (h[s.1].2.filter (inR a b)).length ≤ 200 := by have := List.length_filter_le (inR a b) h[s.1].2; omega
      have he4 : entD F4 [.int .u32 h[s.1].1, v4] (h[s.1].1, h[s.1].2.filter (inR a b)) := ⟨v4, rfl, ⟨frows, hf4a, hf4b⟩, by simp only; omega⟩
      refine pv_r (v := .agg #[.int .u32 h[s.1].1, v4]) (by rw [e5]; kernel_rfl) ?_
      refine push_r (new := [.int .u32 h[s.1].1, v4]) ho2 hw4.m (by omega) (by rw [e5]; kernel_rfl) rfl he4.one.2 (by omega) (by unfold maxLen; omega) (fun p v' M5 N5 g1 g2 g3 g4 => ?_)
      rw [t19_1_1_0_1_0_0_1_1_1]
      refine inc_r (by omega) ?_
      have e2 : entF a b (h.take (s.1 + 1)) = entF a b (h.take s.1) ++ [(h[s.1].1, h[s.1].2.filter (inR a b))] := by
        unfold entF
        rw [e1]
        unfold entE
        rw [if_pos (by omega)]; rfl
      refine next (s.1 + 1, v') _ _ (by simp only; omega) (fun hw5 => ⟨_, wk_refl hw5, F4, M5, N5, rows1 ++ [[.int .u32 h[s.1].1, v4]], rfl, hF4', by omega, fun q hq => ?_, g4, i1, ?_, ?_⟩)
      · exact ((g2 q (fun e => by have := (ho2.ge q e).1; omega) (by omega)).1).trans (hM2 q hq)
      · simp only
        rw [e2, List.length_append, List.length_singleton]
        exact (by simpa using g1 : own M5 N 52 2 v' _ (rows1 ++ [[.int .u32 h[s.1].1, v4]]).flatten)
      · simp only
        rw [e2]
        exact rowsF_snoc1 (hr.mono fun _ _ h => h.mono (hF3.trans hF4)) he4.one he4
    · try simp only [gdTT, gdFF, gdTF, gdFT, pvS, pickT, pickF, faP, lenS, capS, nilP, exA, exB, exC, notB, cndT, cndF, Bool.not_true, Bool.not_false, Nat.zero_add, Nat.add_zero]
      rw [t19_1_1_0_1_0_0_1_1_1]
      refine inc_r (by omega) ?_
      have e2 : entF a b (h.take (s.1 + 1)) = entF a b (h.take s.1) := by
        unfold entF
        rw [e1]
        unfold entE
        rw [if_neg (by omega)]; simp
      refine next (s.1 + 1, s.2) _ _ (by simp only; omega) (fun hw5 => ⟨_, wk_refl hw5, F4, M2, N4, rows1, rfl, hF4', by omega, hM2, hw4.m, i1, ?_, ?_⟩)
      · simp only
        rw [e2]; exact ho2
      · simp only
        rw [e2]; exact hr.mono fun _ _ h => h.mono (hF3.trans hF4)
  · try simp only [gdTT, gdFF, gdTF, gdFT, pvS, pickT, pickF, faP, lenS, capS, nilP, exA, exB, exC, notB, cndT, cndF, Bool.not_true, Bool.not_false, Nat.zero_add, Nat.add_zero]
    rw [t19_1_1_1]
    rw [List.take_of_length_le (by omega)] at ho hr
    exact fun hc => ⟨_, frz_wf hm hM1 hc, fun hw' => k _ _ _ hw' (hF1.trans (subF_frzAll hc)) hN1 (ents_frzA hc ho hr)⟩
theorem rightF_eq (l : List Dm) (a b last : Int) (e : En) (es : List En) : rightF l a b last (e :: es) = (decide (last < e.1) && fitsF l e.2 && (e.2.all (inR a b) && rightF l a b e.1 es)) := rfl
theorem rightF_nil (l : List Dm) (a b last : Int) : rightF l a b last [] = true := rfl
theorem out_all {a b : Int} {l : List Fc} : (l.filter (outR a b)).length = 0 ↔ l.all (inR a b) = true := by
  rw [List.length_eq_zero_iff, List.filter_eq_nil_iff, List.all_eq_true]
  constructor
  · intro h f hf
    have := h f hf
    unfold outR at this
    cases hi : inR a b f
    · rw [hi] at this; simp at this
    · rfl
  · intro h f hf
    unfold outR
    rw [h f hf]; decide
set_option maxRecDepth 10000 in
/-- right -/
theorem cright_c {B g : Nat} {hv dv ev w : Value} {rows : List (List Value)} {l : List Dm} {h es : List En} {a b : Int} (hC : isCube F M B g hv dv rows l h) (hdl : l.length ≤ 1000) (hes : entsD F ev es) (hel : es.length ≤ 140737488351232) (hW : isW F w a b)
    (k : ∀ F' N', (Hp.mk F' M N').wf → subF F F' → N ≤ N' → K (.bool (rightF l a b 0 es)) ⟨F', M, N'⟩) :
    callv Tryz.prog (.func (.func 50) #[] #[]) #[.pointer (some ⟨g, 0, none⟩), w, ev] K E ⟨F, M, N⟩ := by
  refine callv_of_text mixed Tryz.func50 (by kernel_rfl) (t50 _ E _ _ _) (fun hw => ?_)
  have hm : clean M N := hw.m
  have hgN := hm.lt hC.gg
  obtain ⟨erows, he1, he2⟩ := hes
  refine lenF_r he1 ?_
  refine l50_1_1_0_1_0_0 (σ := Nat × Int) (fun s => .int .u32 s.2) (fun s => .int .i64 (s.1 : Nat))
    (fun s h' => ∃ F' N', h' = ⟨F', M, N'⟩ ∧ subF F F' ∧ N ≤ N' ∧ s.1 ≤ es.length ∧ rightF l a b 0 es = rightF l a b s.2 (es.drop s.1)) (fun s => es.length - s.1) (0, 0) rfl rfl
    (fun hw2 => ⟨_, wk_refl hw2, F, N, rfl, subF.refl _, Nat.le_refl _, Nat.zero_le _, rfl⟩) (fun kk s j h1 hI hw2 next => ?_)
  obtain ⟨F1, N1, rfl, hF1, hN1, hi, hrt⟩ := hI
  refine lss_r (fun hlt => ?_) (fun hge => ?_)
  · have i1 : s.1 < es.length := by omega
    rw [List.drop_eq_getElem_cons i1, rightF_eq] at hrt
    have hm1 : clean M N1 := hw2.m
    try simp only [gdTT, gdFF, gdTF, gdFT, pvS, pickT, pickF, faP, lenS, capS, nilP, exA, exB, exC, notB, cndT, cndF, Bool.not_true, Bool.not_false, Nat.zero_add, Nat.add_zero]
    refine row_r (he1.mono hF1) (he2.mono fun _ _ h => h.mono hF1) (by decide) i1 (fun p r _ hR hrl hr1 => ?_)
    obtain ⟨fv, hre, hfv, hfl⟩ := hR
    subst hre
    refine nw_r (fun b4 hb4 => ?_)
    refine stM (cs' := [.int .u32 es[s.1].1, fv]) ?_ (upd_same _ _ _) rfl rfl hr1
    rw [upd_upd]
    have hbox := upd_same M b4 (some (.cells 52 [.int .u32 es[s.1].1, fv] [Value.int .u32 0, Value.slice none 0 0].length))
    have hg2 := (upd_ne M (b := b4) (k := g) (some (.cells 52 [.int .u32 es[s.1].1, fv] [Value.int .u32 0, Value.slice none 0 0].length)) (by omega)).trans hC.gg
    have hsub : ∀ {F' : Nat → Option (List Value)} {n : Nat}, (Hp.mk F' (upd M b4 (some (.cells 52 [.int .u32 es[s.1].1, fv] [Value.int .u32 0, Value.slice none 0 0].length))) n).wf → (Hp.mk F' (upd M b4 (some (.cells 52 [.int .u32 es[s.1].1, fv] [Value.int .u32 0, Value.slice none 0 0].length))) n).wk ⟨F', M, n⟩ := fun hc => wk_drop hc (subM_drop (subM_refl _) (hm1 _ hb4))
    generalize upd M b4 _ = M2 at *
    try simp only [gdTT, gdFF, gdTF, gdFT, pvS, pickT, pickF, faP, lenS, capS, nilP, exA, exB, exC, notB, cndT, cndF, Bool.not_true, Bool.not_false, Nat.zero_add, Nat.add_zero]
    refine ldM (v := .int .u32 es[s.1].1) ?_ hbox
    refine leq_r (fun h2 => ?_) (fun h2 => ?_)
    · try simp only [gdTT, gdFF, gdTF, gdFT, pvS, pickT, pickF, faP, lenS, capS, nilP, exA, exB, exC, notB, cndT, cndF, Bool.not_true, Bool.not_false, Nat.zero_add, Nat.add_zero]
      rw [decide_eq_false (by omega), Bool.false_and, Bool.false_and] at hrt
      exact fun hc => ⟨_, hsub hc, fun hw' => by have := k _ _ hw' hF1 (by omega); rw [hrt] at this; exact this⟩
    rw [decide_eq_true (by omega), Bool.true_and] at hrt
    try simp only [gdTT, gdFF, gdTF, gdFT, pvS, pickT, pickF, faP, lenS, capS, nilP, exA, exB, exC, notB, cndT, cndF, Bool.not_true, Bool.not_false, Nat.zero_add, Nat.add_zero]
    refine ldM (v := fv) ?_ hbox
    try simp only [gdTT, gdFF, gdTF, gdFT, pvS, pickT, pickF, faP, lenS, capS, nilP, exA, exB, exC, notB, cndT, cndF, Bool.not_true, Bool.not_false, Nat.zero_add, Nat.add_zero]
    refine fits_c hg2 (hC.dd.mono hF1) (by omega) hfv hfl (fun N3 hN3 hw3 => ?_)
    cases hfit : fitsF l es[s.1].2
    · rw [hfit, Bool.false_and] at hrt
      try simp only [gdTT, gdFF, gdTF, gdFT, pvS, pickT, pickF, faP, lenS, capS, nilP, exA, exB, exC, notB, cndT, cndF, Bool.not_true, Bool.not_false, Nat.zero_add, Nat.add_zero]
      exact fun hc => ⟨_, hsub hc, fun hw' => by have := k _ _ hw' hF1 (by omega); rw [hrt] at this; exact this⟩
    rw [hfit, Bool.true_and] at hrt
    obtain ⟨f1, f2⟩ := fitsF_of hfit
    try simp only [gdTT, gdFF, gdTF, gdFT, pvS, pickT, pickF, faP, lenS, capS, nilP, exA, exB, exC, notB, cndT, cndF, Bool.not_true, Bool.not_false, Nat.zero_add, Nat.add_zero]
    refine ldM (v := fv) ?_ hbox
    try simp only [gdTT, gdFF, gdTF, gdFT, pvS, pickT, pickF, faP, lenS, capS, nilP, exA, exB, exC, notB, cndT, cndF, Bool.not_true, Bool.not_false, Nat.zero_add, Nat.add_zero]
    refine chosen_c hfv (hW.mono hF1) (by omega) (fun f hf => by have := inF_len (f2 f hf); omega) (fun v4 F4 N4 hw4 hF4 hN4 hf4 => ?_)
    rw [ofK_false] at hf4
    obtain ⟨frows, hf4a, hf4b⟩ := hf4
    try simp only [gdTT, gdFF, gdTF, gdFT, pvS, pickT, pickF, faP, lenS, capS, nilP, exA, exB, exC, notB, cndT, cndF, Bool.not_true, Bool.not_false, Nat.zero_add, Nat.add_zero]
    refine lenF_r hf4a ?_
    refine gtr_r (fun h0 => ?_) (fun h0 => ?_)
    · try simp only [gdTT, gdFF, gdTF, gdFT, pvS, pickT, pickF, faP, lenS, capS, nilP, exA, exB, exC, notB, cndT, cndF, Bool.not_true, Bool.not_false, Nat.zero_add, Nat.add_zero]
      have hall : es[s.1].2.all (inR a b) = false := by
        cases hc : es[s.1].2.all (inR a b)
        · rfl
        · have := out_all.2 hc; omega
      rw [hall, Bool.false_and] at hrt
      exact fun hc => ⟨_, hsub hc, fun hw' => by have := k _ _ hw' (hF1.trans hF4) (by omega); rw [hrt] at this; exact this⟩
    · try simp only [gdTT, gdFF, gdTF, gdFT, pvS, pickT, pickF, faP, lenS, capS, nilP, exA, exB, exC, notB, cndT, cndF, Bool.not_true, Bool.not_false, Nat.zero_add, Nat.add_zero]
      rw [out_all.1 (by omega), Bool.true_and] at hrt
      refine ldM (v := .int .u32 es[s.1].1) ?_ hbox
      refine inc_r (by omega) ?_
      exact next (s.1 + 1, es[s.1].1) _ _ (by simp only; omega) (fun hw5 => ⟨_, hsub hw5, F4, N4, rfl, hF1.trans hF4, by omega, i1, hrt⟩)
  · try simp only [gdTT, gdFF, gdTF, gdFT, pvS, pickT, pickF, faP, lenS, capS, nilP, exA, exB, exC, notB, cndT, cndF, Bool.not_true, Bool.not_false, Nat.zero_add, Nat.add_zero]
    rw [t50_1_1_1]
    rw [List.drop_eq_nil_of_le (by omega), rightF_nil] at hrt
    exact fun hc => ⟨_, wk_refl hc, fun hw' => by have := k _ _ hw' hF1 hN1; rw [hrt] at this; exact this⟩
end Go.Proofs.YtgjdjdjhoipfmaaGreatDoor.A
open Go Go.RowKit Go.Proofs.YtgjdjdjhoipfmaaGreatDoor.K
set_option linter.unusedVariables false
set_option maxRecDepth 100000
namespace Go.Proofs.YtgjdjdjhoipfmaaGreatDoor.T
end Go.Proofs.YtgjdjdjhoipfmaaGreatDoor.T
open Go Go.RowKit Go.Proofs.YtgjdjdjhoipfmaaGreatDoor.K Go.Proofs.YtgjdjdjhoipfmaaGreatDoor.T
set_option linter.unusedVariables false
set_option linter.unusedSimpArgs false
namespace Go.Proofs.YtgjdjdjhoipfmaaGreatDoor.A
variable {F F' : Nat → Option (List Value)} {M M' : Nat → Option Chunk} {N N' : Nat} {K : Kont} {E : PanK}
/-! ### Facts as bytes, of the reference -/
def putB (x : Int) (k : Nat) : Int := IntKind.u8.wrap (x.fdiv (2 ^ (min (8 * k) 64)))
/-- A number's bytes, i of so many. -/
def putI (x : Int) (size i : Nat) : List Int := (List.range i).map fun j => putB x (size - 1 - j)
def putL (x : Int) (size : Nat) : List Int := putI x size size
theorem putI_len (x : Int) (size i : Nat) : (putI x size i).length = i := by simp [putI]
theorem putL_len (x : Int) (size : Nat) : (putL x size).length = size := putI_len _ _ _
/-- Bytes are appended. -/
def appU (F : Nat → Option (List Value)) (M : Nat → Option Chunk) (N B n : Nat) (v : Value) (cs : List Value) (out : List Int) (K : Kont) : Prop :=
  ∀ v' M' N', own M' B 5 1 v' (n + out.length) (cs ++ bts out) → fr M M' N v v' → N ≤ N' → clean M' N' → (Hp.mk F M' N').wf → K v' ⟨F, M', N'⟩
def u64i (x : Int) : Int := IntKind.u64.wrap x
/-- A key, a fact, facts, entries as bytes. -/
def encK (l : List Int) : List Int := l.flatMap fun x => putL (u64i x) 4
def encF (f : Fc) : List Int := putL (u64i (f.1.length : Nat)) 1 ++ (encK f.1 ++ putL (u64i f.2) 8)
def encFs (l : List Fc) : List Int := putL (u64i (l.length : Nat)) 4 ++ l.flatMap encF
def encE (e : En) : List Int := putL (u64i e.1) 4 ++ encFs e.2
def encEs (l : List En) : List Int := putL (u64i (l.length : Nat)) 4 ++ l.flatMap encE
theorem encK_len (l : List Int) : (encK l).length = l.length * 4 := by
  induction l with
  | nil => rfl
  | cons x l ih =>
    unfold encK at ih ⊢
    rw [List.flatMap_cons, List.length_append, ih, putL_len, List.length_cons]; omega
end Go.Proofs.YtgjdjdjhoipfmaaGreatDoor.A
open Go Go.RowKit Go.Proofs.YtgjdjdjhoipfmaaGreatDoor.K Go.Proofs.YtgjdjdjhoipfmaaGreatDoor.T
set_option linter.unusedVariables false
set_option linter.unusedSimpArgs false
namespace Go.Proofs.YtgjdjdjhoipfmaaGreatDoor.A
variable {F F' : Nat → Option (List Value)} {M M' : Nat → Option Chunk} {N N' : Nat} {K : Kont} {E : PanK}
/-! ### The reference's cube -/
/-- The reference's cube of facts. -/
structure isRef (F : Nat → Option (List Value)) (M : Nat → Option Chunk) (g : Nat) (dv lv : Value) (l : List Dm) (h : List En) : Prop where
  gg : M g = some (.cells 102 [dv, lv] 2)
  dd : dimsD F dv l
  ll : entsD F lv h
theorem isRef.keep {g : Nat} {dv lv : Value} {l : List Dm} {h : List En} (hC : isRef F M g dv lv l h) (hF : subF F F') (hM : M' g = M g) : isRef F' M' g dv lv l h := ⟨hM.trans hC.gg, hC.dd.mono hF, hC.ll.mono hF⟩
end Go.Proofs.YtgjdjdjhoipfmaaGreatDoor.A
open Go Go.RowKit Go.Proofs.YtgjdjdjhoipfmaaGreatDoor.K Go.Proofs.YtgjdjdjhoipfmaaGreatDoor.T
set_option linter.unusedVariables false
set_option linter.unusedSimpArgs false
namespace Go.Proofs.YtgjdjdjhoipfmaaGreatDoor.A
variable {F F' : Nat → Option (List Value)} {M M' : Nat → Option Chunk} {N N' : Nat} {K : Kont} {E : PanK}
end Go.Proofs.YtgjdjdjhoipfmaaGreatDoor.A
open Go Go.RowKit Go.Proofs.YtgjdjdjhoipfmaaGreatDoor.K Go.Proofs.YtgjdjdjhoipfmaaGreatDoor.T
set_option linter.unusedVariables false
set_option linter.unusedSimpArgs false
namespace Go.Proofs.YtgjdjdjhoipfmaaGreatDoor.A
variable {F F' : Nat → Option (List Value)} {M M' : Nat → Option Chunk} {N N' : Nat} {K : Kont} {E : PanK}
theorem there_mem {h : List En} {t : Int} (hs : risen h) : there h t = true ↔ ∃ e ∈ h, e.1 = t := by
  constructor
  · intro ht
    have hi := there_lt ht
    rw [there_in hi] at ht
    exact ⟨_, List.getElem_mem hi, of_decide_eq_true ht⟩
  · rintro ⟨e, he, het⟩
    obtain ⟨i, hi, rfl⟩ := List.mem_iff_getElem.1 he
    have e1 : i = place h t := by
      rcases Nat.lt_trichotomy i (place h t) with h1 | h1 | h1
      · have := place_lt hi h1; omega
      · exact h1
      · have hp : place h t < h.length := by omega
        have h2 := place_ge (t := t) hs hp (Nat.le_refl _)
        have h3 := List.pairwise_iff_getElem.1 hs (place h t) i hp hi h1
        omega
    subst e1
    rw [there_in hi]; exact decide_eq_true het
end Go.Proofs.YtgjdjdjhoipfmaaGreatDoor.A
open Go Go.RowKit Go.Proofs.YtgjdjdjhoipfmaaGreatDoor.K Go.Proofs.YtgjdjdjhoipfmaaGreatDoor.T
set_option linter.unusedVariables false
set_option linter.unusedSimpArgs false
namespace Go.Proofs.YtgjdjdjhoipfmaaGreatDoor.A
variable {F F' : Nat → Option (List Value)} {M M' : Nat → Option Chunk} {N N' : Nat} {K : Kont} {E : PanK}
/-- A cell of an element is read; it stays. -/
theorem fldV_r {α : Type} {R : List Value → α → Prop} {sz : Nat} {v : Value} {l : List α} {rows : List (List Value)} {K : Value → Value → Kont} (hv : sF F sz v l.length rows.flatten) (hr : rowsF R sz rows l) (hz : 0 < sz) {i : Nat} (hi : i < l.length) {off : Nat} (ho : off < sz)
    (k : ∀ p q r x, R r l[i] → r.length = sz → r[off]? = some x → (∀ F' M' N', subF F F' → ldV ⟨F', M', N'⟩ false 1 q x) → K p q x ⟨F, M, N⟩) : pv (iaV none sz v (.int .i64 (i : Nat))) (fun p => pv (faV off p) fun q => ld false 1 q (K p q)) ⟨F, M, N⟩ := by
  obtain ⟨b, o, c, cs, r, rfl, hF, _, hR, hl, h1, hle, ht, hj⟩ := row_at hv hr hz hi
  have hx : r[off]? = some (r[off]'(by omega)) := List.getElem?_eq_getElem _
  exact iaN_r hi (pv_r rfl (ld_r (ldV_c (row_F hF) ((hj off ho).trans hx)) (k _ _ r _ hR hl hx (fun F' M' N' hs => ldV_c (row_F (hs _ _ hF)) ((hj off ho).trans hx)))))
/-- The entry of a place in the reference's cube. -/
theorem entD.at {cs : List Value} {e : En} (h : entD F cs e) : ∃ v, cs = [.int .u32 e.1, v] ∧ fctsD F v e.2 := let ⟨v, h1, h2, _⟩ := h; ⟨v, h1, h2⟩
end Go.Proofs.YtgjdjdjhoipfmaaGreatDoor.A
open Go Go.RowKit Go.Proofs.YtgjdjdjhoipfmaaGreatDoor.K Go.Proofs.YtgjdjdjhoipfmaaGreatDoor.T
set_option linter.unusedVariables false
set_option linter.unusedSimpArgs false
namespace Go.Proofs.YtgjdjdjhoipfmaaGreatDoor.A
variable {F F' : Nat → Option (List Value)} {M M' : Nat → Option Chunk} {N N' : Nat} {K : Kont} {E : PanK}
theorem allF_app (a b : List En) : allF (a ++ b) = allF a ++ allF b := by unfold allF; rw [List.map_append, List.flatten_append]
theorem allF_takeLe (h : List En) (i : Nat) : (allF (h.take i)).length ≤ (allF h).length := by
  conv => rhs; rw [← List.take_append_drop i h]
  rw [allF_app, List.length_append]; omega
theorem tillF_mem {h : List En} {t : Int} {f : Fc} (hf : f ∈ tillF h t) : ∃ e ∈ h, f ∈ e.2 := by
  unfold tillF allF at hf
  obtain ⟨x, hx, hfx⟩ := List.mem_flatten.1 hf
  obtain ⟨e, he, rfl⟩ := List.mem_map.1 hx
  exact ⟨e, (List.mem_filter.1 he).1, hfx⟩
def lastT (es : List En) (i : Nat) : Int := if h : 0 < i ∧ i ≤ es.length then es[i - 1].1 else 0
end Go.Proofs.YtgjdjdjhoipfmaaGreatDoor.A
open Go Go.RowKit Go.Proofs.YtgjdjdjhoipfmaaGreatDoor.K Go.Proofs.YtgjdjdjhoipfmaaGreatDoor.T
set_option linter.unusedVariables false
set_option linter.unusedSimpArgs false
namespace Go.Proofs.YtgjdjdjhoipfmaaGreatDoor.A
variable {F F' : Nat → Option (List Value)} {M M' : Nat → Option Chunk} {N N' : Nat} {K : Kont} {E : PanK}
theorem lay1_all {P : En → Prop} {h : List En} {e : En} (h0 : P e) (ha : ∀ d : En, d.1 = e.1 → P d → P (e.1, d.2 ++ e.2)) (hp : ∀ d ∈ h, P d) : ∀ d ∈ lay1 h e, P d := by
  unfold lay1
  split
  · exact withR_all h0 ha hp
  · exact hp
theorem layAll_all {P : En → Prop} (ha : ∀ e d : En, P e → P d → P (e.1, d.2 ++ e.2)) : ∀ {es h : List En}, (∀ d ∈ h, P d) → (∀ e ∈ es, P e) → ∀ d ∈ layAll h es, P d
  | [], h, hp, _ => hp
  | e :: es, h, hp, he => layAll_all ha (es := es) (h := lay1 h e) (lay1_all (he e List.mem_cons_self) (fun d _ hd => ha e d (he e List.mem_cons_self) hd) hp) fun x hx => he x (List.mem_cons_of_mem _ hx)
end Go.Proofs.YtgjdjdjhoipfmaaGreatDoor.A
open Go Go.RowKit Go.Proofs.YtgjdjdjhoipfmaaGreatDoor.K Go.Proofs.YtgjdjdjhoipfmaaGreatDoor.T
set_option linter.unusedVariables false
set_option linter.unusedSimpArgs false
namespace Go.Proofs.YtgjdjdjhoipfmaaGreatDoor.A
variable {F F' : Nat → Option (List Value)} {M M' : Nat → Option Chunk} {N N' : Nat} {K : Kont} {E : PanK}
theorem fctss_two {b : Nat} {u v : Value} {s t : List Fc} (hF : F b = some [u, v]) (hu : fctsD F u s) (hv : fctsD F v t) (hs : s.length ≤ 1000000) (ht : t.length ≤ 1000000) : fctssD F (.slice (some ⟨b, 0, none⟩) 2 2) [s, t] := by
  obtain ⟨a1, c1, e1⟩ := hu.form
  obtain ⟨a2, c2, e2⟩ := hv.form
  have o1 : [u].length = 1 ∧ ∀ c ∈ [u], c.oneCell' = true := ⟨rfl, fun c hc => by rw [List.mem_singleton.1 hc, e1]; rfl⟩
  have o2 : [v].length = 1 ∧ ∀ c ∈ [v], c.oneCell' = true := ⟨rfl, fun c hc => by rw [List.mem_singleton.1 hc, e2]; rfl⟩
  exact ⟨[[u], [v]], sF_lit hF rfl (by decide), rowsF_snoc1 (rowsF_snoc1 (rowsF.nil _ 1) o1 ⟨u, rfl, hu, by omega⟩) o2 ⟨v, rfl, hv, by omega⟩⟩
set_option maxRecDepth 10000 in
/-- with, at any time -/
theorem hwithF_c {B : Nat} {v fv : Value} {rows : List (List Value)} {h : List En} {t : Int} {fs : List Fc} (hv : own M B 52 2 v h.length rows.flatten) (hB : B ≤ N) (hr : rowsF (entD F) 2 rows h) (hs : risen h) (hl : h.length ≤ 10000000000) (hm' : ∀ e ∈ h, e.2.length ≤ 1000000) (hf : fctsD F fv fs) (hfl : fs.length ≤ 1000000) (hk : ∀ f ∈ fs, f.1.length ≤ 10000000000)
    (k : ∀ v' F' M' N' rows', subF F F' → own M' B 52 2 v' (withR h t fs).length rows'.flatten → rowsF (entD F') 2 rows' (withR h t fs) → (∀ q, v.ownBlock ≠ some q → q < N → M' q = M q ∧ v'.ownBlock ≠ some q) → N ≤ N' → clean M' N' → (Hp.mk F' M' N').wf → K v' ⟨F', M', N'⟩) :
    callv Tryz.prog (.func (.func 35) #[] #[]) #[v, .int .u32 t, fv] K E ⟨F, M, N⟩ := by
  cases ht : there h t
  · refine hwith_c hv hB hr hs hl ht hf hfl hk ?_
    rw [← withH_new ht, withH_eq]
    exact k
  have hi := there_lt ht
  rw [← withH_eq, withH_old ht hi] at k
  refine callv_of_text mixed Tryz.func35 (by kernel_rfl) (t35 _ E _ _ _) (fun hw => ?_)
  have hm : clean M N := hw.m
  refine find_c hv hr hs (by omega) (fun N1 hN1 hw1 => ?_)
  rw [ht]
  try simp only [gdTT, gdFF, gdTF, gdFT, pvS, pickT, pickF, faP, lenS, capS, nilP, exA, exB, exC, notB, cndT, cndF, Bool.not_true, Bool.not_false, Nat.zero_add, Nat.add_zero]
  refine ofld_r (off := 1) hv hr (by decide) hi fun b c r x hvf hcell hri hR hrl hx => ?_
  obtain ⟨ov, rfl, hov, hovl⟩ := hR
  have hx' : x = ov := by simpa using hx.symm
  subst hx'
  have het : h[place h t].1 = t := by rw [there_in hi] at ht; exact of_decide_eq_true ht
  have hom := hm' _ (List.getElem_mem hi)
  refine cclone_c hf (by omega) hk (fun v2 F2 N2 hw2 hF2 hN2 hf2 => ?_)
  obtain ⟨cs, tot, hMb, hcs⟩ := hcell
  refine ⟨⟨cs, .inr ⟨_, _, hMb⟩, by rw [Nat.zero_add]; exact hcs⟩, ?_⟩
  have hov2 := hov.mono hF2
  obtain ⟨a1, c1, e1⟩ := hov2.form
  obtain ⟨a2, c2, e2⟩ := hf2.form
  have hm2 : clean M N2 := hw2.m
  refine nws_r (cs := [x, v2]) (by rw [e1, e2]; kernel_rfl) (fun b9 hb9 => ?_)
  refine callv_go (fun hc => ⟨_, wk_P (p := fun q => q = b9) hc, ?_⟩)
  have hs3 := subF_frzP (p := fun q => q = b9) hc
  have f9 := frzP_at (F := F2) (p := fun q => q = b9) rfl (upd_same M b9 (some (.cells 40 [x, v2] [x, v2].length)))
  have hMK : ∀ q, q < N2 → keepM (upd M b9 (some (.cells 40 [x, v2] [x, v2].length))) (fun q => ¬ q = b9) q = M q := fun q hq => (keepM_in (by omega)).trans (upd_ne _ _ (by omega))
  have hmK : clean (keepM (upd M b9 (some (.cells 40 [x, v2] [x, v2].length))) (fun q => ¬ q = b9)) (b9 + 1) := keepM_clean (hm2.new hb9 _)
  generalize frzP F2 _ _ = F3 at *
  generalize keepM _ _ = M3 at *
  clear hc
  refine concatF_c (ts := [h[place h t].2, fs]) (fctss_two f9 (hov2.mono hs3) (hf2.mono hs3) hom hfl) (by simp; omega) (by simp) (fun v10 F4 N4 hw4 hF4 hN4 h10 => ?_)
  have ef : [h[place h t].2, fs].flatten = h[place h t].2 ++ fs := by simp
  rw [ef] at h10
  obtain ⟨a10, c10, e10⟩ := h10.form
  have hv4 : own M3 B 52 2 v h.length rows.flatten := hv.keep (fun q hq => hMK q (by have := hv.lt hm q hq; omega)) (Nat.le_refl _)
  have F04 := (hF2.trans hs3).trans hF4
  refine oput_r (y := (t, h[place h t].2 ++ fs)) hv4 (hr.mono fun _ _ h => h.mono F04) (by decide) hi (by rw [e10]; rfl) (by rw [e10]; rfl) (fun r' hr' => ?_) (fun p q M5 rows' g1 g2 g3 g4 => ?_)
  · rw [hri] at hr'
    cases hr'
    refine ⟨v10, by simp [het], h10, by simp only [List.length_append]; omega⟩
  exact fun hc => ⟨_, wk_refl hc, fun hw' => k v F4 M5 N4 rows' F04 g1 g2 (fun q hq hqN => ⟨(g3 q hq).trans (hMK q (by omega)), hq⟩) (by omega) (g4 _ hw4.m) hw'⟩
theorem longH_t {h : List En} {i : Nat} (hi : i < h.length) (h0 : 200 < h[i].2.length) : longH h = true := List.any_eq_true.2 ⟨_, List.getElem_mem hi, decide_eq_true h0⟩
/-- Is an entry too long? -/
theorem long1_c {cs : List Value} {e : En} (he : entD F cs e) (k : ∀ N', N ≤ N' → (Hp.mk F M N').wf → K (.bool (decide (200 < e.2.length))) ⟨F, M, N'⟩) :
    callv Tryz.prog (.func (.func 51) #[] #[]) #[.agg cs.toArray] K E ⟨F, M, N⟩ := by
  refine callv_of_text mixed Tryz.func51 (by kernel_rfl) (t51 _ E _) (fun hw => ?_)
  have hm : clean M N := hw.m
  obtain ⟨v, rfl, hv, hvl⟩ := he
  refine nw_r (cs := [.int .u32 e.1, v]) (fun b hb => ?_)
  try simp only [gdTT, gdFF, gdTF, gdFT, pvS, pickT, pickF, faP, lenS, capS, nilP, exA, exB, exC, notB, cndT, cndF, Bool.not_true, Bool.not_false, Nat.zero_add, Nat.add_zero]
  refine ldM (v := v) ?_
  obtain ⟨frows, h1, h2⟩ := hv
  refine lenF_r h1 ?_
  refine gtr_r (fun h0 => ?_) (fun h0 => ?_)
  · rw [decide_eq_true (by omega)] at k
    exact fun hc => ⟨⟨F, M, b + 1⟩, wk_drop hc (subM_drop (subM_refl _) (hm _ hb)), fun hw' => k _ (by omega) hw'⟩
  · rw [decide_eq_false (by omega)] at k
    exact fun hc => ⟨⟨F, M, b + 1⟩, wk_drop hc (subM_drop (subM_refl _) (hm _ hb)), fun hw' => k _ (by omega) hw'⟩
/-- Is one of one's own entries too long? -/
theorem long_c {B : Nat} {v : Value} {rows : List (List Value)} {h : List En} (hv : own M B 52 2 v h.length rows.flatten) (hr : rowsF (entD F) 2 rows h) (hl : h.length ≤ 10000000000) (k : ∀ N', N ≤ N' → (Hp.mk F M N').wf → K (.bool (longH h)) ⟨F, M, N'⟩) :
    callv Tryz.prog (.func (.func 52) #[] #[]) #[v, .func (.func 51) #[] #[]] K E ⟨F, M, N⟩ := by
  refine callv_of_text mixed Tryz.func52 (by kernel_rfl) (t52 _ E _ _) (fun hw => ?_)
  refine callv_of_text mixed Tryz.func91 (by kernel_rfl) (t91 _ E _ _) (fun hw => ?_)
  have hlv : lenV v = some (.int .i64 (h.length : Nat)) := by obtain ⟨a, c, e, _⟩ := hv.form; rw [e]; rfl
  refine pv_r hlv ?_
  refine l91_1_0_1_0_0 (σ := Nat) (fun i => .int .i64 (i : Nat)) (fun i h' => ∃ N', h' = ⟨F, M, N'⟩ ∧ N ≤ N' ∧ i ≤ h.length ∧ longH h = longH (h.drop i)) (fun i => h.length - i) 0 rfl
    (fun hw1 => ⟨_, wk_refl hw1, N, rfl, Nat.le_refl _, Nat.zero_le _, rfl⟩) (fun kk i j h1 hI hw1 next => ?_)
  obtain ⟨N1, rfl, hN1, hi, he⟩ := hI
  refine lss_r (fun hlt => ?_) (fun hge => ?_)
  · have i1 : i < h.length := by omega
    try simp only [gdTT, gdFF, gdTF, gdFT, pvS, pickT, pickF, faP, lenS, capS, nilP, exA, exB, exC, notB, cndT, cndF, Bool.not_true, Bool.not_false, Nat.zero_add, Nat.add_zero]
    refine orow_r hv hr (by decide) i1 fun q r _ hR _ _ => long1_c hR (fun N2 hN2 hw2 => ?_)
    by_cases h0 : 200 < h[i].2.length
    · rw [decide_eq_true h0]
      refine cnd_t ?_
      refine fun hc => ⟨_, wk_refl hc, fun hw' => geq_t (by omega) fun hc => ⟨_, wk_refl hc, fun hw' => ?_⟩⟩
      have := k N2 (by omega) hw'
      rw [longH_t i1 h0] at this
      exact this
    · rw [decide_eq_false h0]
      refine cnd_f ?_
      refine inc_r (by omega) ?_
      refine next (i + 1) _ _ (by omega) (fun hw3 => ⟨_, wk_refl hw3, N2, rfl, by omega, i1, ?_⟩)
      rw [he, List.drop_eq_getElem_cons i1]
      unfold longH
      rw [List.any_cons, decide_eq_false h0, Bool.false_or]
  · try simp only [gdTT, gdFF, gdTF, gdFT, pvS, pickT, pickF, faP, lenS, capS, nilP, exA, exB, exC, notB, cndT, cndF, Bool.not_true, Bool.not_false, Nat.zero_add, Nat.add_zero]
    rw [t91_1_1]
    refine fun hc => ⟨_, wk_refl hc, fun hw' => geq_f (by omega) fun hc => ⟨_, wk_refl hc, fun hw' => ?_⟩⟩
    have := k N1 hN1 hw'
    rw [he, List.drop_eq_nil_of_le (by omega)] at this
    exact this
end Go.Proofs.YtgjdjdjhoipfmaaGreatDoor.A
open Go Go.RowKit Go.Proofs.YtgjdjdjhoipfmaaGreatDoor.K Go.Proofs.YtgjdjdjhoipfmaaGreatDoor.T
set_option linter.unusedVariables false
set_option linter.unusedSimpArgs false
namespace Go.Proofs.YtgjdjdjhoipfmaaGreatDoor.A
variable {F F' : Nat → Option (List Value)} {M M' : Nat → Option Chunk} {N N' : Nat} {K : Kont} {E : PanK}
theorem layAll_take (h es : List En) {i : Nat} (hi : i < es.length) : layAll h (es.take (i + 1)) = lay1 (layAll h (es.take i)) es[i] := by
  unfold layAll
  rw [List.take_add_one, List.getElem?_eq_getElem hi, Option.toList_some, List.foldl_append]; rfl
set_option maxRecDepth 10000 in
set_option maxHeartbeats 4000000 in
/-- Replace -/
theorem creplace_c {B g : Nat} {hv dv ev : Value} {rows : List (List Value)} {l : List Dm} {h es : List En} {a b : Int} (hC : isCube F M B g hv dv rows l h) (hB : B ≤ N) (o : okH l 5000 200 h) (hdl : l.length ≤ 1000) (hes : entsD F ev es) (hel : es.length ≤ 140737488351232) (heT : ∀ e ∈ es, e.1 < 4294967296)
    (k : ∀ hv' F' M' N' rows', subF F F' → isCube F' M' B g hv' dv rows' l (replF l a b h es) → (∀ q, hv.ownBlock ≠ some q → q ≠ g → q < N → M' q = M q ∧ hv'.ownBlock ≠ some q) → N ≤ N' → clean M' N' → (Hp.mk F' M' N').wf → K (.int .u16 ((replE l a b h es : Nat) : Int)) ⟨F', M', N'⟩) :
    callv Tryz.prog (.func (.func 26) #[] #[]) #[.pointer (some ⟨g, 0, none⟩), .int .i64 a, .int .i64 b, ev] K E ⟨F, M, N⟩ := by
  refine callv_of_text mixed Tryz.func26 (by kernel_rfl) (t26 _ E _ _ _ _) (fun hw => ?_)
  have hm : clean M N := hw.m
  have hgN := hm.lt hC.gg
  have hol := o.le
  have hgB := hC.gB
  have hlv : lenV hv = some (.int .i64 (h.length : Nat)) := by obtain ⟨x, c, e, _⟩ := hC.oo.form; rw [e]; rfl
  have same : replE l a b h es ≠ 0 → ∀ F' M' N', (Hp.mk F' M' N').wf → subF F F' → N ≤ N' → (∀ q, q < N → M' q = M q) → K (.int .u16 ((replE l a b h es : Nat) : Int)) ⟨F', M', N'⟩ := fun hne F' M' N' hw' hF hN hM => by
    refine k hv F' M' N' rows hF ?_ (fun q hq _ hqN => ⟨hM q hqN, hq⟩) hN hw'.m hw'
    unfold replF; rw [if_neg hne]
    exact hC.keep hF (fun q hq => hM q (hC.lt hm q hq).2)
  refine within_cube_c (fun w F1 N1 hw1 hF1 hN1 hW => ?_)
  refine cright_c (hC.keep (M' := M) hF1 (fun _ _ => rfl)) hdl (hes.mono hF1) (by omega) hW (fun F2 N2 hw2 hF2 hN2 => ?_)
  have F02 := hF1.trans hF2
  cases hrt : rightF l a b 0 es
  · have e1 : replE l a b h es = 1 := by unfold replE; rw [if_pos hrt]
    try simp only [gdTT, gdFF, gdTF, gdFT, pvS, pickT, pickF, faP, lenS, capS, nilP, exA, exB, exC, notB, cndT, cndF, Bool.not_true, Bool.not_false, Nat.zero_add, Nat.add_zero]
    refine fun hc => ⟨_, wk_refl hc, fun hw' => ?_⟩
    have := same (by omega) _ _ _ hw' F02 (by omega) (fun _ _ => rfl)
    rw [e1] at this; exact this
  have hrE : replE l a b h es = if 5000 < (replH a b h es).length ∨ longH (replH a b h es) = true then 3 else 0 := by unfold replE; rw [if_neg (by rw [hrt]; decide)]
  obtain ⟨er1, er2⟩ := rightF_all hrt
  have hen := rightF_len hrt (by decide : (0 : Int) < 4294967296) heT
  try simp only [gdTT, gdFF, gdTF, gdFT, pvS, pickT, pickF, faP, lenS, capS, nilP, exA, exB, exC, notB, cndT, cndF, Bool.not_true, Bool.not_false, Nat.zero_add, Nat.add_zero]
  refine ldM (v := hv) ?_ hC.gg
  refine pv_r hlv ?_
  refine l26_1_1_1_1_0_1_0_0 (σ := Nat × Value) (fun s => s.2) (fun s => .int .i64 (s.1 : Nat))
    (fun s h' => ∃ F' M' N' rows', h' = ⟨F', M', N'⟩ ∧ subF F2 F' ∧ N ≤ N' ∧ (∀ q, q < N → M' q = M q) ∧ clean M' N' ∧ s.1 ≤ h.length ∧ own M' N 52 2 s.2 (restH a b (h.take s.1)).length rows'.flatten ∧ rowsF (entD F') 2 rows' (restH a b (h.take s.1))) (fun s => h.length - s.1) (0, .slice none 0 0) rfl rfl
    (fun hw3 => ⟨_, wk_refl hw3, F2, M, N2, [], rfl, subF.refl _, by omega, fun _ _ => rfl, hw2.m, Nat.zero_le _, own.nil, rowsF.nil _ _⟩) (fun kk s j h1 hI hw3 next => ?_)
  · obtain ⟨F3, M3, N3, rows3, rfl, hF3, hN3, hM3, hm3, hi, ho, hr⟩ := hI
    refine lss_r (fun hlt => ?_) (fun hge => ?_)
    · have i1 : s.1 < h.length := by omega
      have e1 := take_fm (restE a b) h i1
      have hle : (restH a b (h.take s.1)).length ≤ s.1 := fm_len (restE a b) h s.1
      try simp only [gdTT, gdFF, gdTF, gdFT, pvS, pickT, pickF, faP, lenS, capS, nilP, exA, exB, exC, notB, cndT, cndF, Bool.not_true, Bool.not_false, Nat.zero_add, Nat.add_zero]
      have hoo1 : own M3 B 52 2 hv h.length rows.flatten := hC.oo.keep (fun q hq => hM3 q (hC.oo.lt hm q hq)) (Nat.le_refl _)
      refine orow_r hoo1 hC.rr (by decide) i1 fun p r _ hR _ hr1 => ?_
      obtain ⟨fv, rfl, hfv, hfl⟩ := hR
      have hfm := o.fl _ (List.getElem_mem i1)
      refine nw_r (fun b4 hb4 => ?_)
      refine stM (cs' := [.int .u32 h[s.1].1, fv]) ?_ (upd_same _ _ _) rfl rfl hr1
      rw [upd_upd]
      have hbox := upd_same M3 b4 (some (.cells 52 [.int .u32 h[s.1].1, fv] [Value.int .u32 0, Value.slice none 0 0].length))
      have ho2 := ho.box hm3 hb4 (some (.cells 52 [.int .u32 h[s.1].1, fv] [Value.int .u32 0, Value.slice none 0 0].length))
      have hm4 := hm3.new hb4 (some (.cells 52 [.int .u32 h[s.1].1, fv] [Value.int .u32 0, Value.slice none 0 0].length))
      have hM4 : ∀ q, q < N → upd M3 b4 (some (.cells 52 [.int .u32 h[s.1].1, fv] [Value.int .u32 0, Value.slice none 0 0].length)) q = M q := fun q hq => (upd_ne _ _ (by omega)).trans (hM3 q hq)
      generalize upd M3 b4 _ = M4 at *
      try simp only [gdTT, gdFF, gdTF, gdFT, pvS, pickT, pickF, faP, lenS, capS, nilP, exA, exB, exC, notB, cndT, cndF, Bool.not_true, Bool.not_false, Nat.zero_add, Nat.add_zero]
      refine ldM (v := fv) ?_ hbox
      have hfv3 := hfv.mono (F02.trans hF3)
      have hfv3' := hfv3
      obtain ⟨frows0, hfv3a, _⟩ := hfv3'
      refine chosen_c hfv3 (hW.mono (hF2.trans hF3)) (by omega) (o.keys hdl (List.getElem_mem i1)) (fun v4 F4 N4 hw4 hF4 hN4 hf4 => ?_)
      rw [ofK_false] at hf4
      obtain ⟨frows, hf4a, hf4b⟩ := hf4
      have hF4' := hF3.trans hF4
      have hflen : (h[s.1].2.filter (outR a b)).length ≤ 200 := by have := List.length_filter_le (outR a b) h[s.1].2; omega
      obtain ⟨a5, c5, e5, _⟩ := hf4a.form
      have he4 : entD F4 [.int .u32 h[s.1].1, v4] (h[s.1].1, h[s.1].2.filter (outR a b)) := ⟨v4, rfl, ⟨frows, hf4a, hf4b⟩, by simp only; omega⟩
      refine lenF_r hf4a ?_
      have skip : ¬ (0 < (h[s.1].2.filter (outR a b)).length ∨ h[s.1].2.length = 0) → restH a b (h.take (s.1 + 1)) = restH a b (h.take s.1) := fun hn => by
        unfold restH
        rw [e1]
        unfold restE
        rw [if_neg hn]; simp
      have take1 : (0 < (h[s.1].2.filter (outR a b)).length ∨ h[s.1].2.length = 0) → restH a b (h.take (s.1 + 1)) = restH a b (h.take s.1) ++ [(h[s.1].1, h[s.1].2.filter (outR a b))] := fun hn => by
        unfold restH
        rw [e1]
        unfold restE
        rw [if_pos hn]; rfl
      refine gtr_r (fun h0 => ?_) (fun h0 => ?_)
      rotate_left
      try simp only [gdTT, gdFF, gdTF, gdFT, pvS, pickT, pickF, faP, lenS, capS, nilP, exA, exB, exC, notB, cndT, cndF, Bool.not_true, Bool.not_false, Nat.zero_add, Nat.add_zero]
      refine ldM (v := fv) ?_ hbox
      try simp only [gdTT, gdFF, gdTF, gdFT, pvS, pickT, pickF, faP, lenS, capS, nilP, exA, exB, exC, notB, cndT, cndF, Bool.not_true, Bool.not_false, Nat.zero_add, Nat.add_zero]
      refine lenF_r hfv3a ?_
      try simp only [gdTT, gdFF, gdTF, gdFT, pvS, pickT, pickF, faP, lenS, capS, nilP, exA, exB, exC, notB, cndT, cndF, Bool.not_true, Bool.not_false, Nat.zero_add, Nat.add_zero]
      refine eql_r (fun h9 => ?_) (fun h9 => ?_)
      rotate_left
      · try simp only [gdTT, gdFF, gdTF, gdFT, pvS, pickT, pickF, faP, lenS, capS, nilP, exA, exB, exC, notB, cndT, cndF, Bool.not_true, Bool.not_false, Nat.zero_add, Nat.add_zero]
        rw [t26_1_1_1_1_0_1_0_0_1_1_1]
        refine inc_r (by omega) ?_
        refine next (s.1 + 1, s.2) _ _ (by simp only; omega) (fun hw5 => ⟨_, wk_refl hw5, F4, M4, N4, rows3, rfl, hF4', by omega, hM4, hw4.m, i1, ?_, ?_⟩)
        · simp only
          rw [skip (by omega)]; exact ho2
        · simp only
          rw [skip (by omega)]; exact hr.mono fun _ _ h => h.mono hF4
      all_goals
        try simp only [gdTT, gdFF, gdTF, gdFT, pvS, pickT, pickF, faP, lenS, capS, nilP, exA, exB, exC, notB, cndT, cndF, Bool.not_true, Bool.not_false, Nat.zero_add, Nat.add_zero]
        refine ldM (v := .int .u32 h[s.1].1) ?_ hbox
        refine pv_r (v := .agg #[.int .u32 h[s.1].1, v4]) (by rw [e5]; kernel_rfl) ?_
        refine push_r (new := [.int .u32 h[s.1].1, v4]) ho2 hw4.m (by omega) (by rw [e5]; kernel_rfl) rfl he4.one.2 (by omega) (by unfold maxLen; omega) (fun p v' M5 N5 g1 g2 g3 g4 => ?_)
        rw [t26_1_1_1_1_0_1_0_0_1_1_1]
        refine inc_r (by omega) ?_
        refine next (s.1 + 1, v') _ _ (by simp only; omega) (fun hw5 => ⟨_, wk_refl hw5, F4, M5, N5, rows3 ++ [[.int .u32 h[s.1].1, v4]], rfl, hF4', by omega, fun q hq => ?_, g4, i1, ?_, ?_⟩)
        · exact ((g2 q (fun e => by have := (ho2.ge q e).1; omega) (by omega)).1).trans (hM4 q hq)
        · simp only
          rw [take1 (by omega), List.length_append, List.length_singleton]
          exact (by simpa using g1 : own M5 N 52 2 v' _ (rows3 ++ [[.int .u32 h[s.1].1, v4]]).flatten)
        · simp only
          rw [take1 (by omega)]
          exact rowsF_snoc1 (hr.mono fun _ _ h => h.mono hF4) he4.one he4
    · try simp only [gdTT, gdFF, gdTF, gdFT, pvS, pickT, pickF, faP, lenS, capS, nilP, exA, exB, exC, notB, cndT, cndF, Bool.not_true, Bool.not_false, Nat.zero_add, Nat.add_zero]
      rw [t26_1_1_1_1_1]
      rw [List.take_of_length_le (by omega)] at ho hr
      have oR := o.rest a b
      have F03 := F02.trans hF3
      obtain ⟨erows, hes1, hes2⟩ := hes.mono F03
      have hlay : ∀ i, risen (layAll (restH a b h) (es.take i)) ∧ (layAll (restH a b h) (es.take i)).length ≤ 9000000000 ∧ ∀ e ∈ layAll (restH a b h) (es.take i), e.2.length ≤ 1000000 := fun i => by
        have x1 := layAll_len (es.take i) (restH a b h)
        have x2 := oR.le
        rw [List.length_take] at x1
        have x3 : risen (es.take i) := er1.sublist (List.take_sublist _ _)
        refine ⟨layAll_risen oR.rs, by omega, fun e he => ?_⟩
        have := layAll_fl oR.rs x3 oR.fl (fun e he => (fitsF_of (er2 e (List.mem_of_mem_take he)).2.1).1) e he
        omega
      refine lenF_r hes1 ?_
      refine l26_1_1_1_1_1_0_1_0_0 (σ := Nat × Value) (fun s => s.2) (fun s => .int .i64 (s.1 : Nat))
        (fun s h' => ∃ F' M' N' rows', h' = ⟨F', M', N'⟩ ∧ subF F3 F' ∧ N ≤ N' ∧ (∀ q, q < N → M' q = M q) ∧ clean M' N' ∧ s.1 ≤ es.length ∧ own M' N 52 2 s.2 (layAll (restH a b h) (es.take s.1)).length rows'.flatten ∧ rowsF (entD F') 2 rows' (layAll (restH a b h) (es.take s.1))) (fun s => es.length - s.1) (0, s.2) rfl rfl
        (fun hw4 => ⟨_, wk_refl hw4, F3, M3, N3, rows3, rfl, subF.refl _, hN3, hM3, hm3, Nat.zero_le _, ho, hr⟩) (fun kk s j h1 hI hw4 next => ?_)
      obtain ⟨F4, M4, N4, rows4, rfl, hF4, hN4, hM4, hm4, hi, ho, hr⟩ := hI
      obtain ⟨y1, y2, y3⟩ := hlay s.1
      refine lss_r (fun hlt => ?_) (fun hge => ?_)
      · have i1 : s.1 < es.length := by omega
        have et := layAll_take (restH a b h) es i1
        obtain ⟨z1, z2, z3⟩ := er2 _ (List.getElem_mem i1)
        obtain ⟨f1, f2⟩ := fitsF_of z2
        try simp only [gdTT, gdFF, gdTF, gdFT, pvS, pickT, pickF, faP, lenS, capS, nilP, exA, exB, exC, notB, cndT, cndF, Bool.not_true, Bool.not_false, Nat.zero_add, Nat.add_zero]
        refine row_r (hes1.mono hF4) (hes2.mono fun _ _ h => h.mono hF4) (by decide) i1 (fun p r _ hR hrl hr1 => ?_)
        obtain ⟨fv, hre, hfv, hfl⟩ := hR
        subst hre
        refine nw_r (fun b4 hb4 => ?_)
        refine stM (cs' := [.int .u32 es[s.1].1, fv]) ?_ (upd_same _ _ _) rfl rfl hr1
        rw [upd_upd]
        have hbox := upd_same M4 b4 (some (.cells 52 [.int .u32 es[s.1].1, fv] [Value.int .u32 0, Value.slice none 0 0].length))
        have ho2 := ho.box hm4 hb4 (some (.cells 52 [.int .u32 es[s.1].1, fv] [Value.int .u32 0, Value.slice none 0 0].length))
        have hm5 := hm4.new hb4 (some (.cells 52 [.int .u32 es[s.1].1, fv] [Value.int .u32 0, Value.slice none 0 0].length))
        have hM5 : ∀ q, q < N → upd M4 b4 (some (.cells 52 [.int .u32 es[s.1].1, fv] [Value.int .u32 0, Value.slice none 0 0].length)) q = M q := fun q hq => (upd_ne _ _ (by omega)).trans (hM4 q hq)
        generalize upd M4 b4 _ = M5 at *
        try simp only [gdTT, gdFF, gdTF, gdFT, pvS, pickT, pickF, faP, lenS, capS, nilP, exA, exB, exC, notB, cndT, cndF, Bool.not_true, Bool.not_false, Nat.zero_add, Nat.add_zero]
        refine ldM (v := fv) ?_ hbox
        have hfv' := hfv
        obtain ⟨frows, hfa, _⟩ := hfv'
        refine lenF_r hfa ?_
        refine gtr_r (fun h0 => ?_) (fun h0 => ?_)
        · try simp only [gdTT, gdFF, gdTF, gdFT, pvS, pickT, pickF, faP, lenS, capS, nilP, exA, exB, exC, notB, cndT, cndF, Bool.not_true, Bool.not_false, Nat.zero_add, Nat.add_zero]
          refine ldM (v := .int .u32 es[s.1].1) ?_ hbox
          try simp only [gdTT, gdFF, gdTF, gdFT, pvS, pickT, pickF, faP, lenS, capS, nilP, exA, exB, exC, notB, cndT, cndF, Bool.not_true, Bool.not_false, Nat.zero_add, Nat.add_zero]
          refine ldM (v := fv) ?_ hbox
          refine hwithF_c ho2 (by omega) hr y1 (by omega) y3 hfv (by omega) (fun f hf => by have := inF_len (f2 f hf); omega) (fun v' F6 M6 N6 rows6 hF6 g1 g2 g3 g4 g5 g6 => ?_)
          rw [t26_1_1_1_1_1_0_1_0_0_1_1_1]
          refine inc_r (by omega) ?_
          have e3 : layAll (restH a b h) (es.take (s.1 + 1)) = withR (layAll (restH a b h) (es.take s.1)) es[s.1].1 es[s.1].2 := by
            rw [et]; unfold lay1; rw [if_pos (by omega)]
          refine next (s.1 + 1, v') _ _ (by simp only; omega) (fun hw5 => ⟨_, wk_refl hw5, F6, M6, N6, rows6, rfl, hF4.trans hF6, by omega, fun q hq => ?_, g5, i1, ?_, ?_⟩)
          · exact ((g3 q (fun e => by have := (ho2.ge q e).1; omega) (by omega)).1).trans (hM5 q hq)
          · simp only
            rw [e3]; exact g1
          · simp only
            rw [e3]; exact g2
        · try simp only [gdTT, gdFF, gdTF, gdFT, pvS, pickT, pickF, faP, lenS, capS, nilP, exA, exB, exC, notB, cndT, cndF, Bool.not_true, Bool.not_false, Nat.zero_add, Nat.add_zero]
          rw [t26_1_1_1_1_1_0_1_0_0_1_1_1]
          refine inc_r (by omega) ?_
          have e3 : layAll (restH a b h) (es.take (s.1 + 1)) = layAll (restH a b h) (es.take s.1) := by
            rw [et]; unfold lay1; rw [if_neg (by omega)]
          refine next (s.1 + 1, s.2) _ _ (by simp only; omega) (fun hw5 => ⟨_, wk_refl hw5, F4, M5, _, rows4, rfl, hF4, by omega, hM5, hm5, i1, ?_, ?_⟩)
          · simp only
            rw [e3]; exact ho2
          · simp only
            rw [e3]; exact hr
      · try simp only [gdTT, gdFF, gdTF, gdFT, pvS, pickT, pickF, faP, lenS, capS, nilP, exA, exB, exC, notB, cndT, cndF, Bool.not_true, Bool.not_false, Nat.zero_add, Nat.add_zero]
        rw [t26_1_1_1_1_1_1]
        rw [List.take_of_length_le (by omega)] at ho hr y1 y2 y3
        have F04 := F03.trans hF4
        have hlo : lenV s.2 = some (.int .i64 ((layAll (restH a b h) es).length : Nat)) := by obtain ⟨x, c, e, _⟩ := ho.form; rw [e]; rfl
        have bad : replE l a b h es = 3 → ∀ N', N4 ≤ N' → ∀ h', h' = (⟨F4, M4, N'⟩ : Hp) → h'.wf → ∃ h'', h'.wk h'' ∧ (h''.wf → K (.int .u16 3) h'') := fun e3 N' hN' h' e' hc => by
          subst e'
          refine ⟨_, wk_refl hc, fun hw' => ?_⟩
          have := same (by omega) _ _ _ hw' F04 (by omega) hM4
          rw [e3] at this; exact this
        refine pv_r hlo ?_
        refine gtr_r (fun h0 => ?_) (fun h0 => ?_)
        · try simp only [gdTT, gdFF, gdTF, gdFT, pvS, pickT, pickF, faP, lenS, capS, nilP, exA, exB, exC, notB, cndT, cndF, Bool.not_true, Bool.not_false, Nat.zero_add, Nat.add_zero]
          exact bad (by rw [hrE]; unfold replH; rw [if_pos (.inl (by omega))]) N4 (Nat.le_refl _) _ rfl
        · try simp only [gdTT, gdFF, gdTF, gdFT, pvS, pickT, pickF, faP, lenS, capS, nilP, exA, exB, exC, notB, cndT, cndF, Bool.not_true, Bool.not_false, Nat.zero_add, Nat.add_zero]
          refine long_c ho hr (by omega) (fun N5 hN5 hw5 => ?_)
          cases hlg : longH (layAll (restH a b h) es)
          · have e0 : replE l a b h es = 0 := by
              rw [hrE]; unfold replH; rw [if_neg (by rintro (q | q); omega; rw [hlg] at q; cases q)]
            obtain ⟨xa, xc, xe, _⟩ := ho.form
            try simp only [gdTT, gdFF, gdTF, gdFT, pvS, pickT, pickF, faP, lenS, capS, nilP, exA, exB, exC, notB, cndT, cndF, Bool.not_true, Bool.not_false, Nat.zero_add, Nat.add_zero]
            refine stM (cs' := [s.2, dv]) ?_ ((hM4 g hgN).trans hC.gg) (by rw [xe]; rfl) (by rw [xe]; rfl) (by rw [xe]; exact List.all_eq_true.1 rfl)
            have hsg : s.2.ownBlock ≠ some g := fun e => by have := (ho.ge g e).1; omega
            refine fun hc => ⟨_, wk_refl hc, fun hw' => ?_⟩
            rw [e0] at k
            refine k s.2 F4 _ N5 rows4 F04 ?_ (fun q hq hqg hqN => ⟨(upd_ne _ _ hqg).trans (hM4 q hqN), fun e => by have := (ho.ge q e).1; omega⟩) (by omega) (clean.set hw5.m (by omega) _) hw'
            unfold replF; rw [if_pos e0]
            exact ⟨upd_same _ _ _, hgB, ho.keep (fun q hq => upd_ne _ _ (fun e => hsg (e ▸ hq))) hB, hr, hsg, hC.dd.mono F04, y1⟩
          · try simp only [gdTT, gdFF, gdTF, gdFT, pvS, pickT, pickF, faP, lenS, capS, nilP, exA, exB, exC, notB, cndT, cndF, Bool.not_true, Bool.not_false, Nat.zero_add, Nat.add_zero]
            exact bad (by rw [hrE]; unfold replH; rw [if_pos (.inr hlg)]) N5 hN5 _ rfl
end Go.Proofs.YtgjdjdjhoipfmaaGreatDoor.A
open Go Go.RowKit Go.Proofs.YtgjdjdjhoipfmaaGreatDoor.K
set_option linter.unusedVariables false
set_option maxRecDepth 100000
namespace Go.Proofs.YtgjdjdjhoipfmaaGreatDoor.T
theorem t21 (K : Kont) (E : PanK) (x0 : Value)  : den Tryz.prog (sel (bodyOf Tryz.f21) []) (bodyQ Tryz.prog Tryz.f21.results.toList K E) #[x0, undef, undef, undef, undef, undef, undef, undef, undef, undef, undef, undef, undef, undef, undef, undef, undef, undef, undef, undef, undef, undef, undef, undef, undef, undef, undef, undef, undef, undef, undef, undef, undef, undef, undef, undef, undef, undef, undef, undef, undef, undef, undef, undef, undef, undef, undef, undef, undef, undef, undef, undef] =
  lp (fun k1 => den Tryz.prog (sel (bodyOf Tryz.f21) [1, 1, 0, 1, 0, 0]) (thenD k1 (blk 0 (thenD (den Tryz.prog (sel (bodyOf Tryz.f21) [1, 1, 1]) (bodyQ Tryz.prog Tryz.f21.results.toList K E)) (bodyQ Tryz.prog Tryz.f21.results.toList K E))))) #[x0, undef, (.int .i64 0), (.int .i64 0), (.int .i64 0), undef, undef, undef, undef, undef, undef, undef, undef, undef, undef, undef, undef, undef, undef, undef, undef, undef, undef, undef, undef, undef, undef, undef, undef, undef, undef, undef, undef, undef, undef, undef, undef, undef, undef, undef, undef, undef, undef, undef, undef, undef, undef, undef, undef, undef, undef, undef] := by kernel_rfl
def m21_1_1_0_1_0_0 (x0 x1 x2 x51 : Value) (v3 v4 : Value) (j : Nat → Value) : Env := #[x0, x1, x2, v3, v4, (j 5), (j 6), (j 7), (j 8), (j 9), (j 10), (j 11), (j 12), (j 13), (j 14), (j 15), (j 16), (j 17), (j 18), (j 19), (j 20), (j 21), (j 22), (j 23), (j 24), (j 25), (j 26), (j 27), (j 28), (j 29), (j 30), (j 31), (j 32), (j 33), (j 34), (j 35), (j 36), (j 37), (j 38), (j 39), (j 40), (j 41), (j 42), (j 43), (j 44), (j 45), (j 46), (j 47), (j 48), (j 49), (j 50), x51]
theorem t21_1_1_0_1_0_0 (K : Kont) (E : PanK) (k1 : Env → Hp → Prop) (x0 x1 x2 x51 v3 v4 : Value) (j : Nat → Value) : den Tryz.prog (sel (bodyOf Tryz.f21) [1, 1, 0, 1, 0, 0]) (thenD k1 (blk 0 (thenD (den Tryz.prog (sel (bodyOf Tryz.f21) [1, 1, 1]) (bodyQ Tryz.prog Tryz.f21.results.toList K E)) (bodyQ Tryz.prog Tryz.f21.results.toList K E)))) (m21_1_1_0_1_0_0 x0 x1 x2 x51 v3 v4 j) =
  pv (lenV x0) fun t1 =>
  pv (binV .none .lss v4 t1) fun t2 =>
  cnd t2 (
    pv (iaV none 8 x0 v4) fun t3 =>
    pv (faV 2 t3) fun t4 =>
    ld false 1 t4 fun t5 =>
    pv (lenV t5) fun t6 =>
    pv (binV .none .add (.int .i64 1) t6) fun t7 =>
    pv (iaV none 8 x0 v4) fun t8 =>
    pv (faV 4 t8) fun t9 =>
    ld false 1 t9 fun t10 =>
    pv (lenV t10) fun t11 =>
    pv (binV .none .add t7 t11) fun t12 =>
    pv (binV .none .add v3 t12) fun t13 =>
    lp (fun k2 => den Tryz.prog (sel (bodyOf Tryz.f21) [1, 1, 0, 1, 0, 0, 1, 0, 0, 1, 1, 0, 0]) (thenD k2 (blk 2 (blk 1 (thenD (den Tryz.prog (sel (bodyOf Tryz.f21) [1, 1, 0, 1, 0, 0, 1, 1]) (thenD k1 (blk 0 (thenD (den Tryz.prog (sel (bodyOf Tryz.f21) [1, 1, 1]) (bodyQ Tryz.prog Tryz.f21.results.toList K E)) (bodyQ Tryz.prog Tryz.f21.results.toList K E))))) (thenD k1 (blk 0 (thenD (den Tryz.prog (sel (bodyOf Tryz.f21) [1, 1, 1]) (bodyQ Tryz.prog Tryz.f21.results.toList K E)) (bodyQ Tryz.prog Tryz.f21.results.toList K E))))))))) #[x0, x1, x2, t13, v4, (.int .i64 0), v4, x0, t1, t2, (j 10), (j 11), v3, x0, v4, t3, t4, t5, t6, t7, x0, v4, t8, t9, t10, t11, t12, t13, (j 28), (j 29), (j 30), (j 31), (j 32), (j 33), (j 34), (j 35), (j 36), (j 37), (j 38), (j 39), (j 40), (j 41), (j 42), (j 43), (j 44), (j 45), (j 46), (j 47), (j 48), (j 49), (j 50), x51]) (
    den Tryz.prog (sel (bodyOf Tryz.f21) [1, 1, 1]) (bodyQ Tryz.prog Tryz.f21.results.toList K E) #[x0, x1, x2, v3, v4, (j 5), v4, x0, t1, t2, (j 10), (j 11), (j 12), (j 13), (j 14), (j 15), (j 16), (j 17), (j 18), (j 19), (j 20), (j 21), (j 22), (j 23), (j 24), (j 25), (j 26), (j 27), (j 28), (j 29), (j 30), (j 31), (j 32), (j 33), (j 34), (j 35), (j 36), (j 37), (j 38), (j 39), (j 40), (j 41), (j 42), (j 43), (j 44), (j 45), (j 46), (j 47), (j 48), (j 49), (j 50), x51]) := by kernel_rfl
theorem t21_1_1_1 (K : Kont) (E : PanK) (x0 x1 x2 x3 x4 x5 x6 x7 x8 x9 x10 x11 x12 x13 x14 x15 x16 x17 x18 x19 x20 x21 x22 x23 x24 x25 x26 x27 x28 x29 x30 x31 x32 x33 x34 x35 x36 x37 x38 x39 x40 x41 x42 x43 x44 x45 x46 x47 x48 x49 x50 x51 : Value)  : den Tryz.prog (sel (bodyOf Tryz.f21) [1, 1, 1]) (bodyQ Tryz.prog Tryz.f21.results.toList K E) #[x0, x1, x2, x3, x4, x5, x6, x7, x8, x9, x10, x11, x12, x13, x14, x15, x16, x17, x18, x19, x20, x21, x22, x23, x24, x25, x26, x27, x28, x29, x30, x31, x32, x33, x34, x35, x36, x37, x38, x39, x40, x41, x42, x43, x44, x45, x46, x47, x48, x49, x50, x51] =
  K x3 := by kernel_rfl
def m21_1_1_0_1_0_0_1_0_0_1_1_0_0 (x0 x1 x2 x4 x6 x7 x8 x9 x10 x11 x12 x13 x14 x15 x16 x17 x18 x19 x20 x21 x22 x23 x24 x25 x26 x27 x51 : Value) (v3 v5 : Value) (j : Nat → Value) : Env := #[x0, x1, x2, v3, x4, v5, x6, x7, x8, x9, x10, x11, x12, x13, x14, x15, x16, x17, x18, x19, x20, x21, x22, x23, x24, x25, x26, x27, (j 28), (j 29), (j 30), (j 31), (j 32), (j 33), (j 34), (j 35), (j 36), (j 37), (j 38), (j 39), (j 40), (j 41), (j 42), (j 43), (j 44), (j 45), (j 46), (j 47), (j 48), (j 49), (j 50), x51]
theorem t21_1_1_0_1_0_0_1_0_0_1_1_0_0 (K : Kont) (E : PanK) (k1 k2 : Env → Hp → Prop) (x0 x1 x2 x4 x6 x7 x8 x9 x10 x11 x12 x13 x14 x15 x16 x17 x18 x19 x20 x21 x22 x23 x24 x25 x26 x27 x51 v3 v5 : Value) (j : Nat → Value) : den Tryz.prog (sel (bodyOf Tryz.f21) [1, 1, 0, 1, 0, 0, 1, 0, 0, 1, 1, 0, 0]) (thenD k2 (blk 2 (blk 1 (thenD (den Tryz.prog (sel (bodyOf Tryz.f21) [1, 1, 0, 1, 0, 0, 1, 1]) (thenD k1 (blk 0 (thenD (den Tryz.prog (sel (bodyOf Tryz.f21) [1, 1, 1]) (bodyQ Tryz.prog Tryz.f21.results.toList K E)) (bodyQ Tryz.prog Tryz.f21.results.toList K E))))) (thenD k1 (blk 0 (thenD (den Tryz.prog (sel (bodyOf Tryz.f21) [1, 1, 1]) (bodyQ Tryz.prog Tryz.f21.results.toList K E)) (bodyQ Tryz.prog Tryz.f21.results.toList K E)))))))) (m21_1_1_0_1_0_0_1_0_0_1_1_0_0 x0 x1 x2 x4 x6 x7 x8 x9 x10 x11 x12 x13 x14 x15 x16 x17 x18 x19 x20 x21 x22 x23 x24 x25 x26 x27 x51 v3 v5 j) =
  pv (iaV none 8 x0 x4) fun t1 =>
  pv (faV 7 t1) fun t2 =>
  ld false 1 t2 fun t3 =>
  pv (lenV t3) fun t4 =>
  pv (binV .none .lss v5 t4) fun t5 =>
  cnd t5 (
    pv (iaV none 8 x0 x4) fun t6 =>
    pv (faV 7 t6) fun t7 =>
    ld false 1 t7 fun t8 =>
    pv (iaV none 2 t8 v5) fun t9 =>
    pv (faV 1 t9) fun t10 =>
    ld false 1 t10 fun t11 =>
    pv (lenV t11) fun t12 =>
    pv (binV .none .add (.int .i64 1) t12) fun t13 =>
    pv (binV .none .add v3 t13) fun t14 =>
    pv (binV .none .add v5 (.int .i64 1)) fun t15 =>
    k2 (m21_1_1_0_1_0_0_1_0_0_1_1_0_0 x0 x1 x2 x4 x6 x7 x8 x9 x10 x11 x12 x13 x14 x15 x16 x17 x18 x19 x20 x21 x22 x23 x24 x25 x26 x27 x51 t14 t15 (jf #[x0, x1, x2, t14, x4, t15, x6, x7, x8, x9, x10, x11, x12, x13, x14, x15, x16, x17, x18, x19, x20, x21, x22, x23, x24, x25, x26, x27, v5, x0, x4, t1, t2, t3, t4, t5, v5, t15, v3, x0, x4, t6, t7, t8, v5, t9, t10, t11, t12, t13, t14, x51]))) (
    den Tryz.prog (sel (bodyOf Tryz.f21) [1, 1, 0, 1, 0, 0, 1, 1]) (thenD k1 (blk 0 (thenD (den Tryz.prog (sel (bodyOf Tryz.f21) [1, 1, 1]) (bodyQ Tryz.prog Tryz.f21.results.toList K E)) (bodyQ Tryz.prog Tryz.f21.results.toList K E)))) #[x0, x1, x2, v3, x4, v5, x6, x7, x8, x9, x10, x11, x12, x13, x14, x15, x16, x17, x18, x19, x20, x21, x22, x23, x24, x25, x26, x27, v5, x0, x4, t1, t2, t3, t4, t5, (j 36), (j 37), (j 38), (j 39), (j 40), (j 41), (j 42), (j 43), (j 44), (j 45), (j 46), (j 47), (j 48), (j 49), (j 50), x51]) := by kernel_rfl
theorem t21_1_1_0_1_0_0_1_1 (K : Kont) (E : PanK) (k1 : Env → Hp → Prop) (x0 x1 x2 x3 x4 x5 x6 x7 x8 x9 x10 x11 x12 x13 x14 x15 x16 x17 x18 x19 x20 x21 x22 x23 x24 x25 x26 x27 x28 x29 x30 x31 x32 x33 x34 x35 x36 x37 x38 x39 x40 x41 x42 x43 x44 x45 x46 x47 x48 x49 x50 x51 : Value)  : den Tryz.prog (sel (bodyOf Tryz.f21) [1, 1, 0, 1, 0, 0, 1, 1]) (thenD k1 (blk 0 (thenD (den Tryz.prog (sel (bodyOf Tryz.f21) [1, 1, 1]) (bodyQ Tryz.prog Tryz.f21.results.toList K E)) (bodyQ Tryz.prog Tryz.f21.results.toList K E)))) #[x0, x1, x2, x3, x4, x5, x6, x7, x8, x9, x10, x11, x12, x13, x14, x15, x16, x17, x18, x19, x20, x21, x22, x23, x24, x25, x26, x27, x28, x29, x30, x31, x32, x33, x34, x35, x36, x37, x38, x39, x40, x41, x42, x43, x44, x45, x46, x47, x48, x49, x50, x51] =
  pv (binV .none .add x4 (.int .i64 1)) fun t1 =>
  k1 (m21_1_1_0_1_0_0 x0 x1 x2 x51 x3 t1 (jf #[x0, x1, x2, x3, t1, x5, x6, x7, x8, x9, x4, t1, x12, x13, x14, x15, x16, x17, x18, x19, x20, x21, x22, x23, x24, x25, x26, x27, x28, x29, x30, x31, x32, x33, x34, x35, x36, x37, x38, x39, x40, x41, x42, x43, x44, x45, x46, x47, x48, x49, x50, x51])) := by kernel_rfl
theorem l21_1_1_0_1_0_0 {K : Kont} {E : PanK} {σ : Type} {x0 x1 x2 x51 v3 v4 y5 y6 y7 y8 y9 y10 y11 y12 y13 y14 y15 y16 y17 y18 y19 y20 y21 y22 y23 y24 y25 y26 y27 y28 y29 y30 y31 y32 y33 y34 y35 y36 y37 y38 y39 y40 y41 y42 y43 y44 y45 y46 y47 y48 y49 y50 : Value} {h : Hp} (f3 f4 : σ → Value) (I : σ → Hp → Prop) (μ : σ → Nat) (s0 : σ) (e3 : v3 = f3 s0) (e4 : v4 = f4 s0) (h0 : h.wf → ∃ h', h.wk h' ∧ I s0 h')
  (round : ∀ (k1 : Env → Hp → Prop) (s : σ) (j : Nat → Value) (h : Hp), I s h → h.wf → (∀ s' j' h', μ s' < μ s → (h'.wf → ∃ h'', h'.wk h'' ∧ I s' h'') → k1 (m21_1_1_0_1_0_0 x0 x1 x2 x51 (f3 s') (f4 s') j') h') → (
  pv (lenV x0) fun t1 =>
  pv (binV .none .lss (f4 s) t1) fun t2 =>
  cnd t2 (
    pv (iaV none 8 x0 (f4 s)) fun t3 =>
    pv (faV 2 t3) fun t4 =>
    ld false 1 t4 fun t5 =>
    pv (lenV t5) fun t6 =>
    pv (binV .none .add (.int .i64 1) t6) fun t7 =>
    pv (iaV none 8 x0 (f4 s)) fun t8 =>
    pv (faV 4 t8) fun t9 =>
    ld false 1 t9 fun t10 =>
    pv (lenV t10) fun t11 =>
    pv (binV .none .add t7 t11) fun t12 =>
    pv (binV .none .add (f3 s) t12) fun t13 =>
    lp (fun k2 => den Tryz.prog (sel (bodyOf Tryz.f21) [1, 1, 0, 1, 0, 0, 1, 0, 0, 1, 1, 0, 0]) (thenD k2 (blk 2 (blk 1 (thenD (den Tryz.prog (sel (bodyOf Tryz.f21) [1, 1, 0, 1, 0, 0, 1, 1]) (thenD k1 (blk 0 (thenD (den Tryz.prog (sel (bodyOf Tryz.f21) [1, 1, 1]) (bodyQ Tryz.prog Tryz.f21.results.toList K E)) (bodyQ Tryz.prog Tryz.f21.results.toList K E))))) (thenD k1 (blk 0 (thenD (den Tryz.prog (sel (bodyOf Tryz.f21) [1, 1, 1]) (bodyQ Tryz.prog Tryz.f21.results.toList K E)) (bodyQ Tryz.prog Tryz.f21.results.toList K E))))))))) #[x0, x1, x2, t13, (f4 s), (.int .i64 0), (f4 s), x0, t1, t2, (j 10), (j 11), (f3 s), x0, (f4 s), t3, t4, t5, t6, t7, x0, (f4 s), t8, t9, t10, t11, t12, t13, (j 28), (j 29), (j 30), (j 31), (j 32), (j 33), (j 34), (j 35), (j 36), (j 37), (j 38), (j 39), (j 40), (j 41), (j 42), (j 43), (j 44), (j 45), (j 46), (j 47), (j 48), (j 49), (j 50), x51]) (
    den Tryz.prog (sel (bodyOf Tryz.f21) [1, 1, 1]) (bodyQ Tryz.prog Tryz.f21.results.toList K E) #[x0, x1, x2, (f3 s), (f4 s), (j 5), (f4 s), x0, t1, t2, (j 10), (j 11), (j 12), (j 13), (j 14), (j 15), (j 16), (j 17), (j 18), (j 19), (j 20), (j 21), (j 22), (j 23), (j 24), (j 25), (j 26), (j 27), (j 28), (j 29), (j 30), (j 31), (j 32), (j 33), (j 34), (j 35), (j 36), (j 37), (j 38), (j 39), (j 40), (j 41), (j 42), (j 43), (j 44), (j 45), (j 46), (j 47), (j 48), (j 49), (j 50), x51])) h) :
  lp (fun k1 => den Tryz.prog (sel (bodyOf Tryz.f21) [1, 1, 0, 1, 0, 0]) (thenD k1 (blk 0 (thenD (den Tryz.prog (sel (bodyOf Tryz.f21) [1, 1, 1]) (bodyQ Tryz.prog Tryz.f21.results.toList K E)) (bodyQ Tryz.prog Tryz.f21.results.toList K E))))) #[x0, x1, x2, v3, v4, y5, y6, y7, y8, y9, y10, y11, y12, y13, y14, y15, y16, y17, y18, y19, y20, y21, y22, y23, y24, y25, y26, y27, y28, y29, y30, y31, y32, y33, y34, y35, y36, y37, y38, y39, y40, y41, y42, y43, y44, y45, y46, y47, y48, y49, y50, x51] h := by
  subst e3
  subst e4
  have e : (#[x0, x1, x2, (f3 s0), (f4 s0), y5, y6, y7, y8, y9, y10, y11, y12, y13, y14, y15, y16, y17, y18, y19, y20, y21, y22, y23, y24, y25, y26, y27, y28, y29, y30, y31, y32, y33, y34, y35, y36, y37, y38, y39, y40, y41, y42, y43, y44, y45, y46, y47, y48, y49, y50, x51] : Env) = m21_1_1_0_1_0_0 x0 x1 x2 x51 (f3 s0) (f4 s0) (jf #[x0, x1, x2, (f3 s0), (f4 s0), y5, y6, y7, y8, y9, y10, y11, y12, y13, y14, y15, y16, y17, y18, y19, y20, y21, y22, y23, y24, y25, y26, y27, y28, y29, y30, y31, y32, y33, y34, y35, y36, y37, y38, y39, y40, y41, y42, y43, y44, y45, y46, y47, y48, y49, y50, x51]) := by kernel_rfl
  rw [e]
  exact loop_r (fun s j => m21_1_1_0_1_0_0 x0 x1 x2 x51 (f3 s) (f4 s) j) I μ (fun k s j h hI hw next => by rw [t21_1_1_0_1_0_0]; exact round k s j h hI hw next) s0 (jf #[x0, x1, x2, (f3 s0), (f4 s0), y5, y6, y7, y8, y9, y10, y11, y12, y13, y14, y15, y16, y17, y18, y19, y20, y21, y22, y23, y24, y25, y26, y27, y28, y29, y30, y31, y32, y33, y34, y35, y36, y37, y38, y39, y40, y41, y42, y43, y44, y45, y46, y47, y48, y49, y50, x51]) h0
theorem l21_1_1_0_1_0_0_1_0_0_1_1_0_0 {K : Kont} {E : PanK} {k1 : Env → Hp → Prop} {σ : Type} {x0 x1 x2 x4 x6 x7 x8 x9 x10 x11 x12 x13 x14 x15 x16 x17 x18 x19 x20 x21 x22 x23 x24 x25 x26 x27 x51 v3 v5 y28 y29 y30 y31 y32 y33 y34 y35 y36 y37 y38 y39 y40 y41 y42 y43 y44 y45 y46 y47 y48 y49 y50 : Value} {h : Hp} (f3 f5 : σ → Value) (I : σ → Hp → Prop) (μ : σ → Nat) (s0 : σ) (e3 : v3 = f3 s0) (e5 : v5 = f5 s0) (h0 : h.wf → ∃ h', h.wk h' ∧ I s0 h')
  (round : ∀ (k2 : Env → Hp → Prop) (s : σ) (j : Nat → Value) (h : Hp), I s h → h.wf → (∀ s' j' h', μ s' < μ s → (h'.wf → ∃ h'', h'.wk h'' ∧ I s' h'') → k2 (m21_1_1_0_1_0_0_1_0_0_1_1_0_0 x0 x1 x2 x4 x6 x7 x8 x9 x10 x11 x12 x13 x14 x15 x16 x17 x18 x19 x20 x21 x22 x23 x24 x25 x26 x27 x51 (f3 s') (f5 s') j') h') → (
  pv (iaV none 8 x0 x4) fun t1 =>
  pv (faV 7 t1) fun t2 =>
  ld false 1 t2 fun t3 =>
  pv (lenV t3) fun t4 =>
  pv (binV .none .lss (f5 s) t4) fun t5 =>
  cnd t5 (
    pv (iaV none 8 x0 x4) fun t6 =>
    pv (faV 7 t6) fun t7 =>
    ld false 1 t7 fun t8 =>
    pv (iaV none 2 t8 (f5 s)) fun t9 =>
    pv (faV 1 t9) fun t10 =>
    ld false 1 t10 fun t11 =>
    pv (lenV t11) fun t12 =>
    pv (binV .none .add (.int .i64 1) t12) fun t13 =>
    pv (binV .none .add (f3 s) t13) fun t14 =>
    pv (binV .none .add (f5 s) (.int .i64 1)) fun t15 =>
    k2 (m21_1_1_0_1_0_0_1_0_0_1_1_0_0 x0 x1 x2 x4 x6 x7 x8 x9 x10 x11 x12 x13 x14 x15 x16 x17 x18 x19 x20 x21 x22 x23 x24 x25 x26 x27 x51 t14 t15 (jf #[x0, x1, x2, t14, x4, t15, x6, x7, x8, x9, x10, x11, x12, x13, x14, x15, x16, x17, x18, x19, x20, x21, x22, x23, x24, x25, x26, x27, (f5 s), x0, x4, t1, t2, t3, t4, t5, (f5 s), t15, (f3 s), x0, x4, t6, t7, t8, (f5 s), t9, t10, t11, t12, t13, t14, x51]))) (
    den Tryz.prog (sel (bodyOf Tryz.f21) [1, 1, 0, 1, 0, 0, 1, 1]) (thenD k1 (blk 0 (thenD (den Tryz.prog (sel (bodyOf Tryz.f21) [1, 1, 1]) (bodyQ Tryz.prog Tryz.f21.results.toList K E)) (bodyQ Tryz.prog Tryz.f21.results.toList K E)))) #[x0, x1, x2, (f3 s), x4, (f5 s), x6, x7, x8, x9, x10, x11, x12, x13, x14, x15, x16, x17, x18, x19, x20, x21, x22, x23, x24, x25, x26, x27, (f5 s), x0, x4, t1, t2, t3, t4, t5, (j 36), (j 37), (j 38), (j 39), (j 40), (j 41), (j 42), (j 43), (j 44), (j 45), (j 46), (j 47), (j 48), (j 49), (j 50), x51])) h) :
  lp (fun k2 => den Tryz.prog (sel (bodyOf Tryz.f21) [1, 1, 0, 1, 0, 0, 1, 0, 0, 1, 1, 0, 0]) (thenD k2 (blk 2 (blk 1 (thenD (den Tryz.prog (sel (bodyOf Tryz.f21) [1, 1, 0, 1, 0, 0, 1, 1]) (thenD k1 (blk 0 (thenD (den Tryz.prog (sel (bodyOf Tryz.f21) [1, 1, 1]) (bodyQ Tryz.prog Tryz.f21.results.toList K E)) (bodyQ Tryz.prog Tryz.f21.results.toList K E))))) (thenD k1 (blk 0 (thenD (den Tryz.prog (sel (bodyOf Tryz.f21) [1, 1, 1]) (bodyQ Tryz.prog Tryz.f21.results.toList K E)) (bodyQ Tryz.prog Tryz.f21.results.toList K E))))))))) #[x0, x1, x2, v3, x4, v5, x6, x7, x8, x9, x10, x11, x12, x13, x14, x15, x16, x17, x18, x19, x20, x21, x22, x23, x24, x25, x26, x27, y28, y29, y30, y31, y32, y33, y34, y35, y36, y37, y38, y39, y40, y41, y42, y43, y44, y45, y46, y47, y48, y49, y50, x51] h := by
  subst e3
  subst e5
  have e : (#[x0, x1, x2, (f3 s0), x4, (f5 s0), x6, x7, x8, x9, x10, x11, x12, x13, x14, x15, x16, x17, x18, x19, x20, x21, x22, x23, x24, x25, x26, x27, y28, y29, y30, y31, y32, y33, y34, y35, y36, y37, y38, y39, y40, y41, y42, y43, y44, y45, y46, y47, y48, y49, y50, x51] : Env) = m21_1_1_0_1_0_0_1_0_0_1_1_0_0 x0 x1 x2 x4 x6 x7 x8 x9 x10 x11 x12 x13 x14 x15 x16 x17 x18 x19 x20 x21 x22 x23 x24 x25 x26 x27 x51 (f3 s0) (f5 s0) (jf #[x0, x1, x2, (f3 s0), x4, (f5 s0), x6, x7, x8, x9, x10, x11, x12, x13, x14, x15, x16, x17, x18, x19, x20, x21, x22, x23, x24, x25, x26, x27, y28, y29, y30, y31, y32, y33, y34, y35, y36, y37, y38, y39, y40, y41, y42, y43, y44, y45, y46, y47, y48, y49, y50, x51]) := by kernel_rfl
  rw [e]
  exact loop_r (fun s j => m21_1_1_0_1_0_0_1_0_0_1_1_0_0 x0 x1 x2 x4 x6 x7 x8 x9 x10 x11 x12 x13 x14 x15 x16 x17 x18 x19 x20 x21 x22 x23 x24 x25 x26 x27 x51 (f3 s) (f5 s) j) I μ (fun k s j h hI hw next => by rw [t21_1_1_0_1_0_0_1_0_0_1_1_0_0]; exact round k s j h hI hw next) s0 (jf #[x0, x1, x2, (f3 s0), x4, (f5 s0), x6, x7, x8, x9, x10, x11, x12, x13, x14, x15, x16, x17, x18, x19, x20, x21, x22, x23, x24, x25, x26, x27, y28, y29, y30, y31, y32, y33, y34, y35, y36, y37, y38, y39, y40, y41, y42, y43, y44, y45, y46, y47, y48, y49, y50, x51]) h0

theorem t25 (K : Kont) (E : PanK) (x0 : Value)  : den Tryz.prog (sel (bodyOf Tryz.f25) []) (bodyQ Tryz.prog Tryz.f25.results.toList K E) #[x0, undef, undef, undef, undef, undef, undef, undef, undef, undef, undef, undef, undef, undef, undef, undef, undef, undef, undef, undef] =
  lp (fun k1 => den Tryz.prog (sel (bodyOf Tryz.f25) [1, 1, 0, 1, 0, 0]) (thenD k1 (blk 0 (thenD (den Tryz.prog (sel (bodyOf Tryz.f25) [1, 1, 1]) (bodyQ Tryz.prog Tryz.f25.results.toList K E)) (bodyQ Tryz.prog Tryz.f25.results.toList K E))))) #[x0, undef, (.int .i64 0), (.int .i64 0), (.int .i64 0), undef, undef, undef, undef, undef, undef, undef, undef, undef, undef, undef, undef, undef, undef, undef] := by kernel_rfl
def m25_1_1_0_1_0_0 (x0 x1 x2 x19 : Value) (v3 v4 : Value) (j : Nat → Value) : Env := #[x0, x1, x2, v3, v4, (j 5), (j 6), (j 7), (j 8), (j 9), (j 10), (j 11), (j 12), (j 13), (j 14), (j 15), (j 16), (j 17), (j 18), x19]
theorem t25_1_1_0_1_0_0 (K : Kont) (E : PanK) (k1 : Env → Hp → Prop) (x0 x1 x2 x19 v3 v4 : Value) (j : Nat → Value) : den Tryz.prog (sel (bodyOf Tryz.f25) [1, 1, 0, 1, 0, 0]) (thenD k1 (blk 0 (thenD (den Tryz.prog (sel (bodyOf Tryz.f25) [1, 1, 1]) (bodyQ Tryz.prog Tryz.f25.results.toList K E)) (bodyQ Tryz.prog Tryz.f25.results.toList K E)))) (m25_1_1_0_1_0_0 x0 x1 x2 x19 v3 v4 j) =
  pv (lenV x0) fun t1 =>
  pv (binV .none .lss v4 t1) fun t2 =>
  cnd t2 (
    pv (iaV none 2 x0 v4) fun t3 =>
    pv (faV 1 t3) fun t4 =>
    ld false 1 t4 fun t5 =>
    pv (lenV t5) fun t6 =>
    pv (binV .none .add v3 t6) fun t7 =>
    pv (binV .none .add v4 (.int .i64 1)) fun t8 =>
    k1 (m25_1_1_0_1_0_0 x0 x1 x2 x19 t7 t8 (jf #[x0, x1, x2, t7, t8, v4, x0, t1, t2, v4, t8, v3, x0, v4, t3, t4, t5, t6, t7, x19]))) (
    den Tryz.prog (sel (bodyOf Tryz.f25) [1, 1, 1]) (bodyQ Tryz.prog Tryz.f25.results.toList K E) #[x0, x1, x2, v3, v4, v4, x0, t1, t2, (j 9), (j 10), (j 11), (j 12), (j 13), (j 14), (j 15), (j 16), (j 17), (j 18), x19]) := by kernel_rfl
theorem t25_1_1_1 (K : Kont) (E : PanK) (x0 x1 x2 x3 x4 x5 x6 x7 x8 x9 x10 x11 x12 x13 x14 x15 x16 x17 x18 x19 : Value)  : den Tryz.prog (sel (bodyOf Tryz.f25) [1, 1, 1]) (bodyQ Tryz.prog Tryz.f25.results.toList K E) #[x0, x1, x2, x3, x4, x5, x6, x7, x8, x9, x10, x11, x12, x13, x14, x15, x16, x17, x18, x19] =
  K x3 := by kernel_rfl
theorem l25_1_1_0_1_0_0 {K : Kont} {E : PanK} {σ : Type} {x0 x1 x2 x19 v3 v4 y5 y6 y7 y8 y9 y10 y11 y12 y13 y14 y15 y16 y17 y18 : Value} {h : Hp} (f3 f4 : σ → Value) (I : σ → Hp → Prop) (μ : σ → Nat) (s0 : σ) (e3 : v3 = f3 s0) (e4 : v4 = f4 s0) (h0 : h.wf → ∃ h', h.wk h' ∧ I s0 h')
  (round : ∀ (k1 : Env → Hp → Prop) (s : σ) (j : Nat → Value) (h : Hp), I s h → h.wf → (∀ s' j' h', μ s' < μ s → (h'.wf → ∃ h'', h'.wk h'' ∧ I s' h'') → k1 (m25_1_1_0_1_0_0 x0 x1 x2 x19 (f3 s') (f4 s') j') h') → (
  pv (lenV x0) fun t1 =>
  pv (binV .none .lss (f4 s) t1) fun t2 =>
  cnd t2 (
    pv (iaV none 2 x0 (f4 s)) fun t3 =>
    pv (faV 1 t3) fun t4 =>
    ld false 1 t4 fun t5 =>
    pv (lenV t5) fun t6 =>
    pv (binV .none .add (f3 s) t6) fun t7 =>
    pv (binV .none .add (f4 s) (.int .i64 1)) fun t8 =>
    k1 (m25_1_1_0_1_0_0 x0 x1 x2 x19 t7 t8 (jf #[x0, x1, x2, t7, t8, (f4 s), x0, t1, t2, (f4 s), t8, (f3 s), x0, (f4 s), t3, t4, t5, t6, t7, x19]))) (
    den Tryz.prog (sel (bodyOf Tryz.f25) [1, 1, 1]) (bodyQ Tryz.prog Tryz.f25.results.toList K E) #[x0, x1, x2, (f3 s), (f4 s), (f4 s), x0, t1, t2, (j 9), (j 10), (j 11), (j 12), (j 13), (j 14), (j 15), (j 16), (j 17), (j 18), x19])) h) :
  lp (fun k1 => den Tryz.prog (sel (bodyOf Tryz.f25) [1, 1, 0, 1, 0, 0]) (thenD k1 (blk 0 (thenD (den Tryz.prog (sel (bodyOf Tryz.f25) [1, 1, 1]) (bodyQ Tryz.prog Tryz.f25.results.toList K E)) (bodyQ Tryz.prog Tryz.f25.results.toList K E))))) #[x0, x1, x2, v3, v4, y5, y6, y7, y8, y9, y10, y11, y12, y13, y14, y15, y16, y17, y18, x19] h := by
  subst e3
  subst e4
  have e : (#[x0, x1, x2, (f3 s0), (f4 s0), y5, y6, y7, y8, y9, y10, y11, y12, y13, y14, y15, y16, y17, y18, x19] : Env) = m25_1_1_0_1_0_0 x0 x1 x2 x19 (f3 s0) (f4 s0) (jf #[x0, x1, x2, (f3 s0), (f4 s0), y5, y6, y7, y8, y9, y10, y11, y12, y13, y14, y15, y16, y17, y18, x19]) := by kernel_rfl
  rw [e]
  exact loop_r (fun s j => m25_1_1_0_1_0_0 x0 x1 x2 x19 (f3 s) (f4 s) j) I μ (fun k s j h hI hw next => by rw [t25_1_1_0_1_0_0]; exact round k s j h hI hw next) s0 (jf #[x0, x1, x2, (f3 s0), (f4 s0), y5, y6, y7, y8, y9, y10, y11, y12, y13, y14, y15, y16, y17, y18, x19]) h0

end Go.Proofs.YtgjdjdjhoipfmaaGreatDoor.T
open Go Go.RowKit Go.Proofs.YtgjdjdjhoipfmaaGreatDoor.K Go.Proofs.YtgjdjdjhoipfmaaGreatDoor.T
set_option linter.unusedVariables false
set_option linter.unusedSimpArgs false
namespace Go.Proofs.YtgjdjdjhoipfmaaGreatDoor.A
variable {F F' : Nat → Option (List Value)} {M M' : Nat → Option Chunk} {N N' : Nat} {K : Kont} {E : PanK}
/-! ### Calls on a cube -/
structure OpC where
  kind : Int
  at' : Int
  keys : List (List Int)
  v : List Int
  facts : List Fc
  fr : Int
  to : Int
  L : List En
/-- What is known of a call that comes in. -/
structure OpC.ok (o : OpC) : Prop where
  kd : 0 ≤ o.kind ∧ o.kind < 256
  ta : 0 ≤ o.at' ∧ o.at' < 4294967296
  kl : o.keys.length ≤ 140737488351232
  kc : ∀ k ∈ o.keys, ∀ x ∈ k, 0 ≤ x ∧ x < 65536
  vl : o.v.length ≤ 140737488351232
  vc : ∀ x ∈ o.v, i64 x
  fl : o.facts.length ≤ 140737488351232
  fc : ∀ f ∈ o.facts, i64 f.2
  fo : 0 ≤ o.fr ∧ o.fr < 65536
  tt : 0 ≤ o.to ∧ o.to < 65536
  ll : o.L.length ≤ 140737488351232
  lt : ∀ e ∈ o.L, 0 ≤ e.1 ∧ e.1 < 4294967296
  lc : ∀ e ∈ o.L, ∀ f ∈ e.2, i64 f.2
def opcD (F : Nat → Option (List Value)) (cs : List Value) (o : OpC) : Prop := ∃ k v f L, cs = [.int .u8 o.kind, .int .u32 o.at', k, v, f, .int .u16 o.fr, .int .u16 o.to, L] ∧ kksD .u16 F k o.keys ∧ sF F 1 v o.v.length (ic o.v) ∧ fctsD F f o.facts ∧ entsD F L o.L ∧ o.ok
theorem opcD.mono {cs : List Value} {o : OpC} (h : opcD F cs o) (hF : subF F F') : opcD F' cs o := let ⟨k, v, f, L, e, h1, h2, h3, h4, h5⟩ := h; ⟨k, v, f, L, e, h1.mono hF, h2.mono hF, h3.mono hF, h4.mono hF, h5⟩
theorem kksD.form {k : IntKind} {v : Value} {ks : List (List Int)} (h : kksD k F v ks) : ∃ a c, v = .slice a ks.length c := let ⟨rows, h1, _⟩ := h; let ⟨a, c, h2, _⟩ := h1.form; ⟨a, c, h2⟩
theorem opcD.one {cs : List Value} {o : OpC} (h : opcD F cs o) : cs.length = 8 ∧ ∀ c ∈ cs, c.oneCell' = true := by
  obtain ⟨k, v, f, L, rfl, h1, h2, h3, h4, _⟩ := h
  obtain ⟨a1, c1, rfl⟩ := h1.form
  obtain ⟨a2, c2, rfl, _⟩ := h2.form
  obtain ⟨a3, c3, rfl⟩ := h3.form
  obtain ⟨a4, c4, rfl⟩ := h4.form
  exact ⟨rfl, List.all_eq_true.1 rfl⟩
def opsD (F : Nat → Option (List Value)) (v : Value) (l : List OpC) : Prop := ∃ rows, sF F 8 v l.length rows.flatten ∧ rowsF (opcD F) 8 rows l
theorem opsD.mono {v : Value} {l : List OpC} (h : opsD F v l) (hF : subF F F') : opsD F' v l := let ⟨rows, h1, h2⟩ := h; ⟨rows, h1.mono hF, h2.mono fun _ _ hr => hr.mono hF⟩
theorem add_any {e : EqK} {a b : Int} {h : Hp} (k : ∀ r : Int, K (.int .i64 r) h) : pv (binV e .add (.int .i64 a) (.int .i64 b)) K h := ⟨_, by rw [inV]; rfl, k _⟩
/-- Heavy: some number. -/
theorem heavy13_c {v : Value} {l : List OpC} (hv : opsD F v l) (hl : l.length ≤ 140737488351232) (k : ∀ r : Int, (Hp.mk F M N).wf → K (.int .i64 r) ⟨F, M, N⟩) :
    callv Tryz.prog (.func (.func 21) #[] #[]) #[v] K E ⟨F, M, N⟩ := by
  refine callv_of_text mixed Tryz.func21 (by kernel_rfl) (t21 _ E _) (fun hw => ?_)
  obtain ⟨rows, hv1, hv2⟩ := hv
  refine l21_1_1_0_1_0_0 (σ := Nat × Int) (fun s => .int .i64 s.2) (fun s => .int .i64 (s.1 : Nat)) (fun s h' => h' = ⟨F, M, N⟩ ∧ s.1 ≤ l.length) (fun s => l.length - s.1) (0, 0) rfl rfl
    (fun hw1 => ⟨_, wk_refl hw1, rfl, Nat.zero_le _⟩) (fun kk s j h1 hI hw1 next => ?_)
  obtain ⟨rfl, hi⟩ := hI
  refine lenF_r hv1 ?_
  refine lss_r (fun hlt => ?_) (fun hge => ?_)
  · have i1 : s.1 < l.length := by omega
    try simp only [gdTT, gdFF, gdTF, gdFT, pvS, pickT, pickF, faP, lenS, capS, nilP, exA, exB, exC, notB, cndT, cndF, Bool.not_true, Bool.not_false, Nat.zero_add, Nat.add_zero]
    refine fld_r hv1 hv2 (by decide) i1 (off := 2) (by decide) fun p z r y hR _ hy => ?_
    obtain ⟨ck, cv, cf, cL, rfl, hk, _, hf, hL, ok⟩ := hR
    have hy' : y = ck := by simpa using hy.symm
    subst hy'
    obtain ⟨a1, c1, e1⟩ := hk.form
    refine pv_r (v := .int .i64 (l[s.1].keys.length : Nat)) (by rw [e1]; rfl) (add_any fun r1 => ?_)
    refine fld_r hv1 hv2 (by decide) i1 (off := 4) (by decide) fun p z r y hR _ hy => ?_
    obtain ⟨ck, cv, cf, cL, rfl, hk, _, hf, hL, ok⟩ := hR
    have hy' : y = cf := by simpa using hy.symm
    subst hy'
    obtain ⟨a1, c1, e1⟩ := hf.form
    refine pv_r (v := .int .i64 (l[s.1].facts.length : Nat)) (by rw [e1]; rfl) (add_any fun r2 => add_any fun r3 => ?_)
    refine l21_1_1_0_1_0_0_1_0_0_1_1_0_0 (σ := Nat × Int) (fun q => .int .i64 q.2) (fun q => .int .i64 (q.1 : Nat)) (fun q h' => h' = ⟨F, M, N⟩ ∧ q.1 ≤ l[s.1].L.length) (fun q => l[s.1].L.length - q.1) (0, r3) rfl rfl
      (fun hw2 => ⟨_, wk_refl hw2, rfl, Nat.zero_le _⟩) (fun kk2 q j2 h2 hI2 hw2 next2 => ?_)
    obtain ⟨rfl, hq⟩ := hI2
    refine fld_r hv1 hv2 (by decide) i1 (off := 7) (by decide) fun p z r y hR _ hy => ?_
    obtain ⟨ck, cv, cf, cL, rfl, hk, _, hf, hL, ok⟩ := hR
    have hy' : y = cL := by simpa using hy.symm
    subst hy'
    obtain ⟨a1, c1, e1⟩ := hL.form
    have hll := ok.ll
    refine pv_r (v := .int .i64 (l[s.1].L.length : Nat)) (by rw [e1]; rfl) ?_
    refine lss_r (fun hlt2 => ?_) (fun hge2 => ?_)
    · have q1 : q.1 < l[s.1].L.length := by omega
      try simp only [gdTT, gdFF, gdTF, gdFT, pvS, pickT, pickF, faP, lenS, capS, nilP, exA, exB, exC, notB, cndT, cndF, Bool.not_true, Bool.not_false, Nat.zero_add, Nat.add_zero]
      refine fld_r hv1 hv2 (by decide) i1 (off := 7) (by decide) fun p z r y2 hR _ hy => ?_
      obtain ⟨ck, cv, cf, cL, rfl, hk, _, hf, hL, ok⟩ := hR
      have hy' : y2 = cL := by simpa using hy.symm
      subst hy'
      obtain ⟨lrows, hL1, hL2⟩ := hL
      refine fld_r hL1 hL2 (by decide) q1 (off := 1) (by decide) fun p z r y3 hR _ hy => ?_
      obtain ⟨fv, rfl, hfv⟩ := hR.at
      have hy' : y3 = fv := by simpa using hy.symm
      subst hy'
      obtain ⟨frows, hfa, _⟩ := hfv
      refine lenF_r hfa (add_any fun r5 => add_any fun r6 => ?_)
      refine inc_r (by omega) ?_
      exact next2 (q.1 + 1, r6) _ _ (by simp only; omega) (fun hw3 => ⟨_, wk_refl hw3, rfl, q1⟩)
    · try simp only [gdTT, gdFF, gdTF, gdFT, pvS, pickT, pickF, faP, lenS, capS, nilP, exA, exB, exC, notB, cndT, cndF, Bool.not_true, Bool.not_false, Nat.zero_add, Nat.add_zero]
      rw [t21_1_1_0_1_0_0_1_1]
      refine inc_r (by omega) ?_
      exact next (s.1 + 1, q.2) _ _ (by simp only; omega) (fun hw3 => ⟨_, wk_refl hw3, rfl, i1⟩)
  · try simp only [gdTT, gdFF, gdTF, gdFT, pvS, pickT, pickF, faP, lenS, capS, nilP, exA, exB, exC, notB, cndT, cndF, Bool.not_true, Bool.not_false, Nat.zero_add, Nat.add_zero]
    rw [t21_1_1_1]
    exact fun hc => ⟨_, wk_refl hc, fun hw' => k s.2 hw'⟩
/-- The facts of a call's entry. -/
def pick (l : List Fc) (fr to : Int) (i n : Nat) : List Fc := ((l.take n).mapIdx fun k f => (k, f)).filterMap fun p => if fr ≤ p.2.1.getD 0 0 ∧ p.2.1.getD 0 0 < to ∧ p.1 % (i + 1) = 0 then some p.2 else none
/-- Entries that a call puts. -/
def entOf (l : List Dm) (o : OpC) : List En := (o.L.take 20).mapIdx fun i e => ((i : Int) * 3 + 1 + e.1 % 3, pick (factsOf l o.keys o.v) o.fr o.to i (factsOf l o.keys o.v).length)
theorem pick_mem {l : List Fc} {fr to : Int} {i : Nat} : ∀ {n : Nat} {f : Fc}, f ∈ pick l fr to i n → f ∈ l ∧ fr ≤ f.1.getD 0 0 ∧ f.1.getD 0 0 < to := by
  intro n f hf
  unfold pick at hf
  obtain ⟨p, hp, he⟩ := List.mem_filterMap.1 hf
  split at he
  · rename_i hc
    cases he
    obtain ⟨j, hj, rfl⟩ := List.mem_iff_getElem.1 hp
    rw [List.getElem_mapIdx] at hc ⊢
    exact ⟨List.mem_of_mem_take (List.getElem_mem _), hc.1, hc.2.1⟩
  · cases he
theorem entOf_len (l : List Dm) (o : OpC) : (entOf l o).length = min 20 o.L.length := by simp [entOf]
end Go.Proofs.YtgjdjdjhoipfmaaGreatDoor.A
open Go Go.RowKit Go.Proofs.YtgjdjdjhoipfmaaGreatDoor.K Go.Proofs.YtgjdjdjhoipfmaaGreatDoor.T
set_option linter.unusedVariables false
set_option linter.unusedSimpArgs false
namespace Go.Proofs.YtgjdjdjhoipfmaaGreatDoor.A
variable {F F' : Nat → Option (List Value)} {M M' : Nat → Option Chunk} {N N' : Nat} {K : Kont} {E : PanK}
theorem entOf_at {l : List Dm} {o : OpC} {i : Nat} (h1 : i < o.L.length) (h2 : i < 20) (h3 : i < (entOf l o).length) : (entOf l o)[i] = ((i : Int) * 3 + 1 + o.L[i].1 % 3, pick (factsOf l o.keys o.v) o.fr o.to i (factsOf l o.keys o.v).length) := by
  have h : (entOf l o)[i]? = some ((i : Int) * 3 + 1 + o.L[i].1 % 3, pick (factsOf l o.keys o.v) o.fr o.to i (factsOf l o.keys o.v).length) := by
    unfold entOf
    rw [List.getElem?_mapIdx, List.getElem?_take, if_pos h2, List.getElem?_eq_getElem h1]; rfl
  rw [List.getElem?_eq_getElem h3] at h
  exact Option.some.inj h
end Go.Proofs.YtgjdjdjhoipfmaaGreatDoor.A
open Go Go.RowKit Go.Proofs.YtgjdjdjhoipfmaaGreatDoor.K Go.Proofs.YtgjdjdjhoipfmaaGreatDoor.T
set_option linter.unusedVariables false
set_option linter.unusedSimpArgs false
namespace Go.Proofs.YtgjdjdjhoipfmaaGreatDoor.A
variable {F F' : Nat → Option (List Value)} {M M' : Nat → Option Chunk} {N N' : Nat} {K : Kont} {E : PanK}
/-- The program's cube and the reference's, of the same facts. -/
structure both (F : Nat → Option (List Value)) (M : Nat → Option Chunk) (B g g2 : Nat) (hv dv : Value) (rows : List (List Value)) (dv2 lv2 : Value) (l : List Dm) (h : List En) : Prop where
  c : isCube F M B g hv dv rows l h
  r : isRef F M g2 dv2 lv2 l h
  o : okH l 5000 200 h
  n1 : g2 ≠ g
  n2 : hv.ownBlock ≠ some g2
/-- What a call makes of the facts. -/
def doesH (l : List Dm) (h : List En) (o : OpC) : List En :=
  if o.kind % 6 = 4 then addH l h o.at' o.facts else if o.kind % 6 = 5 then replF l o.fr o.to (replF l o.fr o.to h o.L) (entOf l o) else addH l h (o.at' % 40) (factsOf l o.keys o.v)
theorem okH.does {l : List Dm} {h : List En} (k : okH l 5000 200 h) {o : OpC} (ok : o.ok) : okH l 5000 200 (doesH l h o) := by
  unfold doesH
  split
  · exact k.add ok.ta.1 _
  · split
    · exact (k.repl _ _ _).repl _ _ _
    · have := ok.ta; exact k.add (by omega) _
theorem entOf_time {l : List Dm} {o : OpC} (ok : o.ok) : ∀ e ∈ entOf l o, 0 ≤ e.1 ∧ e.1 < 4294967296 := fun e he => by
  obtain ⟨i, hi, rfl⟩ := List.mem_iff_getElem.1 he
  have hl := entOf_len l o
  rw [entOf_at (by omega) (by omega) hi]
  simp only; omega
theorem w64 {x : Int} (h0 : 0 ≤ x) (h1 : x < 65536) {k : IntKind} {h : Hp} (kk : K (.int .i64 x) h) : pv (cvV .i64 (.int k x)) K h := ⟨.int .i64 x, by show some (Value.int .i64 (IntKind.i64.wrap x)) = _; rw [wrap_in (by omega) (by omega)], kk⟩
end Go.Proofs.YtgjdjdjhoipfmaaGreatDoor.A
open Go Go.RowKit Go.Proofs.YtgjdjdjhoipfmaaGreatDoor.K Go.Proofs.YtgjdjdjhoipfmaaGreatDoor.T
set_option linter.unusedVariables false
set_option linter.unusedSimpArgs false
namespace Go.Proofs.YtgjdjdjhoipfmaaGreatDoor.A
variable {F F' : Nat → Option (List Value)} {M M' : Nat → Option Chunk} {N N' : Nat} {K : Kont} {E : PanK}
theorem fold_keys : ∀ (l t : List Rw) (r : Rw), r ∈ l.foldl (fun t r => layR t r.1 r.2) t → (∃ x ∈ l, x.1 = r.1) ∨ r ∈ t
  | [], t, r, h => .inr h
  | x :: l, t, r, h => by
    rcases fold_keys l _ r h with ⟨y, hy, e⟩ | h
    · exact .inl ⟨y, List.mem_cons_of_mem _ hy, e⟩
    · rcases layR_keys t x.1 x.2 r h with h | h
      · exact .inl ⟨x, List.mem_cons_self, h.symm⟩
      · exact .inr h
theorem tab_keys (l : List Rw) (r : Rw) (h : r ∈ tab l) : ∃ x ∈ l, x.1 = r.1 := (fold_keys l [] r h).elim id (fun h => by cases h)
theorem okH.total {l : List Dm} {n m : Nat} {h : List En} (o : okH l n m h) : (allF h).length ≤ n * m := by
  have key : ∀ (h : List En), (∀ e ∈ h, e.2.length ≤ m) → (allF h).length ≤ h.length * m := by
    intro h
    induction h with
    | nil => intro _; simp [allF]
    | cons e h ih =>
      intro hp
      have h1 := ih fun x hx => hp x (List.mem_cons_of_mem _ hx)
      have h2 := hp e List.mem_cons_self
      rw [allF_cons, List.length_append, List.length_cons, Nat.succ_mul]; omega
  exact Nat.le_trans (key h o.fl) (Nat.mul_le_mul_right _ o.le)
theorem inF_okK {l : List Dm} (hl : goodDims l) {k : List Int} (h : inF l k = true) : goodKey l k := by
  have hlen := inF_len h
  unfold inF at h
  rw [Bool.and_eq_true, List.all_eq_true] at h
  refine ⟨hlen, fun x hx => ?_⟩
  obtain ⟨i, hi, rfl⟩ := List.mem_iff_getElem.1 hx
  have hi' : i < l.length := by omega
  have := h.2 i (List.mem_range.2 hi')
  unfold inP at this
  rw [getD_at hi, getD_at hi'] at this
  have h1 := of_decide_eq_true this
  have h2 := hl.2.2 _ (List.getElem_mem hi')
  omega
theorem goodKey_okK {l : List Dm} (hl : goodDims l) {k : List Int} (h : goodKey l k) : okK k := by
  have := hl.2.1
  exact ⟨by rw [h.1]; omega, fun x hx => by have := h.2 x hx; unfold i64; omega⟩
theorem okH.okK {l : List Dm} (hl : goodDims l) {n m : Nat} {h : List En} (o : okH l n m h) : ∀ e ∈ h, ∀ f ∈ e.2, A.okK f.1 := fun e he f hf => goodKey_okK hl (inF_okK hl (o.fi e he f hf))
theorem okH.tab {l : List Dm} (hl : goodDims l) {n m : Nat} {h : List En} (o : okH l n m h) (t : Int) : ∀ r ∈ A.tab ((tillF h t).map fr1), A.okK r.1 := fun r hr => by
  obtain ⟨x, hx, e⟩ := tab_keys _ r hr
  obtain ⟨f, hf, rfl⟩ := List.mem_map.1 hx
  obtain ⟨d, hd, hfd⟩ := tillF_mem hf
  rw [← e]; exact o.okK hl d hd f hfd
theorem encFs_le {m d : Nat} {fs : List Fc} (h1 : fs.length ≤ m) (h2 : ∀ f ∈ fs, f.1.length ≤ d) : (encFs fs).length ≤ 4 + m * (9 + 4 * d) := by
  have key : ∀ fs : List Fc, (∀ f ∈ fs, f.1.length ≤ d) → (fs.flatMap encF).length ≤ fs.length * (9 + 4 * d) := by
    intro fs
    induction fs with
    | nil => intro _; simp
    | cons f fs ih =>
      intro hp
      have h1 := ih fun x hx => hp x (List.mem_cons_of_mem _ hx)
      have h2 := hp f List.mem_cons_self
      have h3 : (encF f).length = 1 + f.1.length * 4 + 8 := by unfold encF; rw [List.length_append, List.length_append, putL_len, putL_len, encK_len]; omega
      rw [List.flatMap_cons, List.length_append, List.length_cons, Nat.succ_mul]; omega
  have h3 := key fs h2
  have h4 : fs.length * (9 + 4 * d) ≤ m * (9 + 4 * d) := Nat.mul_le_mul_right _ h1
  unfold encFs
  rw [List.length_append, putL_len]; omega
theorem encEs_le {n m d : Nat} {h : List En} (h1 : h.length ≤ n) (h2 : ∀ e ∈ h, e.2.length ≤ m ∧ ∀ f ∈ e.2, f.1.length ≤ d) : (encEs h).length ≤ 4 + n * (8 + m * (9 + 4 * d)) := by
  have key : ∀ h : List En, (∀ e ∈ h, e.2.length ≤ m ∧ ∀ f ∈ e.2, f.1.length ≤ d) → (h.flatMap encE).length ≤ h.length * (8 + m * (9 + 4 * d)) := by
    intro h
    induction h with
    | nil => intro _; simp
    | cons e h ih =>
      intro hp
      have h1 := ih fun x hx => hp x (List.mem_cons_of_mem _ hx)
      obtain ⟨h2, h3⟩ := hp e List.mem_cons_self
      have h4 := encFs_le h2 h3
      have h5 : (encE e).length = 4 + (encFs e.2).length := by unfold encE; rw [List.length_append, putL_len]
      rw [List.flatMap_cons, List.length_append, List.length_cons, Nat.succ_mul]; omega
  have h3 := key h h2
  have h4 : h.length * (8 + m * (9 + 4 * d)) ≤ n * (8 + m * (9 + 4 * d)) := Nat.mul_le_mul_right _ h1
  unfold encEs
  rw [List.length_append, putL_len]; omega
theorem okH.enc {l : List Dm} (hl : goodDims l) {h : List En} (o : okH l 5000 200 h) : (encEs h).length ≤ 100000000 := by
  have h4 := hl.2.1
  have := encEs_le (d := 4) o.le fun e he => ⟨o.fl e he, fun f hf => by have := inF_len (o.fi e he f hf); omega⟩
  omega
theorem both.keep {B g g2 : Nat} {hv dv dv2 lv2 : Value} {rows : List (List Value)} {l : List Dm} {h : List En} (b : both F M B g g2 hv dv rows dv2 lv2 l h) (hF : subF F F') (hM : ∀ q, q = g ∨ q = g2 ∨ hv.ownBlock = some q → M' q = M q) : both F' M' B g g2 hv dv rows dv2 lv2 l h :=
  ⟨b.c.keep hF (fun q hq => hM q (hq.elim .inl (fun h => .inr (.inr h)))), b.r.keep hF (hM g2 (.inr (.inl rfl))), b.o, b.n1, b.n2⟩
theorem both.lt {B g g2 : Nat} {hv dv dv2 lv2 : Value} {rows : List (List Value)} {l : List Dm} {h : List En} (b : both F M B g g2 hv dv rows dv2 lv2 l h) (hm : clean M N) : ∀ q, q = g ∨ q = g2 ∨ hv.ownBlock = some q → q < N := fun q hq => by
  rcases hq with hq | hq | hq
  · exact (b.c.lt hm q (.inl hq)).2
  · subst hq; exact hm.lt b.r.gg
  · exact (b.c.lt hm q (.inr hq)).2
end Go.Proofs.YtgjdjdjhoipfmaaGreatDoor.A
open Go Go.RowKit Go.Proofs.YtgjdjdjhoipfmaaGreatDoor.K
set_option linter.unusedVariables false
set_option maxRecDepth 100000
namespace Go.Proofs.YtgjdjdjhoipfmaaGreatDoor.T
end Go.Proofs.YtgjdjdjhoipfmaaGreatDoor.T
open Go Go.RowKit Go.Proofs.YtgjdjdjhoipfmaaGreatDoor.K Go.Proofs.YtgjdjdjhoipfmaaGreatDoor.T
set_option linter.unusedVariables false
set_option linter.unusedSimpArgs false
namespace Go.Proofs.YtgjdjdjhoipfmaaGreatDoor.A
variable {F F' : Nat → Option (List Value)} {M M' : Nat → Option Chunk} {N N' : Nat} {K : Kont} {E : PanK}
theorem queryD.box {cs : List Value} {m lo hi : List Int} (h : queryD F cs m lo hi) : cs.length = 3 ∧ ∀ c ∈ cs, c.oneCell' = true := by
  obtain ⟨a, b, c, rfl, h1, h2, h3, _⟩ := h
  obtain ⟨a1, c1, rfl, _⟩ := h1.form
  obtain ⟨a2, c2, rfl, _⟩ := h2.form
  obtain ⟨a3, c3, rfl, _⟩ := h3.form
  exact ⟨rfl, List.all_eq_true.1 rfl⟩
end Go.Proofs.YtgjdjdjhoipfmaaGreatDoor.A
open Go Go.RowKit Go.Proofs.YtgjdjdjhoipfmaaGreatDoor.K
set_option linter.unusedVariables false
set_option maxRecDepth 100000
namespace Go.Proofs.YtgjdjdjhoipfmaaGreatDoor.T
end Go.Proofs.YtgjdjdjhoipfmaaGreatDoor.T
open Go Go.RowKit Go.Proofs.YtgjdjdjhoipfmaaGreatDoor.K Go.Proofs.YtgjdjdjhoipfmaaGreatDoor.T
set_option linter.unusedVariables false
set_option linter.unusedSimpArgs false
namespace Go.Proofs.YtgjdjdjhoipfmaaGreatDoor.A
variable {F F' : Nat → Option (List Value)} {M M' : Nat → Option Chunk} {N N' : Nat} {K : Kont} {E : PanK}
end Go.Proofs.YtgjdjdjhoipfmaaGreatDoor.A
open Go Go.RowKit Go.Proofs.YtgjdjdjhoipfmaaGreatDoor.K Go.Proofs.YtgjdjdjhoipfmaaGreatDoor.T
set_option linter.unusedVariables false
set_option linter.unusedSimpArgs false
namespace Go.Proofs.YtgjdjdjhoipfmaaGreatDoor.A
variable {F F' : Nat → Option (List Value)} {M M' : Nat → Option Chunk} {N N' : Nat} {K : Kont} {E : PanK}
abbrev rQuery : (Nat → Option (List Value)) → List Value → List Int × List Int × List Int → Prop := rP (rS 1 (rI .i64)) (rP (rS 1 (rI .i64)) (rS 1 (rI .i64)))
theorem wf_u32 {x : Int} (h : (Lit.int .u32 x).wf = true) : 0 ≤ x ∧ x < 4294967296 := by
  have h' : 0 ≤ x ∧ x ≤ 4294967295 := by simpa [Lit.wf, IntKind.min, IntKind.max, IntKind.signed, IntKind.bits] using h
  omega
abbrev rFact : (Nat → Option (List Value)) → List Value → List Int × Int → Prop := rP (rS 1 (rI .i64)) (rI .i64)
abbrev rEnt : (Nat → Option (List Value)) → List Value → Int × List (List Int × Int) → Prop := rP (rI .u32) (rS 2 rFact)
abbrev OpY := Int × Int × List (List Int) × List Int × List (List Int × Int) × Int × Int × List (Int × List (List Int × Int))
abbrev rOp : (Nat → Option (List Value)) → List Value → OpY → Prop := rP (rI .u8) (rP (rI .u32) (rP (rS 1 (rS 1 (rI .u16))) (rP (rS 1 (rI .i64)) (rP (rS 2 rFact) (rP (rI .u16) (rP (rI .u16) (rS 2 rEnt)))))))
def toOp (y : OpY) : OpC := ⟨y.1, y.2.1, y.2.2.1, y.2.2.2.1, y.2.2.2.2.1, y.2.2.2.2.2.1, y.2.2.2.2.2.2.1, y.2.2.2.2.2.2.2⟩
theorem rS_one {α : Type} {R : (Nat → Option (List Value)) → List Value → α → Prop} {sz : Nat} {cs : List Value} {y : List α} (h : rS sz R F cs y) : ∃ v, cs = [v] := let ⟨v, _, e, _⟩ := h; ⟨v, e⟩
theorem ents_of {v : Value} {y : List (Int × List (List Int × Int))} (h : rS 2 rEnt F [v] y) : entsD F v y ∧ y.length ≤ 140737488351232 ∧ ∀ e ∈ y, (0 ≤ e.1 ∧ e.1 < 4294967296) ∧ ∀ f ∈ e.2, i64 f.2 := by
  obtain ⟨v', rows, e, hv, hr, hl⟩ := h
  injection e with e _
  subst e
  have hr' : rowsF (fun r e => entD F r e ∧ (0 ≤ e.1 ∧ e.1 < 4294967296) ∧ ∀ f ∈ e.2, i64 f.2) 2 rows y := hr.mono fun r e ⟨c1, c2, ee, ⟨ha, hb⟩, hc⟩ => by
    obtain ⟨u, hu⟩ := rS_one hc
    rw [hu] at hc
    obtain ⟨h1, h2, h3⟩ := facts_of hc
    exact ⟨⟨u, by rw [ee, ha, hu]; rfl, h1, h2⟩, wf_u32 hb, fun f hf => (h3 f hf).2⟩
  exact ⟨⟨rows, hv, hr'.mono fun _ _ h => h.1⟩, hl, fun e he => by obtain ⟨r, h⟩ := rowsF_all hr' e he; exact h.2⟩
theorem op_of {cs : List Value} {y : OpY} (h : rOp F cs y) : opcD F cs (toOp y) := by
  obtain ⟨c1, d1, e1, ⟨h1, w1⟩, c2, d2, e2, ⟨h2, w2⟩, c3, d3, e3, h3, c4, d4, e4, h4, c5, d5, e5, h5, c6, d6, e6, ⟨h6, w6⟩, c7, d7, e7, ⟨h7, w7⟩, h8⟩ := h
  obtain ⟨v3, u3⟩ := rS_one h3
  obtain ⟨v4, u4⟩ := rS_one h4
  obtain ⟨v5, u5⟩ := rS_one h5
  obtain ⟨v8, u8⟩ := rS_one h8
  rw [u3] at h3; rw [u4] at h4; rw [u5] at h5; rw [u8] at h8
  have a3 := lists_of h3
  have a4 := list_of h4
  have a5 := facts_of h5
  have a8 := ents_of h8
  refine ⟨v3, v4, v5, v8, ?_, a3.1, a4.1, a5.1, a8.1, ⟨wf_u8 w1, wf_u32 w2, a3.2.1, fun l hl x hx => wf_u16 (a3.2.2 l hl x hx), a4.2.2, fun x hx => wf_i64 (a4.2.1 x hx), a5.2.1, fun f hf => (a5.2.2 f hf).2, wf_u16 w6, wf_u16 w7, a8.2.1, fun e he => (a8.2.2 e he).1, fun e he => (a8.2.2 e he).2⟩⟩
  rw [e1, e2, e3, e4, e5, e6, e7, h1, h2, h6, h7, u3, u4, u5, u8]; rfl
theorem ops_of {v : Value} {y : List OpY} (h : rS 8 rOp F [v] y) : opsD F v (y.map toOp) ∧ (y.map toOp).length ≤ 140737488351232 := by
  obtain ⟨v', rows, e, hv, hr, hl⟩ := h
  injection e with e _
  subst e
  have hr' : rowsF (fun r x => opcD F r (toOp x)) 8 rows y := hr.mono fun r f h => op_of h
  exact ⟨⟨rows, by rw [List.length_map]; exact hv, rowsF_map toOp hr'⟩, by rw [List.length_map]; exact hl⟩
end Go.Proofs.YtgjdjdjhoipfmaaGreatDoor.A
open Go Go.RowKit Go.Proofs.YtgjdjdjhoipfmaaGreatDoor.K
set_option linter.unusedVariables false
set_option maxRecDepth 100000
namespace Go.Proofs.YtgjdjdjhoipfmaaGreatDoor.T
end Go.Proofs.YtgjdjdjhoipfmaaGreatDoor.T
open Go Go.RowKit Go.Proofs.YtgjdjdjhoipfmaaGreatDoor.K Go.Proofs.YtgjdjdjhoipfmaaGreatDoor.T
set_option linter.unusedVariables false
set_option linter.unusedSimpArgs false
namespace Go.Proofs.YtgjdjdjhoipfmaaGreatDoor.A
variable {F F' : Nat → Option (List Value)} {M M' : Nat → Option Chunk} {N N' : Nat} {K : Kont} {E : PanK}
end Go.Proofs.YtgjdjdjhoipfmaaGreatDoor.A
open Go Go.RowKit Go.Proofs.YtgjdjdjhoipfmaaGreatDoor.K
set_option linter.unusedVariables false
set_option maxRecDepth 100000
namespace Go.Proofs.YtgjdjdjhoipfmaaGreatDoor.T
theorem t7 (K : Kont) (E : PanK) (x0 x1 x2 x3 x4 : Value)  : den Tryz.prog (sel (bodyOf Tryz.f7) []) (bodyQ Tryz.prog Tryz.f7.results.toList K E) #[x0, x1, x2, x3, x4, undef, undef, undef, undef, undef, undef, undef, undef, undef, undef, undef, undef, undef, undef, undef, undef, undef, undef, undef, undef, undef, undef, undef, undef, undef, undef, undef, undef, undef, undef, undef, undef, undef, undef, undef, undef, undef, undef, undef, undef, undef, undef, undef, undef, undef, undef, undef, undef, undef, undef, undef, undef, undef, undef, undef, undef, undef, undef, undef, undef, undef, undef, undef, undef, undef, undef, undef, undef, undef, undef, undef, undef, undef, undef, undef, undef, undef, undef, undef, undef, undef, undef, undef, undef, undef, undef, undef, undef, undef, undef, undef, undef, undef, undef, undef, undef, undef, undef, undef, undef, undef, undef, undef, undef, undef, undef, undef, undef, undef, undef, undef, undef, undef, undef, undef, undef, undef, undef, undef, undef, undef, undef, undef, undef, undef, undef, undef, undef, undef] =
  pv (lenV x1) fun t1 =>
  pv (binV .none .gtr t1 (.int .i64 20)) fun t2 =>
  gdK t2 false (fun k => k x1) fun t3 =>
  gdK t2 false (fun k => callv Tryz.prog (.func (.func 21) #[] #[]) #[t3] k E) fun t4 =>
  gdK t2 false (fun k => pv (binV .none .gtr t4 (.int .i64 300)) k) fun t5 =>
  pv (pickV t2 (.bool true) t5) fun t6 =>
  gdK t6 false (fun k => callv Tryz.prog (.func (.func 11) #[] #[]) #[] k E) fun t7 =>
  gdK t6 false (fun k => pv (unV .not t7) k) fun t8 =>
  pv (pickV t6 (.bool true) t8) fun t9 =>
  cnd t9 (
    callv Tryz.prog (.func (.func 11) #[] #[]) #[] (fun t10 =>
    K t10) E) (
    callv Tryz.prog (.func (.func 12) #[] #[]) #[x0] (fun t11 =>
    callv Tryz.prog (.func (.func 13) #[] #[]) #[t11] (fun t12 =>
    pv (binV .ptr .eql t12 (.pointer none)) fun t13 =>
    cnd t13 (
      K (.bool false)) (
      lp (fun k1 => den Tryz.prog (sel (bodyOf Tryz.f7) [1, 1, 1, 1, 1, 0, 1, 0, 0]) (thenD k1 (blk 0 (thenD (den Tryz.prog (sel (bodyOf Tryz.f7) [1, 1, 1, 1, 1, 1]) (bodyQ Tryz.prog Tryz.f7.results.toList K E)) (bodyQ Tryz.prog Tryz.f7.results.toList K E))))) #[x0, x1, x2, x3, x4, undef, undef, undef, undef, undef, (.bool false), t11, t12, (.int .i64 0), undef, undef, undef, undef, undef, undef, undef, x1, t1, t2, t2, t3, t4, t5, t6, t6, t7, t8, t9, undef, x0, t11, t11, t12, t12, t13, undef, undef, undef, undef, undef, undef, undef, undef, undef, undef, undef, undef, undef, undef, undef, undef, undef, undef, undef, undef, undef, undef, undef, undef, undef, undef, undef, undef, undef, undef, undef, undef, undef, undef, undef, undef, undef, undef, undef, undef, undef, undef, undef, undef, undef, undef, undef, undef, undef, undef, undef, undef, undef, undef, undef, undef, undef, undef, undef, undef, undef, undef, undef, undef, undef, undef, undef, undef, undef, undef, undef, undef, undef, undef, undef, undef, undef, undef, undef, undef, undef, undef, undef, undef, undef, undef, undef, undef, undef, undef, undef, undef, undef, undef])) E) E) := by kernel_rfl
def m7_1_1_1_1_1_0_1_0_0 (x0 x1 x2 x3 x4 x5 x6 x7 x8 x9 x10 x11 x12 x14 x15 x16 x17 x18 x19 x20 x21 x22 x23 x24 x25 x26 x27 x28 x29 x30 x31 x32 x33 x34 x35 x36 x37 x38 x39 x66 x67 x68 x69 x70 x71 x72 x73 x74 x75 x76 x77 x78 x79 x80 x81 x82 x83 x84 x85 x86 x87 x88 x89 x90 x91 x92 x93 x94 x95 x96 x97 x98 x99 x100 x101 x102 x103 x104 x105 x106 x107 x108 x109 x110 x111 x112 x113 x114 x115 x116 x117 x118 x119 x120 x121 x122 x123 x124 x125 x126 x127 x128 x129 x130 x131 x132 x133 : Value) (v13 : Value) (j : Nat → Value) : Env := #[x0, x1, x2, x3, x4, x5, x6, x7, x8, x9, x10, x11, x12, v13, x14, x15, x16, x17, x18, x19, x20, x21, x22, x23, x24, x25, x26, x27, x28, x29, x30, x31, x32, x33, x34, x35, x36, x37, x38, x39, (j 40), (j 41), (j 42), (j 43), (j 44), (j 45), (j 46), (j 47), (j 48), (j 49), (j 50), (j 51), (j 52), (j 53), (j 54), (j 55), (j 56), (j 57), (j 58), (j 59), (j 60), (j 61), (j 62), (j 63), (j 64), (j 65), x66, x67, x68, x69, x70, x71, x72, x73, x74, x75, x76, x77, x78, x79, x80, x81, x82, x83, x84, x85, x86, x87, x88, x89, x90, x91, x92, x93, x94, x95, x96, x97, x98, x99, x100, x101, x102, x103, x104, x105, x106, x107, x108, x109, x110, x111, x112, x113, x114, x115, x116, x117, x118, x119, x120, x121, x122, x123, x124, x125, x126, x127, x128, x129, x130, x131, x132, x133]
theorem t7_1_1_1_1_1_0_1_0_0 (K : Kont) (E : PanK) (k1 : Env → Hp → Prop) (x0 x1 x2 x3 x4 x5 x6 x7 x8 x9 x10 x11 x12 x14 x15 x16 x17 x18 x19 x20 x21 x22 x23 x24 x25 x26 x27 x28 x29 x30 x31 x32 x33 x34 x35 x36 x37 x38 x39 x66 x67 x68 x69 x70 x71 x72 x73 x74 x75 x76 x77 x78 x79 x80 x81 x82 x83 x84 x85 x86 x87 x88 x89 x90 x91 x92 x93 x94 x95 x96 x97 x98 x99 x100 x101 x102 x103 x104 x105 x106 x107 x108 x109 x110 x111 x112 x113 x114 x115 x116 x117 x118 x119 x120 x121 x122 x123 x124 x125 x126 x127 x128 x129 x130 x131 x132 x133 v13 : Value) (j : Nat → Value) : den Tryz.prog (sel (bodyOf Tryz.f7) [1, 1, 1, 1, 1, 0, 1, 0, 0]) (thenD k1 (blk 0 (thenD (den Tryz.prog (sel (bodyOf Tryz.f7) [1, 1, 1, 1, 1, 1]) (bodyQ Tryz.prog Tryz.f7.results.toList K E)) (bodyQ Tryz.prog Tryz.f7.results.toList K E)))) (m7_1_1_1_1_1_0_1_0_0 x0 x1 x2 x3 x4 x5 x6 x7 x8 x9 x10 x11 x12 x14 x15 x16 x17 x18 x19 x20 x21 x22 x23 x24 x25 x26 x27 x28 x29 x30 x31 x32 x33 x34 x35 x36 x37 x38 x39 x66 x67 x68 x69 x70 x71 x72 x73 x74 x75 x76 x77 x78 x79 x80 x81 x82 x83 x84 x85 x86 x87 x88 x89 x90 x91 x92 x93 x94 x95 x96 x97 x98 x99 x100 x101 x102 x103 x104 x105 x106 x107 x108 x109 x110 x111 x112 x113 x114 x115 x116 x117 x118 x119 x120 x121 x122 x123 x124 x125 x126 x127 x128 x129 x130 x131 x132 x133 v13 j) =
  pv (lenV x1) fun t1 =>
  pv (binV .none .lss v13 t1) fun t2 =>
  cnd t2 (
    pv (iaV none 8 x1 v13) fun t3 =>
    pv (faV 1 t3) fun t4 =>
    ld false 1 t4 fun t5 =>
    pv (binV .none .rem t5 (.int .u32 40)) fun t6 =>
    pv (iaV none 8 x1 v13) fun t7 =>
    pv (faV 2 t7) fun t8 =>
    ld false 1 t8 fun t9 =>
    pv (iaV none 8 x1 v13) fun t10 =>
    pv (faV 3 t10) fun t11 =>
    ld false 1 t11 fun t12 =>
    callv Tryz.prog (.func (.func 16) #[] #[]) #[x11, t9, t12] (fun t13 h14 => (ldV h14 false 1 t4 t5) ∧ (
      callv Tryz.prog (.func (.func 15) #[] #[]) #[x12, t6, t13] (fun t15 =>
      pv (binV .none .add v13 (.int .i64 1)) fun t16 =>
      k1 (m7_1_1_1_1_1_0_1_0_0 x0 x1 x2 x3 x4 x5 x6 x7 x8 x9 x10 x11 x12 x14 x15 x16 x17 x18 x19 x20 x21 x22 x23 x24 x25 x26 x27 x28 x29 x30 x31 x32 x33 x34 x35 x36 x37 x38 x39 x66 x67 x68 x69 x70 x71 x72 x73 x74 x75 x76 x77 x78 x79 x80 x81 x82 x83 x84 x85 x86 x87 x88 x89 x90 x91 x92 x93 x94 x95 x96 x97 x98 x99 x100 x101 x102 x103 x104 x105 x106 x107 x108 x109 x110 x111 x112 x113 x114 x115 x116 x117 x118 x119 x120 x121 x122 x123 x124 x125 x126 x127 x128 x129 x130 x131 x132 x133 t16 (jf #[x0, x1, x2, x3, x4, x5, x6, x7, x8, x9, x10, x11, x12, t16, x14, x15, x16, x17, x18, x19, x20, x21, x22, x23, x24, x25, x26, x27, x28, x29, x30, x31, x32, x33, x34, x35, x36, x37, x38, x39, v13, x1, t1, t2, v13, t16, x12, x1, v13, t3, t4, t5, t6, x11, x1, v13, t7, t8, t9, x1, v13, t10, t11, t12, t13, t15, x66, x67, x68, x69, x70, x71, x72, x73, x74, x75, x76, x77, x78, x79, x80, x81, x82, x83, x84, x85, x86, x87, x88, x89, x90, x91, x92, x93, x94, x95, x96, x97, x98, x99, x100, x101, x102, x103, x104, x105, x106, x107, x108, x109, x110, x111, x112, x113, x114, x115, x116, x117, x118, x119, x120, x121, x122, x123, x124, x125, x126, x127, x128, x129, x130, x131, x132, x133]))) E) h14) E) (
    den Tryz.prog (sel (bodyOf Tryz.f7) [1, 1, 1, 1, 1, 1]) (bodyQ Tryz.prog Tryz.f7.results.toList K E) #[x0, x1, x2, x3, x4, x5, x6, x7, x8, x9, x10, x11, x12, v13, x14, x15, x16, x17, x18, x19, x20, x21, x22, x23, x24, x25, x26, x27, x28, x29, x30, x31, x32, x33, x34, x35, x36, x37, x38, x39, v13, x1, t1, t2, (j 44), (j 45), (j 46), (j 47), (j 48), (j 49), (j 50), (j 51), (j 52), (j 53), (j 54), (j 55), (j 56), (j 57), (j 58), (j 59), (j 60), (j 61), (j 62), (j 63), (j 64), (j 65), x66, x67, x68, x69, x70, x71, x72, x73, x74, x75, x76, x77, x78, x79, x80, x81, x82, x83, x84, x85, x86, x87, x88, x89, x90, x91, x92, x93, x94, x95, x96, x97, x98, x99, x100, x101, x102, x103, x104, x105, x106, x107, x108, x109, x110, x111, x112, x113, x114, x115, x116, x117, x118, x119, x120, x121, x122, x123, x124, x125, x126, x127, x128, x129, x130, x131, x132, x133]) := by kernel_rfl
theorem t7_1_1_1_1_1_1 (K : Kont) (E : PanK) (x0 x1 x2 x3 x4 x5 x6 x7 x8 x9 x10 x11 x12 x13 x14 x15 x16 x17 x18 x19 x20 x21 x22 x23 x24 x25 x26 x27 x28 x29 x30 x31 x32 x33 x34 x35 x36 x37 x38 x39 x40 x41 x42 x43 x44 x45 x46 x47 x48 x49 x50 x51 x52 x53 x54 x55 x56 x57 x58 x59 x60 x61 x62 x63 x64 x65 x66 x67 x68 x69 x70 x71 x72 x73 x74 x75 x76 x77 x78 x79 x80 x81 x82 x83 x84 x85 x86 x87 x88 x89 x90 x91 x92 x93 x94 x95 x96 x97 x98 x99 x100 x101 x102 x103 x104 x105 x106 x107 x108 x109 x110 x111 x112 x113 x114 x115 x116 x117 x118 x119 x120 x121 x122 x123 x124 x125 x126 x127 x128 x129 x130 x131 x132 x133 : Value)  : den Tryz.prog (sel (bodyOf Tryz.f7) [1, 1, 1, 1, 1, 1]) (bodyQ Tryz.prog Tryz.f7.results.toList K E) #[x0, x1, x2, x3, x4, x5, x6, x7, x8, x9, x10, x11, x12, x13, x14, x15, x16, x17, x18, x19, x20, x21, x22, x23, x24, x25, x26, x27, x28, x29, x30, x31, x32, x33, x34, x35, x36, x37, x38, x39, x40, x41, x42, x43, x44, x45, x46, x47, x48, x49, x50, x51, x52, x53, x54, x55, x56, x57, x58, x59, x60, x61, x62, x63, x64, x65, x66, x67, x68, x69, x70, x71, x72, x73, x74, x75, x76, x77, x78, x79, x80, x81, x82, x83, x84, x85, x86, x87, x88, x89, x90, x91, x92, x93, x94, x95, x96, x97, x98, x99, x100, x101, x102, x103, x104, x105, x106, x107, x108, x109, x110, x111, x112, x113, x114, x115, x116, x117, x118, x119, x120, x121, x122, x123, x124, x125, x126, x127, x128, x129, x130, x131, x132, x133] =
  pv (mm false x2 x3) fun t1 =>
  pv (cvV .i64 t1) fun t2 =>
  pv (binV .none .rem t2 (.int .i64 300)) fun t3 =>
  pv (mm true x2 x3) fun t4 =>
  pv (cvV .i64 t4) fun t5 =>
  pv (binV .none .rem t5 (.int .i64 300)) fun t6 =>
  pv (binV .none .add t3 t6) fun t7 =>
  pv (cvV .i64 x4) fun t8 =>
  pv (binV .none .sub t7 t3) fun t9 =>
  pv (binV .none .add t9 (.int .i64 1)) fun t10 =>
  pv (binV .none .rem t8 t10) fun t11 =>
  pv (binV .none .add t3 t11) fun t12 =>
  callv Tryz.prog (.func (.func 19) #[] #[]) #[x12, (.int .i64 0), (.int .i64 10000)] (fun t13 =>
  callv Tryz.prog (.func (.func 25) #[] #[]) #[t13] (fun t14 =>
  callv Tryz.prog (.func (.func 19) #[] #[]) #[x12, t3, t12] (fun t15 =>
  callv Tryz.prog (.func (.func 25) #[] #[]) #[t15] (fun t16 =>
  callv Tryz.prog (.func (.func 19) #[] #[]) #[x12, t12, t7] (fun t17 =>
  callv Tryz.prog (.func (.func 25) #[] #[]) #[t17] (fun t18 =>
  pv (binV .none .add t16 t18) fun t19 =>
  callv Tryz.prog (.func (.func 19) #[] #[]) #[x12, t3, t7] (fun t20 =>
  callv Tryz.prog (.func (.func 25) #[] #[]) #[t20] (fun t21 =>
  callv Tryz.prog (.func (.func 26) #[] #[]) #[x12, t3, t7, (.slice none 0 0)] (fun t22 =>
  pv (binV .none .eql t22 (.int .u16 0)) fun t23 =>
  gdK t23 true (fun k => k t19) fun t24 =>
  gdK t23 true (fun k => k t21) fun t25 =>
  gdK t23 true (fun k => pv (binV .none .eql t24 t25) k) fun t26 =>
  pv (pickV t23 t26 (.bool false)) fun t27 =>
  gdK t27 true (fun k => k x12) fun t28 =>
  gdK t27 true (fun k => k t3) fun t29 =>
  gdK t27 true (fun k => k t7) fun t30 =>
  gdK t27 true (fun k => callv Tryz.prog (.func (.func 19) #[] #[]) #[t28, t29, t30] k E) fun t31 =>
  gdK t27 true (fun k => callv Tryz.prog (.func (.func 25) #[] #[]) #[t31] k E) fun t32 =>
  gdK t27 true (fun k => pv (binV .none .eql t32 (.int .i64 0)) k) fun t33 =>
  pv (pickV t27 t33 (.bool false)) fun t34 =>
  gdK t34 true (fun k => k x12) fun t35 =>
  gdK t34 true (fun k => callv Tryz.prog (.func (.func 19) #[] #[]) #[t35, (.int .i64 0), (.int .i64 10000)] k E) fun t36 =>
  gdK t34 true (fun k => callv Tryz.prog (.func (.func 25) #[] #[]) #[t36] k E) fun t37 =>
  gdK t34 true (fun k => k t14) fun t38 =>
  gdK t34 true (fun k => k t21) fun t39 =>
  gdK t34 true (fun k => pv (binV .none .sub t38 t39) k) fun t40 =>
  gdK t34 true (fun k => pv (binV .none .eql t37 t40) k) fun t41 =>
  pv (pickV t34 t41 (.bool false)) fun t42 =>
  K t42) E) E) E) E) E) E) E) E) E := by kernel_rfl
theorem l7_1_1_1_1_1_0_1_0_0 {K : Kont} {E : PanK} {σ : Type} {x0 x1 x2 x3 x4 x5 x6 x7 x8 x9 x10 x11 x12 x14 x15 x16 x17 x18 x19 x20 x21 x22 x23 x24 x25 x26 x27 x28 x29 x30 x31 x32 x33 x34 x35 x36 x37 x38 x39 x66 x67 x68 x69 x70 x71 x72 x73 x74 x75 x76 x77 x78 x79 x80 x81 x82 x83 x84 x85 x86 x87 x88 x89 x90 x91 x92 x93 x94 x95 x96 x97 x98 x99 x100 x101 x102 x103 x104 x105 x106 x107 x108 x109 x110 x111 x112 x113 x114 x115 x116 x117 x118 x119 x120 x121 x122 x123 x124 x125 x126 x127 x128 x129 x130 x131 x132 x133 v13 y40 y41 y42 y43 y44 y45 y46 y47 y48 y49 y50 y51 y52 y53 y54 y55 y56 y57 y58 y59 y60 y61 y62 y63 y64 y65 : Value} {h : Hp} (f13 : σ → Value) (I : σ → Hp → Prop) (μ : σ → Nat) (s0 : σ) (e13 : v13 = f13 s0) (h0 : h.wf → ∃ h', h.wk h' ∧ I s0 h')
  (round : ∀ (k1 : Env → Hp → Prop) (s : σ) (j : Nat → Value) (h : Hp), I s h → h.wf → (∀ s' j' h', μ s' < μ s → (h'.wf → ∃ h'', h'.wk h'' ∧ I s' h'') → k1 (m7_1_1_1_1_1_0_1_0_0 x0 x1 x2 x3 x4 x5 x6 x7 x8 x9 x10 x11 x12 x14 x15 x16 x17 x18 x19 x20 x21 x22 x23 x24 x25 x26 x27 x28 x29 x30 x31 x32 x33 x34 x35 x36 x37 x38 x39 x66 x67 x68 x69 x70 x71 x72 x73 x74 x75 x76 x77 x78 x79 x80 x81 x82 x83 x84 x85 x86 x87 x88 x89 x90 x91 x92 x93 x94 x95 x96 x97 x98 x99 x100 x101 x102 x103 x104 x105 x106 x107 x108 x109 x110 x111 x112 x113 x114 x115 x116 x117 x118 x119 x120 x121 x122 x123 x124 x125 x126 x127 x128 x129 x130 x131 x132 x133 (f13 s') j') h') → (
  pv (lenV x1) fun t1 =>
  pv (binV .none .lss (f13 s) t1) fun t2 =>
  cnd t2 (
    pv (iaV none 8 x1 (f13 s)) fun t3 =>
    pv (faV 1 t3) fun t4 =>
    ld false 1 t4 fun t5 =>
    pv (binV .none .rem t5 (.int .u32 40)) fun t6 =>
    pv (iaV none 8 x1 (f13 s)) fun t7 =>
    pv (faV 2 t7) fun t8 =>
    ld false 1 t8 fun t9 =>
    pv (iaV none 8 x1 (f13 s)) fun t10 =>
    pv (faV 3 t10) fun t11 =>
    ld false 1 t11 fun t12 =>
    callv Tryz.prog (.func (.func 16) #[] #[]) #[x11, t9, t12] (fun t13 h14 => (ldV h14 false 1 t4 t5) ∧ (
      callv Tryz.prog (.func (.func 15) #[] #[]) #[x12, t6, t13] (fun t15 =>
      pv (binV .none .add (f13 s) (.int .i64 1)) fun t16 =>
      k1 (m7_1_1_1_1_1_0_1_0_0 x0 x1 x2 x3 x4 x5 x6 x7 x8 x9 x10 x11 x12 x14 x15 x16 x17 x18 x19 x20 x21 x22 x23 x24 x25 x26 x27 x28 x29 x30 x31 x32 x33 x34 x35 x36 x37 x38 x39 x66 x67 x68 x69 x70 x71 x72 x73 x74 x75 x76 x77 x78 x79 x80 x81 x82 x83 x84 x85 x86 x87 x88 x89 x90 x91 x92 x93 x94 x95 x96 x97 x98 x99 x100 x101 x102 x103 x104 x105 x106 x107 x108 x109 x110 x111 x112 x113 x114 x115 x116 x117 x118 x119 x120 x121 x122 x123 x124 x125 x126 x127 x128 x129 x130 x131 x132 x133 t16 (jf #[x0, x1, x2, x3, x4, x5, x6, x7, x8, x9, x10, x11, x12, t16, x14, x15, x16, x17, x18, x19, x20, x21, x22, x23, x24, x25, x26, x27, x28, x29, x30, x31, x32, x33, x34, x35, x36, x37, x38, x39, (f13 s), x1, t1, t2, (f13 s), t16, x12, x1, (f13 s), t3, t4, t5, t6, x11, x1, (f13 s), t7, t8, t9, x1, (f13 s), t10, t11, t12, t13, t15, x66, x67, x68, x69, x70, x71, x72, x73, x74, x75, x76, x77, x78, x79, x80, x81, x82, x83, x84, x85, x86, x87, x88, x89, x90, x91, x92, x93, x94, x95, x96, x97, x98, x99, x100, x101, x102, x103, x104, x105, x106, x107, x108, x109, x110, x111, x112, x113, x114, x115, x116, x117, x118, x119, x120, x121, x122, x123, x124, x125, x126, x127, x128, x129, x130, x131, x132, x133]))) E) h14) E) (
    den Tryz.prog (sel (bodyOf Tryz.f7) [1, 1, 1, 1, 1, 1]) (bodyQ Tryz.prog Tryz.f7.results.toList K E) #[x0, x1, x2, x3, x4, x5, x6, x7, x8, x9, x10, x11, x12, (f13 s), x14, x15, x16, x17, x18, x19, x20, x21, x22, x23, x24, x25, x26, x27, x28, x29, x30, x31, x32, x33, x34, x35, x36, x37, x38, x39, (f13 s), x1, t1, t2, (j 44), (j 45), (j 46), (j 47), (j 48), (j 49), (j 50), (j 51), (j 52), (j 53), (j 54), (j 55), (j 56), (j 57), (j 58), (j 59), (j 60), (j 61), (j 62), (j 63), (j 64), (j 65), x66, x67, x68, x69, x70, x71, x72, x73, x74, x75, x76, x77, x78, x79, x80, x81, x82, x83, x84, x85, x86, x87, x88, x89, x90, x91, x92, x93, x94, x95, x96, x97, x98, x99, x100, x101, x102, x103, x104, x105, x106, x107, x108, x109, x110, x111, x112, x113, x114, x115, x116, x117, x118, x119, x120, x121, x122, x123, x124, x125, x126, x127, x128, x129, x130, x131, x132, x133])) h) :
  lp (fun k1 => den Tryz.prog (sel (bodyOf Tryz.f7) [1, 1, 1, 1, 1, 0, 1, 0, 0]) (thenD k1 (blk 0 (thenD (den Tryz.prog (sel (bodyOf Tryz.f7) [1, 1, 1, 1, 1, 1]) (bodyQ Tryz.prog Tryz.f7.results.toList K E)) (bodyQ Tryz.prog Tryz.f7.results.toList K E))))) #[x0, x1, x2, x3, x4, x5, x6, x7, x8, x9, x10, x11, x12, v13, x14, x15, x16, x17, x18, x19, x20, x21, x22, x23, x24, x25, x26, x27, x28, x29, x30, x31, x32, x33, x34, x35, x36, x37, x38, x39, y40, y41, y42, y43, y44, y45, y46, y47, y48, y49, y50, y51, y52, y53, y54, y55, y56, y57, y58, y59, y60, y61, y62, y63, y64, y65, x66, x67, x68, x69, x70, x71, x72, x73, x74, x75, x76, x77, x78, x79, x80, x81, x82, x83, x84, x85, x86, x87, x88, x89, x90, x91, x92, x93, x94, x95, x96, x97, x98, x99, x100, x101, x102, x103, x104, x105, x106, x107, x108, x109, x110, x111, x112, x113, x114, x115, x116, x117, x118, x119, x120, x121, x122, x123, x124, x125, x126, x127, x128, x129, x130, x131, x132, x133] h := by
  subst e13
  have e : (#[x0, x1, x2, x3, x4, x5, x6, x7, x8, x9, x10, x11, x12, (f13 s0), x14, x15, x16, x17, x18, x19, x20, x21, x22, x23, x24, x25, x26, x27, x28, x29, x30, x31, x32, x33, x34, x35, x36, x37, x38, x39, y40, y41, y42, y43, y44, y45, y46, y47, y48, y49, y50, y51, y52, y53, y54, y55, y56, y57, y58, y59, y60, y61, y62, y63, y64, y65, x66, x67, x68, x69, x70, x71, x72, x73, x74, x75, x76, x77, x78, x79, x80, x81, x82, x83, x84, x85, x86, x87, x88, x89, x90, x91, x92, x93, x94, x95, x96, x97, x98, x99, x100, x101, x102, x103, x104, x105, x106, x107, x108, x109, x110, x111, x112, x113, x114, x115, x116, x117, x118, x119, x120, x121, x122, x123, x124, x125, x126, x127, x128, x129, x130, x131, x132, x133] : Env) = m7_1_1_1_1_1_0_1_0_0 x0 x1 x2 x3 x4 x5 x6 x7 x8 x9 x10 x11 x12 x14 x15 x16 x17 x18 x19 x20 x21 x22 x23 x24 x25 x26 x27 x28 x29 x30 x31 x32 x33 x34 x35 x36 x37 x38 x39 x66 x67 x68 x69 x70 x71 x72 x73 x74 x75 x76 x77 x78 x79 x80 x81 x82 x83 x84 x85 x86 x87 x88 x89 x90 x91 x92 x93 x94 x95 x96 x97 x98 x99 x100 x101 x102 x103 x104 x105 x106 x107 x108 x109 x110 x111 x112 x113 x114 x115 x116 x117 x118 x119 x120 x121 x122 x123 x124 x125 x126 x127 x128 x129 x130 x131 x132 x133 (f13 s0) (jf #[x0, x1, x2, x3, x4, x5, x6, x7, x8, x9, x10, x11, x12, (f13 s0), x14, x15, x16, x17, x18, x19, x20, x21, x22, x23, x24, x25, x26, x27, x28, x29, x30, x31, x32, x33, x34, x35, x36, x37, x38, x39, y40, y41, y42, y43, y44, y45, y46, y47, y48, y49, y50, y51, y52, y53, y54, y55, y56, y57, y58, y59, y60, y61, y62, y63, y64, y65, x66, x67, x68, x69, x70, x71, x72, x73, x74, x75, x76, x77, x78, x79, x80, x81, x82, x83, x84, x85, x86, x87, x88, x89, x90, x91, x92, x93, x94, x95, x96, x97, x98, x99, x100, x101, x102, x103, x104, x105, x106, x107, x108, x109, x110, x111, x112, x113, x114, x115, x116, x117, x118, x119, x120, x121, x122, x123, x124, x125, x126, x127, x128, x129, x130, x131, x132, x133]) := by kernel_rfl
  rw [e]
  exact loop_r (fun s j => m7_1_1_1_1_1_0_1_0_0 x0 x1 x2 x3 x4 x5 x6 x7 x8 x9 x10 x11 x12 x14 x15 x16 x17 x18 x19 x20 x21 x22 x23 x24 x25 x26 x27 x28 x29 x30 x31 x32 x33 x34 x35 x36 x37 x38 x39 x66 x67 x68 x69 x70 x71 x72 x73 x74 x75 x76 x77 x78 x79 x80 x81 x82 x83 x84 x85 x86 x87 x88 x89 x90 x91 x92 x93 x94 x95 x96 x97 x98 x99 x100 x101 x102 x103 x104 x105 x106 x107 x108 x109 x110 x111 x112 x113 x114 x115 x116 x117 x118 x119 x120 x121 x122 x123 x124 x125 x126 x127 x128 x129 x130 x131 x132 x133 (f13 s) j) I μ (fun k s j h hI hw next => by rw [t7_1_1_1_1_1_0_1_0_0]; exact round k s j h hI hw next) s0 (jf #[x0, x1, x2, x3, x4, x5, x6, x7, x8, x9, x10, x11, x12, (f13 s0), x14, x15, x16, x17, x18, x19, x20, x21, x22, x23, x24, x25, x26, x27, x28, x29, x30, x31, x32, x33, x34, x35, x36, x37, x38, x39, y40, y41, y42, y43, y44, y45, y46, y47, y48, y49, y50, y51, y52, y53, y54, y55, y56, y57, y58, y59, y60, y61, y62, y63, y64, y65, x66, x67, x68, x69, x70, x71, x72, x73, x74, x75, x76, x77, x78, x79, x80, x81, x82, x83, x84, x85, x86, x87, x88, x89, x90, x91, x92, x93, x94, x95, x96, x97, x98, x99, x100, x101, x102, x103, x104, x105, x106, x107, x108, x109, x110, x111, x112, x113, x114, x115, x116, x117, x118, x119, x120, x121, x122, x123, x124, x125, x126, x127, x128, x129, x130, x131, x132, x133]) h0

end Go.Proofs.YtgjdjdjhoipfmaaGreatDoor.T
