import Derived.Test.YtgjdjdjhoipfmaaGreatDoorZ5
import Derived.Test.YtgjdjdjhoipfmaaGreatDoorProg
import Derived.Test.YtgjdjdjhoipfmaaGreatDoorZ1
import Derived.Test.YtgjdjdjhoipfmaaGreatDoorZ4
set_option maxHeartbeats 4000000
open Go Go.RowKit Go.Proofs.YtgjdjdjhoipfmaaGreatDoor.K Go.Proofs.YtgjdjdjhoipfmaaGreatDoor.T
set_option linter.unusedVariables false
set_option linter.unusedSimpArgs false
namespace Go.Proofs.YtgjdjdjhoipfmaaGreatDoor.A
variable {F F' : Nat → Option (List Value)} {M M' : Nat → Option Chunk} {N N' : Nat} {K : Kont} {E : PanK}
theorem keyOf_pos {l : List Dm} (h0 : 0 < l.length) (c : List Int) : 0 < (keyOf l c).length := by rw [keyOf_len]; exact h0
theorem facts_key0 {l : List Dm} (hl : goodDims l) {ks : List (List Int)} {v : List Int} {f : Fc} (hf : f ∈ factsOf l ks v) : 0 < f.1.length := by
  obtain ⟨c, hc⟩ := (factsOf_mem hf).1
  rw [hc]; exact keyOf_pos hl.1 c
theorem entOf_at {l : List Dm} {o : OpC} {i : Nat} (h1 : i < o.L.length) (h2 : i < 20) (h3 : i < (entOf l o).length) : (entOf l o)[i] = ((i : Int) * 3 + 1 + o.L[i].1 % 3, pick (factsOf l o.keys o.v) o.fr o.to i (factsOf l o.keys o.v).length) := by
  have h : (entOf l o)[i]? = some ((i : Int) * 3 + 1 + o.L[i].1 % 3, pick (factsOf l o.keys o.v) o.fr o.to i (factsOf l o.keys o.v).length) := by
    unfold entOf
    rw [List.getElem?_mapIdx, List.getElem?_take, if_pos h2, List.getElem?_eq_getElem h1]; rfl
  rw [List.getElem?_eq_getElem h3] at h
  exact Option.some.inj h
theorem u32_mul {e : EqK} {a b : Int} {h : Hp} (h0 : 0 ≤ a * b) (h1 : a * b < 4294967296) (kk : K (.int .u32 (a * b)) h) : pv (binV e .mul (.int .u32 a) (.int .u32 b)) K h := ⟨_, by rw [inV]; rfl, by rw [u32w h0 h1]; exact kk⟩
set_option maxRecDepth 10000 in
set_option maxHeartbeats 4000000 in
theorem entries13_c {dv : Value} {cs : List Value} {l : List Dm} {o : OpC} (hd : dimsD F dv l) (hgd : goodDims l) (ho : opcD F cs o)
    (k : ∀ v' F' N', (Hp.mk F' M N').wf → subF F F' → N ≤ N' → entsD F' v' (entOf l o) → K v' ⟨F', M, N'⟩) :
    callv Tryz.prog (.func (.func 47) #[] #[]) #[dv, .agg cs.toArray] K E ⟨F, M, N⟩ := by
  refine callv_of_text mixed Tryz.func47 (by kernel_rfl) (t47 _ E _ _) (fun hw => ?_)
  have hm : clean M N := hw.m
  obtain ⟨ck, cv, cf, cL, rfl, hk, hv, hf, hL, ok⟩ := ho
  have hl4 := hgd.2.1
  have hds := goodDims_sz hgd
  obtain ⟨lrows, hL1, hL2⟩ := hL
  have hll := ok.ll
  refine nw_r (cs := [.int .u8 o.kind, .int .u32 o.at', ck, cv, cf, .int .u16 o.fr, .int .u16 o.to, cL]) (fun b3 hb3 => ?_)
  obtain ⟨M1, hM1e⟩ : ∃ M1, M1 = upd M b3 (some (.cells 62 [.int .u8 o.kind, .int .u32 o.at', ck, cv, cf, .int .u16 o.fr, .int .u16 o.to, cL] [Value.int .u8 o.kind, .int .u32 o.at', ck, cv, cf, .int .u16 o.fr, .int .u16 o.to, cL].length)) := ⟨_, rfl⟩
  rw [← hM1e]
  have hbox : M1 b3 = some (.cells 62 [.int .u8 o.kind, .int .u32 o.at', ck, cv, cf, .int .u16 o.fr, .int .u16 o.to, cL] 8) := by rw [hM1e]; exact upd_same _ _ _
  have hM1 : ∀ q, q < N → M1 q = M q := fun q hq => by rw [hM1e]; exact upd_ne _ _ (by omega)
  have hm1 : clean M1 (b3 + 1) := by rw [hM1e]; exact hm.new hb3 _
  clear hM1e
  obtain ⟨N1, hN1⟩ : ∃ n, n = b3 + 1 := ⟨_, rfl⟩
  rw [← hN1] at hm1 ⊢
  obtain ⟨fs, hfs⟩ : ∃ fs, fs = factsOf l o.keys o.v := ⟨_, rfl⟩
  have hfl : fs.length ≤ 200 := by rw [hfs, factsOf_len]; omega
  refine l47_1_1_0_1_0_0 (σ := Nat × Value) (fun s => s.2) (fun s => .int .i64 (s.1 : Nat))
    (fun s h' => ∃ F' M' N' rows', h' = ⟨F', M', N'⟩ ∧ subF F F' ∧ N1 ≤ N' ∧ (∀ q, q < N1 → M' q = M1 q) ∧ clean M' N' ∧ s.1 ≤ (entOf l o).length ∧ own M' N1 52 2 s.2 s.1 rows'.flatten ∧ rowsF (entD F') 2 rows' ((entOf l o).take s.1)) (fun s => o.L.length - s.1) (0, .slice none 0 0) rfl rfl
    (fun hw2 => ⟨_, wk_refl hw2, F, M1, N1, [], rfl, subF.refl _, Nat.le_refl _, fun _ _ => rfl, hm1, Nat.zero_le _, own.nil, rowsF.nil _ _⟩) (fun kk s j h1 hI hw2 next => ?_)
  rw [t47_1_1_0_1_0_0]
  obtain ⟨F2, M2, N2, rows2, rfl, hF2, hN2, hM2, hm2, hi, hoo, hrr⟩ := hI
  have hel := entOf_len l o
  have hb2 := (hM2 b3 (by omega)).trans hbox
  try simp only [sS]
  refine ldM (v := cL) ?_ hb2
  refine lenF_r hL1 ?_
  have done : s.1 = (entOf l o).length → ∀ h', h' = (⟨F2, M2, N2⟩ : Hp) → h'.wf → ∃ h'', h'.wk h'' ∧ (h''.wf → K s.2 h'') := fun he h' e' hc => by
    subst e'
    rw [he] at hoo
    rw [List.take_of_length_le (by omega)] at hrr
    have hMM : ∀ q, q < N → M2 q = M q := fun q hq => (hM2 q (by omega)).trans (hM1 q hq)
    exact ⟨_, frz_wf hm hMM hc, fun hw' => k _ _ _ hw' (hF2.trans (subF_frzAll hc)) (by omega) (ents_frzA hc (hoo.keep (fun _ _ => rfl) (by omega)) hrr)⟩
  refine lss_r (fun hlt => ?_) (fun hge => ?_)
  · have i1 : s.1 < o.L.length := by omega
    try simp only [sS]
    refine lss_r (fun hlt2 => ?_) (fun hge2 => ?_)
    · have i2 : s.1 < (entOf l o).length := by omega
      have he : (entOf l o)[s.1] = ((s.1 : Int) * 3 + 1 + o.L[s.1].1 % 3, pick fs o.fr o.to s.1 fs.length) := by
        rw [hfs]; exact entOf_at i1 (by omega) i2
      try simp only [sS]
      refine ldM (v := ck) ?_ hb2
      refine ldM (v := cv) ?_ hb2
      refine facts_c (hd.mono hF2) (hk.mono hF2) (hv.mono hF2) (by omega) hds ok.kc ok.kl ok.vl (fun vf F3 N3 hw3 hF3 hN3 hvf => ?_)
      rw [← hfs] at hvf
      have hm3 : clean M2 N3 := hw3.m
      have hvf0 := hvf
      obtain ⟨frows, hvf1, hvf2⟩ := hvf0
      refine l47_1_1_0_1_0_0_1_0_0_1_1_0_1_0_0 (σ := Nat × Value) (fun q => q.2) (fun q => .int .i64 (q.1 : Nat))
        (fun q h' => ∃ M' N' prows, h' = ⟨F3, M', N'⟩ ∧ N3 ≤ N' ∧ (∀ x, x < N3 → M' x = M2 x) ∧ clean M' N' ∧ q.1 ≤ fs.length ∧ own M' N3 48 2 q.2 (pick fs o.fr o.to s.1 q.1).length prows.flatten ∧ rowsF (fctD F3) 2 prows (pick fs o.fr o.to s.1 q.1)) (fun q => fs.length - q.1) (0, .slice none 0 0) rfl rfl
        (fun hw4 => ⟨_, wk_refl hw4, M2, N3, [], rfl, Nat.le_refl _, fun _ _ => rfl, hm3, Nat.zero_le _, own.nil, rowsF.nil _ _⟩) (fun kk2 q j2 h2 hI2 hw4 next2 => ?_)
      rw [t47_1_1_0_1_0_0_1_0_0_1_1_0_1_0_0]
      obtain ⟨M4, N4, prows, rfl, hN4, hM4, hm4, hq, hop, hpr⟩ := hI2
      have hb4 := (hM4 b3 (by omega)).trans hb2
      have hpl := pick_len fs o.fr o.to s.1 q.1
      refine lenF_r hvf1 ?_
      refine lss_r (fun hlt4 => ?_) (fun hge4 => ?_)
      · have q1 : q.1 < fs.length := by omega
        have hk0 : 0 < fs[q.1].1.length := facts_key0 hgd (by rw [← hfs]; exact List.getElem_mem q1)
        have e0 : fs[q.1].1.getD 0 0 = fs[q.1].1[0] := getD_at hk0 0
        have ep := pick_succ (fr := o.fr) (to := o.to) (i := s.1) q1
        have no : ¬ (o.fr ≤ fs[q.1].1.getD 0 0 ∧ fs[q.1].1.getD 0 0 < o.to ∧ q.1 % (s.1 + 1) = 0) → ∀ h', h' = (⟨F3, M4, N4⟩ : Hp) → h'.wf → ∃ h'', h'.wk h'' ∧ ∃ M' N' prows, h'' = ⟨F3, M', N'⟩ ∧ N3 ≤ N' ∧ (∀ x, x < N3 → M' x = M2 x) ∧ clean M' N' ∧ q.1 + 1 ≤ fs.length ∧ own M' N3 48 2 q.2 (pick fs o.fr o.to s.1 (q.1 + 1)).length prows.flatten ∧ rowsF (fctD F3) 2 prows (pick fs o.fr o.to s.1 (q.1 + 1)) := fun hn h' e' hc => by
          subst e'
          rw [if_neg hn, List.append_nil] at ep
          rw [ep]
          exact ⟨_, wk_refl hc, M4, N4, prows, rfl, hN4, hM4, hm4, q1, hop, hpr⟩
        have hfo := ok.fo
        have hto := ok.tt
        try simp only [sS]
        refine fld_r hvf1 hvf2 (by decide) q1 (off := 0) (by decide) fun p z r y hR _ hy => ?_
        obtain ⟨kv, rfl, hkv, hkl⟩ := hR
        have hy' : y = kv := by simpa using hy.symm
        subst hy'
        refine ixn_r (i := 0) hkv hk0 fun p => ?_
        refine ldM (v := .int .u16 o.fr) ?_ hb4
        refine pv_r (v := .int .i64 o.fr) (by show some (Value.int .i64 (IntKind.i64.wrap o.fr)) = _; rw [wrap_in (by omega) (by omega)]) ?_
        refine geq_r (fun c1 => ?_) (fun c1 => ?_)
        rotate_left
        · try simp only [sS]
          rw [t47_1_1_0_1_0_0_1_0_0_1_1_0_1_0_0_1_1]
          refine inc_r (by omega) ?_
          exact next2 (q.1 + 1, q.2) _ _ (by simp only; omega) (fun hw5 => no (by omega) _ rfl hw5)
        try simp only [sS]
        refine fld_r hvf1 hvf2 (by decide) q1 (off := 0) (by decide) fun p z r y hR _ hy => ?_
        obtain ⟨kv, rfl, hkv, hkl⟩ := hR
        have hy' : y = kv := by simpa using hy.symm
        subst hy'
        refine ixn_r (i := 0) hkv hk0 fun p => ?_
        refine ldM (v := .int .u16 o.to) ?_ hb4
        refine pv_r (v := .int .i64 o.to) (by show some (Value.int .i64 (IntKind.i64.wrap o.to)) = _; rw [wrap_in (by omega) (by omega)]) ?_
        refine lss_r (fun c2 => ?_) (fun c2 => ?_)
        rotate_left
        · try simp only [sS]
          rw [t47_1_1_0_1_0_0_1_0_0_1_1_0_1_0_0_1_1]
          refine inc_r (by omega) ?_
          exact next2 (q.1 + 1, q.2) _ _ (by simp only; omega) (fun hw5 => no (by omega) _ rfl hw5)
        try simp only [sS]
        refine inc_r (by omega) (rem_n (a := q.1) (b := s.1 + 1) (by omega) ?_)
        refine eql_r (fun c3 => ?_) (fun c3 => ?_)
        rotate_left
        · try simp only [sS]
          rw [t47_1_1_0_1_0_0_1_0_0_1_1_0_1_0_0_1_1]
          refine inc_r (by omega) ?_
          exact next2 (q.1 + 1, q.2) _ _ (by simp only; omega) (fun hw5 => no (by omega) _ rfl hw5)
        try simp only [sS]
        refine row_r hvf1 hvf2 (by decide) q1 (fun p r _ hR hrl hr1 => ?_)
        have hR' := hR
        obtain ⟨kv, hre, hkv, hkl⟩ := hR
        subst hre
        obtain ⟨ka, kc, kf, _⟩ := hkv.form
        refine push_r (new := [kv, .int .i64 fs[q.1].2]) hop hm4 (by omega) (by rw [kf]; kernel_rfl) rfl hr1 (by omega) (by unfold maxLen; omega) (fun p v' M5 N5 g1 g2 g3 g4 => ?_)
        rw [t47_1_1_0_1_0_0_1_0_0_1_1_0_1_0_0_1_1]
        refine inc_r (by omega) ?_
        rw [if_pos ⟨by omega, by omega, by omega⟩] at ep
        refine next2 (q.1 + 1, v') _ _ (by simp only; omega) (fun hw5 => ⟨_, wk_refl hw5, M5, N5, prows ++ [[kv, .int .i64 fs[q.1].2]], rfl, by omega, fun x hx => ?_, g4, q1, ?_, ?_⟩)
        · exact ((g2 x (fun e => by have := (hop.ge x e).1; omega) (by omega)).1).trans (hM4 x hx)
        · simp only
          rw [ep, List.length_append, List.length_singleton]
          exact (by simpa using g1 : own M5 N3 48 2 v' _ (prows ++ [[kv, .int .i64 fs[q.1].2]]).flatten)
        · simp only
          rw [ep]; exact rowsF_snoc1 hpr hR'.one hR'
      · try simp only [sS]
        rw [show q.1 = fs.length by omega] at hop hpr hpl
        obtain ⟨t0, t1⟩ := ok.lt _ (List.getElem_mem i1)
        refine u32_cv (by omega) (by omega) (u32_mul (by omega) (by omega) (u32_add (by omega) (by omega) ?_))
        try simp only [sS]
        refine ldM (v := cL) ?_ hb4
        refine fld_r (hL1.mono (hF2.trans hF3)) (hL2.mono fun _ _ h => h.mono (hF2.trans hF3)) (by decide) i1 (off := 0) (by decide) fun p z r y hR _ hy => ?_
        obtain ⟨fv, rfl, hfv⟩ := hR.at
        have hy' : y = .int .u32 o.L[s.1].1 := by simpa using hy.symm
        subst hy'
        refine rem_i t0 (by decide) (u32_add (by omega) (by omega) ?_)
        obtain ⟨a5, c5, e5, _⟩ := hop.form
        refine pv_r (v := .agg #[.int .u32 ((s.1 : Int) * 3 + 1 + o.L[s.1].1 % 3), q.2]) (by rw [e5]; kernel_rfl) ?_
        have ho5 : own M4 N1 52 2 s.2 s.1 rows2.flatten := hoo.keep (fun x hx => hM4 x (by have := hoo.lt hm2 x hx; omega)) (Nat.le_refl _)
        refine push_r (new := [.int .u32 ((s.1 : Int) * 3 + 1 + o.L[s.1].1 % 3), q.2]) ho5 hm4 (by omega) (by rw [e5]; kernel_rfl) rfl (by rw [e5]; exact List.all_eq_true.1 rfl) (by omega) (by unfold maxLen; omega) (fun p v' M5 N5 g1 g2 g3 g4 => ?_)
        refine inc_r (by omega) ?_
        have hne : ∀ x, q.2.ownBlock = some x → s.2.ownBlock ≠ some x := fun x hx e => by have := (hop.ge x hx).1; have := hoo.lt hm2 x e; omega
        obtain ⟨hop5, hne5⟩ := hop.far g2 hm4 hne
        refine next (s.1 + 1, v') _ _ (by simp only; omega) (fun hw5 => ⟨_, wk_P (p := fun x => q.2.ownBlock = some x) hw5, _, _, N5, rows2 ++ [[.int .u32 ((s.1 : Int) * 3 + 1 + o.L[s.1].1 % 3), q.2]], rfl, (hF2.trans hF3).trans (subF_frzP hw5), by omega, fun x hx => ?_, keepM_clean g4, i2, ?_, ?_⟩)
        · have x1 : ¬ q.2.ownBlock = some x := fun e => by have := (hop.ge x e).1; omega
          rw [keepM_in x1, (g2 x (fun e => by have := (ho5.ge x e).1; omega) (by omega)).1, hM4 x (by omega), hM2 x hx]
        · have : own M5 N1 52 2 v' (s.1 + 1) (rows2 ++ [[.int .u32 ((s.1 : Int) * 3 + 1 + o.L[s.1].1 % 3), q.2]]).flatten := by simpa using g1
          exact this.keep (fun x hx => keepM_in (fun e => hne5 x e hx)) (Nat.le_refl _)
        · simp only
          rw [List.take_add_one, List.getElem?_eq_getElem i2, Option.toList_some, he]
          have he5 : entD (frzP F3 M5 (fun x => q.2.ownBlock = some x)) [.int .u32 ((s.1 : Int) * 3 + 1 + o.L[s.1].1 % 3), q.2] ((s.1 : Int) * 3 + 1 + o.L[s.1].1 % 3, pick fs o.fr o.to s.1 fs.length) := ⟨q.2, rfl, ⟨prows, hop5.frzP (fun x h => h), hpr.mono fun _ _ h => h.mono (subF_frzP hw5)⟩, by simp only; omega⟩
          exact rowsF_snoc1 (hrr.mono fun _ _ h => h.mono (hF3.trans (subF_frzP hw5))) he5.one he5
    · try simp only [sS]
      exact done (by omega) _ rfl
  · try simp only [sS]
    exact done (by omega) _ rfl
end Go.Proofs.YtgjdjdjhoipfmaaGreatDoor.A
open Go Go.RowKit Go.Proofs.YtgjdjdjhoipfmaaGreatDoor.K Go.Proofs.YtgjdjdjhoipfmaaGreatDoor.T
set_option linter.unusedVariables false
set_option linter.unusedSimpArgs false
namespace Go.Proofs.YtgjdjdjhoipfmaaGreatDoor.A
variable {F F' : Nat → Option (List Value)} {M M' : Nat → Option Chunk} {N N' : Nat} {K : Kont} {E : PanK}
structure both (F : Nat → Option (List Value)) (M : Nat → Option Chunk) (B g g2 : Nat) (hv dv : Value) (rows : List (List Value)) (dv2 lv2 : Value) (l : List Dm) (h : List En) : Prop where
  c : isCube F M B g hv dv rows l h
  r : isRef F M g2 dv2 lv2 l h
  o : okH l 5000 200 h
  n1 : g2 ≠ g
  n2 : hv.ownBlock ≠ some g2
def doesH (l : List Dm) (h : List En) (o : OpC) : List En :=
  if o.kind % 6 = 4 then addH l h o.at' o.facts else if o.kind % 6 = 5 then replF l o.fr o.to (replF l o.fr o.to h o.L) (entOf l o) else addH l h (o.at' % 40) (factsOf l o.keys o.v)
theorem okH.does {l : List Dm} {h : List En} (k : okH l 5000 200 h) {o : OpC} (ok : o.ok) : okH l 5000 200 (doesH l h o) := by
  unfold doesH
  split
  · exact k.add ok.ta.1 _
  · split
    · exact (k.repl _ _ _).repl _ _ _
    · have := ok.ta; exact k.add (by omega) _
theorem entOf_time {l : List Dm} {o : OpC} (ok : o.ok) : ∀ e ∈ entOf l o, 0 ≤ e.1 ∧ e.1 < 4294967296 := fun e he => by
  obtain ⟨i, hi, rfl⟩ := List.mem_iff_getElem.1 he
  have hl := entOf_len l o
  rw [entOf_at (by omega) (by omega) hi]
  simp only; omega
theorem beV {x y : Bool} : binV .bool .eql (.bool x) (.bool y) = some (.bool (x == y)) := rfl
theorem addE_le (l : List Dm) (h : List En) (t : Int) (fs : List Fc) : addE l h t fs ≤ 130 := by
  unfold addE; split; omega; split; omega; split <;> omega
theorem replE_le (l : List Dm) (a b : Int) (h es : List En) : replE l a b h es ≤ 3 := by
  unfold replE; split; omega; split <;> omega
theorem w64 {x : Int} (h0 : 0 ≤ x) (h1 : x < 65536) {k : IntKind} {h : Hp} (kk : K (.int .i64 x) h) : pv (cvV .i64 (.int k x)) K h := ⟨.int .i64 x, by show some (Value.int .i64 (IntKind.i64.wrap x)) = _; rw [wrap_in (by omega) (by omega)], kk⟩
set_option maxRecDepth 10000 in
set_option maxHeartbeats 8000000 in
theorem does13_c {B g g2 : Nat} {hv dv udv dv2 lv2 : Value} {cs : List Value} {rows : List (List Value)} {l : List Dm} {h : List En} {o : OpC} (hb : both F M B g g2 hv dv rows dv2 lv2 l h) (hB : B ≤ N) (hgd : goodDims l) (hd : dimsD F udv l) (ho : opcD F cs o)
    (k : ∀ hv' F' M' N' rows' lv2', subF F F' → both F' M' B g g2 hv' dv rows' dv2 lv2' l (doesH l h o) → (∀ q, q ≠ g → q ≠ g2 → hv.ownBlock ≠ some q → q < N → M' q = M q ∧ hv'.ownBlock ≠ some q) → N ≤ N' → clean M' N' → (Hp.mk F' M' N').wf → K (.int .i64 1) ⟨F', M', N'⟩) :
    callv Tryz.prog (.func (.func 23) #[] #[]) #[.pointer (some ⟨g, 0, none⟩), .pointer (some ⟨g2, 0, none⟩), udv, .agg cs.toArray] K E ⟨F, M, N⟩ := by
  refine callv_of_text mixed Tryz.func23 (by kernel_rfl) (t23 _ E _ _ _ _) (fun hw => ?_)
  have hm : clean M N := hw.m
  have ho' := ho
  obtain ⟨ck, cv, cf, cL, rfl, hk, hvv, hf, hL, ok⟩ := ho'
  have hl4 := hgd.2.1
  have hds := goodDims_sz hgd
  have hlt := hb.c.lt hm
  have hgN := (hlt g (.inl rfl)).2
  have hg2N := hm.lt hb.r.gg
  have hvN : ∀ q, hv.ownBlock = some q → q < N := fun q hq => (hlt q (.inr hq)).2
  refine nw_r (cs := [.int .u8 o.kind, .int .u32 o.at', ck, cv, cf, .int .u16 o.fr, .int .u16 o.to, cL]) (fun b1 hb1 => ?_)
  obtain ⟨M1, hM1e⟩ : ∃ M1, M1 = upd M b1 (some (.cells 62 [.int .u8 o.kind, .int .u32 o.at', ck, cv, cf, .int .u16 o.fr, .int .u16 o.to, cL] [Value.int .u8 o.kind, .int .u32 o.at', ck, cv, cf, .int .u16 o.fr, .int .u16 o.to, cL].length)) := ⟨_, rfl⟩
  rw [← hM1e]
  have hbox : M1 b1 = some (.cells 62 [.int .u8 o.kind, .int .u32 o.at', ck, cv, cf, .int .u16 o.fr, .int .u16 o.to, cL] 8) := by rw [hM1e]; exact upd_same _ _ _
  have hM1 : ∀ q, q < N → M1 q = M q := fun q hq => by rw [hM1e]; exact upd_ne _ _ (by omega)
  have hm1 : clean M1 (b1 + 1) := by rw [hM1e]; exact hm.new hb1 _
  clear hM1e
  obtain ⟨N1, hN1⟩ : ∃ n, n = b1 + 1 := ⟨_, rfl⟩
  rw [← hN1] at hm1 ⊢
  have hC1 := hb.c.keep (M' := M1) (subF.refl F) (fun q hq => hM1 q (hlt q hq).2)
  have hR1 := hb.r.keep (M' := M1) (subF.refl F) (hM1 g2 hg2N)
  have hvb1 : hv.ownBlock ≠ some b1 := fun e => by have := hvN b1 e; omega
  try simp only [sS]
  refine ldM (v := ck) ?_ hbox
  refine ldM (v := cv) ?_ hbox
  refine facts_c hd hk hvv (by omega) hds ok.kc ok.kl ok.vl (fun uf F2 N2 hw2 hF2 hN2 huf => ?_)
  have hta := ok.ta
  have hkd := ok.kd
  have hfit := facts_fit hgd o.keys o.v
  obtain ⟨hf1, hf2⟩ := fitsF_of hfit
  refine ldM (v := .int .u8 o.kind) ?_ hbox
  refine rem_i hkd.1 (by decide) ?_
  have fin : ∀ hv' F' M' N' rows' lv2' h', subF F F' → h' = doesH l h o → isCube F' M' B g hv' dv rows' l h' → isRef F' M' g2 dv2 lv2' l h' → hv'.ownBlock ≠ some g2 → (∀ q, q ≠ g → q ≠ g2 → hv.ownBlock ≠ some q → q < N → M' q = M q ∧ hv'.ownBlock ≠ some q) → N ≤ N' → ∀ hp, hp = (⟨F', M', N'⟩ : Hp) → hp.wf → ∃ hp', hp.wk hp' ∧ (hp'.wf → K (.int .i64 1) hp') := fun hv' F' M' N' rows' lv2' h' hF he hC hR hn hM hN hp e' hc => by
    subst e'; subst he
    exact ⟨_, wk_refl hc, fun hw' => k hv' F' M' N' rows' lv2' hF ⟨hC, hR, hb.o.does ok, hb.n1, hn⟩ hM hN hw'.m hw'⟩
  refine eql_r (fun k4 => ?_) (fun k4 => ?_)
  · have hdo : doesH l h o = addH l h o.at' o.facts := by unfold doesH; rw [if_pos k4]
    try simp only [sS]
    refine ldM (v := .int .u32 o.at') ?_ hbox
    refine ldM (v := cf) ?_ hbox
    refine ldM (v := .int .u32 o.at') ?_ hbox
    refine ldM (v := cf) ?_ hbox
    refine add_to_c (hC1.keep (M' := M1) hF2 (fun _ _ => rfl)) (by omega) (by omega) hb.o.le hta.1 (hf.mono hF2) ok.fl (fun hv3 F3 M3 N3 rows3 hF3 hC3 hM3 hN3 hm3 hw3 => ?_)
    have hb3 := (hM3 b1 hvb1 (by omega) (by omega)).1.trans hbox
    refine ⟨ldV_c (row_M hb3) rfl, ldV_c (row_M hb3) rfl, ?_⟩
    have hle := addE_le l h o.at' o.facts
    refine cv_i64 (by omega) ?_
    have hg23 := hM3 g2 hb.n2 hb.n1 (by omega)
    have hf3 := (hf.mono hF2).mono hF3
    refine radd_c (hR1.keep (hF2.trans hF3) hg23.1) hb.o (by omega) hf3 ok.fl (fun lv4 F4 M4 N4 hF4 hR4 hM4 hN4 hw4 => ?_)
    refine eql_t rfl ?_
    try simp only [sS]
    have hb4 := (hM4 b1 (by omega)).trans hb3
    have hC4 := hC3.keep hF4 (fun q hq => hM4 q (fun e => by subst e; rcases hq with hq | hq; exact hb.n1 hq; exact hg23.2 hq))
    refine ldM (v := cf) ?_ hb4
    refine ldM (v := cf) ?_ hb4
    have hf4 := hf3.mono hF4
    refine fits_c hC4.gg hC4.dd (by omega) hf4 ok.fl (fun N5 hN5 hw5 => ?_)
    refine ⟨fun _ => ldV_c (row_M hb4) rfl, ?_⟩
    refine rfits_c hR4.gg hR4.dd (by omega) hf4 ok.fl (fun N6 hN6 hw6 => ?_)
    refine pv_r beV ?_
    rw [show (fitsF l o.facts == fitsF l o.facts) = true from beq_self_eq_true _]
    try simp only [sS]
    rw [t23_1_1_1_1]
    try simp only [sS]
    exact fin hv3 F4 M4 N6 rows3 lv4 _ ((hF2.trans hF3).trans hF4) hdo.symm hC4 hR4 hg23.2 (fun q q1 q2 q3 q4 => by
      obtain ⟨z1, z2⟩ := hM3 q q3 q1 (by omega)
      exact ⟨(hM4 q q2).trans (z1.trans (hM1 q q4)), z2⟩) (by omega) _ rfl
  try simp only [sS]
  refine eql_r (fun k5 => ?_) (fun k5 => ?_)
  · have hdo : doesH l h o = replF l o.fr o.to (replF l o.fr o.to h o.L) (entOf l o) := by unfold doesH; rw [if_neg k4, if_pos k5]
    have hfo := ok.fo
    have hto := ok.tt
    have hLt := ok.lt
    try simp only [sS]
    refine ldM (v := .int .u16 o.fr) ?_ hbox
    refine w64 (by omega) (by omega) ?_
    refine ldM (v := .int .u16 o.to) ?_ hbox
    refine w64 (by omega) (by omega) ?_
    refine ldM (v := cL) ?_ hbox
    refine ldM (v := .int .u16 o.fr) ?_ hbox
    refine w64 (by omega) (by omega) ?_
    refine ldM (v := .int .u16 o.to) ?_ hbox
    refine w64 (by omega) (by omega) ?_
    refine ldM (v := cL) ?_ hbox
    refine creplace_c (hC1.keep (M' := M1) hF2 (fun _ _ => rfl)) (by omega) hb.o (by omega) (hL.mono hF2) ok.ll (fun e he => (hLt e he).2) (fun hv3 F3 M3 N3 rows3 hF3 hC3 hM3 hN3 hm3 hw3 => ?_)
    have hb3 := (hM3 b1 hvb1 (by omega) (by omega)).1.trans hbox
    refine ⟨ldV_c (row_M hb3) rfl, ldV_c (row_M hb3) rfl, ldV_c (row_M hb3) rfl, ?_⟩
    have hle := replE_le l o.fr o.to h o.L
    refine cv_i64 (by omega) ?_
    have hg23 := hM3 g2 hb.n2 hb.n1 (by omega)
    refine rrepl_c (hR1.keep (hF2.trans hF3) hg23.1) hb.o (by omega) ((hL.mono hF2).mono hF3) ok.ll (fun e he => (hLt e he).2) (fun e he => (hLt e he).1) (fun lv4 F4 M4 N4 hF4 hR4 hM4 hN4 hw4 => ?_)
    refine eql_t rfl ?_
    have hb4 := (hM4 b1 (by omega) (by omega)).trans hb3
    have hv3N : ∀ q, q = g ∨ hv3.ownBlock = some q → q < N3 := fun q hq => (hC3.lt hm3 q hq).2
    have hC4 := hC3.keep hF4 (fun q hq => hM4 q (fun e => by subst e; rcases hq with hq | hq; exact hb.n1 hq; exact hg23.2 hq) (hv3N q hq))
    have F24 := (hF2.trans hF3).trans hF4
    refine ldMa (vs := [.int .u8 o.kind, .int .u32 o.at', ck, cv, cf, .int .u16 o.fr, .int .u16 o.to, cL]) ?_ hb4
    refine entries13_c (hd.mono F24) hgd (ho.mono F24) (fun ve F5 N5 hw5 hF5 hN5 he5 => ?_)
    have hm5 : clean M4 N5 := hw5.m
    have o4 := hb.o.repl o.fr o.to o.L
    have het := entOf_time (l := l) ok
    have hel := entOf_len l o
    try simp only [sS]
    refine ldM (v := .int .u16 o.fr) ?_ hb4
    refine w64 (by omega) (by omega) ?_
    refine ldM (v := .int .u16 o.to) ?_ hb4
    refine w64 (by omega) (by omega) ?_
    refine ldM (v := .int .u16 o.fr) ?_ hb4
    refine w64 (by omega) (by omega) ?_
    refine ldM (v := .int .u16 o.to) ?_ hb4
    refine w64 (by omega) (by omega) ?_
    have hv3b1 : hv3.ownBlock ≠ some b1 := (hM3 b1 hvb1 (by omega) (by omega)).2
    refine creplace_c (hC4.keep (M' := M4) hF5 (fun _ _ => rfl)) (by omega) o4 (by omega) he5 (by omega) (fun e he => (het e he).2) (fun hv6 F6 M6 N6 rows6 hF6 hC6 hM6 hN6 hm6 hw6 => ?_)
    have hb6 := (hM6 b1 hv3b1 (by omega) (by omega)).1.trans hb4
    refine ⟨fun _ => ldV_c (row_M hb6) rfl, fun _ => ldV_c (row_M hb6) rfl, ?_⟩
    have hle2 := replE_le l o.fr o.to (replF l o.fr o.to h o.L) (entOf l o)
    refine cv_i64 (by omega) ?_
    have hg26 := hM6 g2 hg23.2 hb.n1 (by omega)
    refine rrepl_c (hR4.keep (hF5.trans hF6) hg26.1) o4 (by omega) (he5.mono hF6) (by omega) (fun e he => (het e he).2) (fun e he => (het e he).1) (fun lv7 F7 M7 N7 hF7 hR7 hM7 hN7 hw7 => ?_)
    refine eql_t rfl ?_
    try simp only [sS]
    rw [t23_1_1_1_1]
    try simp only [sS]
    have hv6N : ∀ q, q = g ∨ hv6.ownBlock = some q → q < N6 := fun q hq => (hC6.lt hm6 q hq).2
    have hC7 := hC6.keep hF7 (fun q hq => hM7 q (fun e => by subst e; rcases hq with hq | hq; exact hb.n1 hq; exact hg26.2 hq) (hv6N q hq))
    exact fin hv6 F7 M7 N7 rows6 lv7 _ ((F24.trans hF5).trans (hF6.trans hF7)) hdo.symm hC7 hR7 hg26.2 (fun q q1 q2 q3 q4 => by
      obtain ⟨z1, z2⟩ := hM3 q q3 q1 (by omega)
      obtain ⟨z3, z4⟩ := hM6 q z2 q1 (by omega)
      exact ⟨by rw [hM7 q q2 (by omega), z3, hM4 q q2 (by omega), z1, hM1 q q4], z4⟩) (by omega) _ rfl
  · have hdo : doesH l h o = addH l h (o.at' % 40) (factsOf l o.keys o.v) := by unfold doesH; rw [if_neg k4, if_neg k5]
    try simp only [sS]
    refine ldM (v := .int .u32 o.at') ?_ hbox
    refine rem_i hta.1 (by decide) ?_
    refine ldM (v := .int .u32 o.at') ?_ hbox
    refine rem_i hta.1 (by decide) ?_
    refine add_to_c (hC1.keep (M' := M1) hF2 (fun _ _ => rfl)) (by omega) (by omega) hb.o.le (by omega) huf (by omega) (fun hv3 F3 M3 N3 rows3 hF3 hC3 hM3 hN3 hm3 hw3 => ?_)
    have hb3 := (hM3 b1 hvb1 (by omega) (by omega)).1.trans hbox
    refine ⟨ldV_c (row_M hb3) rfl, ?_⟩
    have hle := addE_le l h (o.at' % 40) (factsOf l o.keys o.v)
    refine cv_i64 (by omega) ?_
    have hg23 := hM3 g2 hb.n2 hb.n1 (by omega)
    refine radd_c (hR1.keep (hF2.trans hF3) hg23.1) hb.o (by omega) (huf.mono hF3) (by omega) (fun lv4 F4 M4 N4 hF4 hR4 hM4 hN4 hw4 => ?_)
    refine eql_t rfl ?_
    try simp only [sS]
    rw [t23_1_1_1_1]
    try simp only [sS]
    have hC4 := hC3.keep hF4 (fun q hq => hM4 q (fun e => by subst e; rcases hq with hq | hq; exact hb.n1 hq; exact hg23.2 hq))
    exact fin hv3 F4 M4 N4 rows3 lv4 _ ((hF2.trans hF3).trans hF4) hdo.symm hC4 hR4 hg23.2 (fun q q1 q2 q3 q4 => by
      obtain ⟨z1, z2⟩ := hM3 q q3 q1 (by omega)
      exact ⟨(hM4 q q2).trans (z1.trans (hM1 q q4)), z2⟩) (by omega) _ rfl
end Go.Proofs.YtgjdjdjhoipfmaaGreatDoor.A
open Go Go.RowKit Go.Proofs.YtgjdjdjhoipfmaaGreatDoor.K Go.Proofs.YtgjdjdjhoipfmaaGreatDoor.T
set_option linter.unusedVariables false
set_option linter.unusedSimpArgs false
namespace Go.Proofs.YtgjdjdjhoipfmaaGreatDoor.A
variable {F F' : Nat → Option (List Value)} {M M' : Nat → Option Chunk} {N N' : Nat} {K : Kont} {E : PanK}
theorem fold_keys : ∀ (l t : List Rw) (r : Rw), r ∈ l.foldl (fun t r => layR t r.1 r.2) t → (∃ x ∈ l, x.1 = r.1) ∨ r ∈ t
  | [], t, r, h => .inr h
  | x :: l, t, r, h => by
    rcases fold_keys l _ r h with ⟨y, hy, e⟩ | h
    · exact .inl ⟨y, List.mem_cons_of_mem _ hy, e⟩
    · rcases layR_keys t x.1 x.2 r h with h | h
      · exact .inl ⟨x, List.mem_cons_self, h.symm⟩
      · exact .inr h
theorem tab_keys (l : List Rw) (r : Rw) (h : r ∈ tab l) : ∃ x ∈ l, x.1 = r.1 := (fold_keys l [] r h).elim id (fun h => by cases h)
theorem okH.total {l : List Dm} {n m : Nat} {h : List En} (o : okH l n m h) : (allF h).length ≤ n * m := by
  have key : ∀ (h : List En), (∀ e ∈ h, e.2.length ≤ m) → (allF h).length ≤ h.length * m := by
    intro h
    induction h with
    | nil => intro _; simp [allF]
    | cons e h ih =>
      intro hp
      have h1 := ih fun x hx => hp x (List.mem_cons_of_mem _ hx)
      have h2 := hp e List.mem_cons_self
      rw [allF_cons, List.length_append, List.length_cons, Nat.succ_mul]; omega
  exact Nat.le_trans (key h o.fl) (Nat.mul_le_mul_right _ o.le)
theorem inF_okK {l : List Dm} (hl : goodDims l) {k : List Int} (h : inF l k = true) : goodKey l k := by
  have hlen := inF_len h
  unfold inF at h
  rw [Bool.and_eq_true, List.all_eq_true] at h
  refine ⟨hlen, fun x hx => ?_⟩
  obtain ⟨i, hi, rfl⟩ := List.mem_iff_getElem.1 hx
  have hi' : i < l.length := by omega
  have := h.2 i (List.mem_range.2 hi')
  unfold inP at this
  rw [getD_at hi, getD_at hi'] at this
  have h1 := of_decide_eq_true this
  have h2 := hl.2.2 _ (List.getElem_mem hi')
  omega
theorem goodKey_okK {l : List Dm} (hl : goodDims l) {k : List Int} (h : goodKey l k) : okK k := by
  have := hl.2.1
  exact ⟨by rw [h.1]; omega, fun x hx => by have := h.2 x hx; unfold i64; omega⟩
theorem okH.okK {l : List Dm} (hl : goodDims l) {n m : Nat} {h : List En} (o : okH l n m h) : ∀ e ∈ h, ∀ f ∈ e.2, A.okK f.1 := fun e he f hf => goodKey_okK hl (inF_okK hl (o.fi e he f hf))
theorem okH.tab {l : List Dm} (hl : goodDims l) {n m : Nat} {h : List En} (o : okH l n m h) (t : Int) : ∀ r ∈ A.tab ((tillF h t).map fr1), A.okK r.1 := fun r hr => by
  obtain ⟨x, hx, e⟩ := tab_keys _ r hr
  obtain ⟨f, hf, rfl⟩ := List.mem_map.1 hx
  obtain ⟨d, hd, hfd⟩ := tillF_mem hf
  rw [← e]; exact o.okK hl d hd f hfd
theorem encFs_le {m d : Nat} {fs : List Fc} (h1 : fs.length ≤ m) (h2 : ∀ f ∈ fs, f.1.length ≤ d) : (encFs fs).length ≤ 4 + m * (9 + 4 * d) := by
  have key : ∀ fs : List Fc, (∀ f ∈ fs, f.1.length ≤ d) → (fs.flatMap encF).length ≤ fs.length * (9 + 4 * d) := by
    intro fs
    induction fs with
    | nil => intro _; simp
    | cons f fs ih =>
      intro hp
      have h1 := ih fun x hx => hp x (List.mem_cons_of_mem _ hx)
      have h2 := hp f List.mem_cons_self
      have h3 : (encF f).length = 1 + f.1.length * 4 + 8 := by unfold encF; rw [List.length_append, List.length_append, putL_len, putL_len, encK_len]; omega
      rw [List.flatMap_cons, List.length_append, List.length_cons, Nat.succ_mul]; omega
  have h3 := key fs h2
  have h4 : fs.length * (9 + 4 * d) ≤ m * (9 + 4 * d) := Nat.mul_le_mul_right _ h1
  unfold encFs
  rw [List.length_append, putL_len]; omega
theorem encEs_le {n m d : Nat} {h : List En} (h1 : h.length ≤ n) (h2 : ∀ e ∈ h, e.2.length ≤ m ∧ ∀ f ∈ e.2, f.1.length ≤ d) : (encEs h).length ≤ 4 + n * (8 + m * (9 + 4 * d)) := by
  have key : ∀ h : List En, (∀ e ∈ h, e.2.length ≤ m ∧ ∀ f ∈ e.2, f.1.length ≤ d) → (h.flatMap encE).length ≤ h.length * (8 + m * (9 + 4 * d)) := by
    intro h
    induction h with
    | nil => intro _; simp
    | cons e h ih =>
      intro hp
      have h1 := ih fun x hx => hp x (List.mem_cons_of_mem _ hx)
      obtain ⟨h2, h3⟩ := hp e List.mem_cons_self
      have h4 := encFs_le h2 h3
      have h5 : (encE e).length = 4 + (encFs e.2).length := by unfold encE; rw [List.length_append, putL_len]
      rw [List.flatMap_cons, List.length_append, List.length_cons, Nat.succ_mul]; omega
  have h3 := key h h2
  have h4 : h.length * (8 + m * (9 + 4 * d)) ≤ n * (8 + m * (9 + 4 * d)) := Nat.mul_le_mul_right _ h1
  unfold encEs
  rw [List.length_append, putL_len]; omega
theorem okH.enc {l : List Dm} (hl : goodDims l) {h : List En} (o : okH l 5000 200 h) : (encEs h).length ≤ 100000000 := by
  have h4 := hl.2.1
  have := encEs_le (d := 4) o.le fun e he => ⟨o.fl e he, fun f hf => by have := inF_len (o.fi e he f hf); omega⟩
  omega
theorem both.keep {B g g2 : Nat} {hv dv dv2 lv2 : Value} {rows : List (List Value)} {l : List Dm} {h : List En} (b : both F M B g g2 hv dv rows dv2 lv2 l h) (hF : subF F F') (hM : ∀ q, q = g ∨ q = g2 ∨ hv.ownBlock = some q → M' q = M q) : both F' M' B g g2 hv dv rows dv2 lv2 l h :=
  ⟨b.c.keep hF (fun q hq => hM q (hq.elim .inl (fun h => .inr (.inr h)))), b.r.keep hF (hM g2 (.inr (.inl rfl))), b.o, b.n1, b.n2⟩
theorem both.lt {B g g2 : Nat} {hv dv dv2 lv2 : Value} {rows : List (List Value)} {l : List Dm} {h : List En} (b : both F M B g g2 hv dv rows dv2 lv2 l h) (hm : clean M N) : ∀ q, q = g ∨ q = g2 ∨ hv.ownBlock = some q → q < N := fun q hq => by
  rcases hq with hq | hq | hq
  · exact (b.c.lt hm q (.inl hq)).2
  · subst hq; exact hm.lt b.r.gg
  · exact (b.c.lt hm q (.inr hq)).2
theorem same_ents {K : Value → Value → Kont} {B g g2 : Nat} {hv dv dv2 lv2 : Value} {rows : List (List Value)} {l : List Dm} {h : List En} {a b : Int} (hb : both F M B g g2 hv dv rows dv2 lv2 l h) (hgd : goodDims l) (k : ∀ u v F' N', (Hp.mk F' M N').wf → subF F F' → N ≤ N' → K u v (.bool true) ⟨F', M, N'⟩) :
    callv Tryz.prog (.func (.func 19) #[] #[]) #[.pointer (some ⟨g, 0, none⟩), .int .i64 a, .int .i64 b] (fun t27 => callv Tryz.prog (.func (.func 28) #[] #[]) #[.pointer (some ⟨g2, 0, none⟩), .int .i64 a, .int .i64 b] (fun t31 => callv Tryz.prog (.func (.func 27) #[] #[]) #[t27, t31] (K t27 t31) E) E) E ⟨F, M, N⟩ := by
  have hl4 := hgd.2.1
  have oe := hb.o.ent a b
  have hen := oe.enc hgd
  have hle := oe.le
  refine centries_c hb.c hb.o (by omega) (fun v1 F1 N1 hw1 hF1 hN1 h1 => ?_)
  refine rents_c (hb.r.keep (M' := M) hF1 rfl) hb.o (by omega) (fun v2 F2 N2 hw2 hF2 hN2 h2 => ?_)
  exact samee_c (h1.mono hF2) h2 (by omega) (fun e he => by have := oe.fl e he; omega) (by omega) (fun N3 hN3 hw3 => k _ _ F2 N3 hw3 (hF1.trans hF2) (by omega))
end Go.Proofs.YtgjdjdjhoipfmaaGreatDoor.A
open Go Go.RowKit Go.Proofs.YtgjdjdjhoipfmaaGreatDoor.K
set_option linter.unusedVariables false
set_option maxRecDepth 100000
namespace Go.Proofs.YtgjdjdjhoipfmaaGreatDoor.T
section
variable (K : Kont) (E : PanK) (k1 k2 k3 k4 k5 : Env → Hp → Prop) (x0 x1 x2 x3 x4 x5 x6 x7 x8 x9 x10 x11 x12 x13 x14 x15 x16 x17 x18 x19 x20 x21 x22 x23 x24 x25 x26 x27 x28 x29 x30 x31 x32 x33 x34 x35 x36 x37 x38 x39 x40 x41 x42 x43 x44 x45 x46 x47 x48 x49 x50 x51 x52 x53 x54 x55 x56 x57 x58 x59 x60 x61 x62 x63 x64 x65 x66 x67 x68 x69 x70 x71 x72 x73 x74 x75 x76 x77 x78 x79 x80 x81 x82 x83 x84 x85 x86 x87 x88 x89 x90 x91 x92 x93 x94 x95 x96 v0 v1 v2 v3 v4 v5 v6 v7 v8 v9 v10 v11 v12 v13 v14 v15 v16 v17 v18 v19 v20 v21 v22 v23 v24 v25 v26 v27 v28 v29 v30 v31 v32 v33 v34 v35 v36 v37 v38 v39 v40 v41 v42 v43 v44 v45 v46 v47 v48 v49 v50 v51 v52 v53 v54 v55 v56 v57 v58 v59 v60 v61 v62 v63 v64 v65 v66 v67 v68 v69 v70 v71 v72 v73 v74 v75 v76 v77 v78 v79 v80 v81 v82 v83 v84 v85 v86 v87 v88 v89 v90 v91 v92 v93 v94 v95 v96 : Value) (j : Nat → Value)
abbrev q6 : QD := bodyQ Tryz.prog Tryz.f6.results.toList K E
abbrev d6 (p : List Nat) : QD → Env → Hp → Prop := den Tryz.prog (sel (bodyOf Tryz.f6) p)
end
section
variable {K : Kont} {E : PanK} {k1 k2 k3 k4 k5 : Env → Hp → Prop} {σ : Type} {x0 x1 x2 x3 x4 x5 x6 x7 x8 x9 x10 x11 x12 x13 x14 x15 x16 x17 x18 x19 x20 x21 x22 x23 x24 x25 x26 x27 x28 x29 x30 x31 x32 x33 x34 x35 x36 x37 x38 x39 x40 x41 x42 x43 x44 x45 x46 x47 x48 x49 x50 x51 x52 x53 x54 x55 x56 x57 x58 x59 x60 x61 x62 x63 x64 x65 x66 x67 x68 x69 x70 x71 x72 x73 x74 x75 x76 x77 x78 x79 x80 x81 x82 x83 x84 x85 x86 x87 x88 x89 x90 x91 x92 x93 x94 x95 x96 v0 v1 v2 v3 v4 v5 v6 v7 v8 v9 v10 v11 v12 v13 v14 v15 v16 v17 v18 v19 v20 v21 v22 v23 v24 v25 v26 v27 v28 v29 v30 v31 v32 v33 v34 v35 v36 v37 v38 v39 v40 v41 v42 v43 v44 v45 v46 v47 v48 v49 v50 v51 v52 v53 v54 v55 v56 v57 v58 v59 v60 v61 v62 v63 v64 v65 v66 v67 v68 v69 v70 v71 v72 v73 v74 v75 v76 v77 v78 v79 v80 v81 v82 v83 v84 v85 v86 v87 v88 v89 v90 v91 v92 v93 v94 v95 v96 : Value} {h : Hp} {j : Nat → Value}
end
end Go.Proofs.YtgjdjdjhoipfmaaGreatDoor.T
open Go Go.RowKit Go.Proofs.YtgjdjdjhoipfmaaGreatDoor.K Go.Proofs.YtgjdjdjhoipfmaaGreatDoor.T
set_option linter.unusedVariables false
set_option linter.unusedSimpArgs false
namespace Go.Proofs.YtgjdjdjhoipfmaaGreatDoor.A
variable {F F' : Nat → Option (List Value)} {M M' : Nat → Option Chunk} {N N' : Nat} {K : Kont} {E : PanK}
theorem queryD.box {cs : List Value} {m lo hi : List Int} (h : queryD F cs m lo hi) : cs.length = 3 ∧ ∀ c ∈ cs, c.oneCell' = true := by
  obtain ⟨a, b, c, rfl, h1, h2, h3, _⟩ := h
  obtain ⟨a1, c1, rfl, _⟩ := h1.form
  obtain ⟨a2, c2, rfl, _⟩ := h2.form
  obtain ⟨a3, c3, rfl, _⟩ := h3.form
  exact ⟨rfl, List.all_eq_true.1 rfl⟩
theorem ldQ {b : Nat} {cs : List Value} {e : TypeId} {tot : Nat} (hl : cs.length = 3) (hM : M b = some (.cells e cs tot)) (k : K (.agg cs.toArray) ⟨F, M, N⟩) : ld true 3 (.pointer (some ⟨b, 0, none⟩)) K ⟨F, M, N⟩ :=
  ldMa (vs := cs) k hM (by rw [List.drop_zero, ← hl, List.take_length]) (by omega)
theorem okH.runs {l : List Dm} {h : List En} (o : okH l 5000 200 h) (t : Int) (m lo hi : List Int) : (runT l (A.tab ((tillF h t).map fr1)) m lo hi).length ≤ 1000000 := by
  have h1 := runT_len l (A.tab ((tillF h t).map fr1)) m lo hi
  have h2 := tab_len ((tillF h t).map fr1)
  rw [List.length_map] at h2
  have h3 := tillF_le h t h.length
  rw [List.take_length] at h3
  have h4 := o.total
  omega
end Go.Proofs.YtgjdjdjhoipfmaaGreatDoor.A
open Go Go.RowKit Go.Proofs.YtgjdjdjhoipfmaaGreatDoor.K
set_option linter.unusedVariables false
set_option maxRecDepth 100000
namespace Go.Proofs.YtgjdjdjhoipfmaaGreatDoor.T
section
variable (K : Kont) (E : PanK) (k1 k2 k3 k4 k5 : Env → Hp → Prop) (x0 x1 x2 x3 x4 x5 x6 x7 x8 x9 x10 x11 x12 x13 x14 x15 x16 x17 x18 x19 x20 x21 x22 x23 x24 x25 x26 x27 x28 x29 x30 x31 x32 x33 x34 x35 x36 x37 x38 x39 x40 x41 x42 x43 x44 x45 x46 x47 x48 x49 x50 x51 x52 x53 x54 x55 x56 x57 x58 x59 x60 x61 x62 x63 x64 x65 x66 x67 x68 x69 x70 x71 x72 x73 x74 x75 x76 x77 x78 x79 x80 x81 x82 x83 x84 x85 x86 x87 x88 x89 x90 x91 x92 x93 x94 x95 x96 x97 x98 x99 x100 x101 x102 x103 x104 x105 x106 x107 x108 x109 x110 x111 x112 x113 x114 x115 x116 v0 v1 v2 v3 v4 v5 v6 v7 v8 v9 v10 v11 v12 v13 v14 v15 v16 v17 v18 v19 v20 v21 v22 v23 v24 v25 v26 v27 v28 v29 v30 v31 v32 v33 v34 v35 v36 v37 v38 v39 v40 v41 v42 v43 v44 v45 v46 v47 v48 v49 v50 v51 v52 v53 v54 v55 v56 v57 v58 v59 v60 v61 v62 v63 v64 v65 v66 v67 v68 v69 v70 v71 v72 v73 v74 v75 v76 v77 v78 v79 v80 v81 v82 v83 v84 v85 v86 v87 v88 v89 v90 v91 v92 v93 v94 v95 v96 v97 v98 v99 v100 v101 v102 v103 v104 v105 v106 v107 v108 v109 v110 v111 v112 v113 v114 v115 v116 : Value) (j : Nat → Value)
abbrev q8 : QD := bodyQ Tryz.prog Tryz.f8.results.toList K E
abbrev d8 (p : List Nat) : QD → Env → Hp → Prop := den Tryz.prog (sel (bodyOf Tryz.f8) p)
end
section
variable {K : Kont} {E : PanK} {k1 k2 k3 k4 k5 : Env → Hp → Prop} {σ : Type} {x0 x1 x2 x3 x4 x5 x6 x7 x8 x9 x10 x11 x12 x13 x14 x15 x16 x17 x18 x19 x20 x21 x22 x23 x24 x25 x26 x27 x28 x29 x30 x31 x32 x33 x34 x35 x36 x37 x38 x39 x40 x41 x42 x43 x44 x45 x46 x47 x48 x49 x50 x51 x52 x53 x54 x55 x56 x57 x58 x59 x60 x61 x62 x63 x64 x65 x66 x67 x68 x69 x70 x71 x72 x73 x74 x75 x76 x77 x78 x79 x80 x81 x82 x83 x84 x85 x86 x87 x88 x89 x90 x91 x92 x93 x94 x95 x96 x97 x98 x99 x100 x101 x102 x103 x104 x105 x106 x107 x108 x109 x110 x111 x112 x113 x114 x115 x116 v0 v1 v2 v3 v4 v5 v6 v7 v8 v9 v10 v11 v12 v13 v14 v15 v16 v17 v18 v19 v20 v21 v22 v23 v24 v25 v26 v27 v28 v29 v30 v31 v32 v33 v34 v35 v36 v37 v38 v39 v40 v41 v42 v43 v44 v45 v46 v47 v48 v49 v50 v51 v52 v53 v54 v55 v56 v57 v58 v59 v60 v61 v62 v63 v64 v65 v66 v67 v68 v69 v70 v71 v72 v73 v74 v75 v76 v77 v78 v79 v80 v81 v82 v83 v84 v85 v86 v87 v88 v89 v90 v91 v92 v93 v94 v95 v96 v97 v98 v99 v100 v101 v102 v103 v104 v105 v106 v107 v108 v109 v110 v111 v112 v113 v114 v115 v116 : Value} {h : Hp} {j : Nat → Value}
end
end Go.Proofs.YtgjdjdjhoipfmaaGreatDoor.T
open Go Go.RowKit Go.Proofs.YtgjdjdjhoipfmaaGreatDoor.K Go.Proofs.YtgjdjdjhoipfmaaGreatDoor.T
set_option linter.unusedVariables false
set_option linter.unusedSimpArgs false
namespace Go.Proofs.YtgjdjdjhoipfmaaGreatDoor.A
variable {F F' : Nat → Option (List Value)} {M M' : Nat → Option Chunk} {N N' : Nat} {K : Kont} {E : PanK}
end Go.Proofs.YtgjdjdjhoipfmaaGreatDoor.A
open Go Go.RowKit Go.Proofs.YtgjdjdjhoipfmaaGreatDoor.K Go.Proofs.YtgjdjdjhoipfmaaGreatDoor.T
set_option linter.unusedVariables false
set_option linter.unusedSimpArgs false
namespace Go.Proofs.YtgjdjdjhoipfmaaGreatDoor.A
variable {F F' : Nat → Option (List Value)} {M M' : Nat → Option Chunk} {N N' : Nat} {K : Kont} {E : PanK}
abbrev rQuery : (Nat → Option (List Value)) → List Value → List Int × List Int × List Int → Prop := rP (rS 1 (rI .i64)) (rP (rS 1 (rI .i64)) (rS 1 (rI .i64)))
theorem wf_u32 {x : Int} (h : (Lit.int .u32 x).wf = true) : 0 ≤ x ∧ x < 4294967296 := by
  have h' : 0 ≤ x ∧ x ≤ 4294967295 := by simpa [Lit.wf, IntKind.min, IntKind.max, IntKind.signed, IntKind.bits] using h
  omega
abbrev rFact : (Nat → Option (List Value)) → List Value → List Int × Int → Prop := rP (rS 1 (rI .i64)) (rI .i64)
abbrev rEnt : (Nat → Option (List Value)) → List Value → Int × List (List Int × Int) → Prop := rP (rI .u32) (rS 2 rFact)
abbrev OpY := Int × Int × List (List Int) × List Int × List (List Int × Int) × Int × Int × List (Int × List (List Int × Int))
abbrev rOp : (Nat → Option (List Value)) → List Value → OpY → Prop := rP (rI .u8) (rP (rI .u32) (rP (rS 1 (rS 1 (rI .u16))) (rP (rS 1 (rI .i64)) (rP (rS 2 rFact) (rP (rI .u16) (rP (rI .u16) (rS 2 rEnt)))))))
def toOp (y : OpY) : OpC := ⟨y.1, y.2.1, y.2.2.1, y.2.2.2.1, y.2.2.2.2.1, y.2.2.2.2.2.1, y.2.2.2.2.2.2.1, y.2.2.2.2.2.2.2⟩
theorem rS_one {α : Type} {R : (Nat → Option (List Value)) → List Value → α → Prop} {sz : Nat} {cs : List Value} {y : List α} (h : rS sz R F cs y) : ∃ v, cs = [v] := let ⟨v, _, e, _⟩ := h; ⟨v, e⟩
theorem ents_of {v : Value} {y : List (Int × List (List Int × Int))} (h : rS 2 rEnt F [v] y) : entsD F v y ∧ y.length ≤ 140737488351232 ∧ ∀ e ∈ y, (0 ≤ e.1 ∧ e.1 < 4294967296) ∧ ∀ f ∈ e.2, i64 f.2 := by
  obtain ⟨v', rows, e, hv, hr, hl⟩ := h
  injection e with e _
  subst e
  have hr' : rowsF (fun r e => entD F r e ∧ (0 ≤ e.1 ∧ e.1 < 4294967296) ∧ ∀ f ∈ e.2, i64 f.2) 2 rows y := hr.mono fun r e ⟨c1, c2, ee, ⟨ha, hb⟩, hc⟩ => by
    obtain ⟨u, hu⟩ := rS_one hc
    rw [hu] at hc
    obtain ⟨h1, h2, h3⟩ := facts_of hc
    exact ⟨⟨u, by rw [ee, ha, hu]; rfl, h1, h2⟩, wf_u32 hb, fun f hf => (h3 f hf).2⟩
  exact ⟨⟨rows, hv, hr'.mono fun _ _ h => h.1⟩, hl, fun e he => by obtain ⟨r, h⟩ := rowsF_all hr' e he; exact h.2⟩
theorem op_of {cs : List Value} {y : OpY} (h : rOp F cs y) : opcD F cs (toOp y) := by
  obtain ⟨c1, d1, e1, ⟨h1, w1⟩, c2, d2, e2, ⟨h2, w2⟩, c3, d3, e3, h3, c4, d4, e4, h4, c5, d5, e5, h5, c6, d6, e6, ⟨h6, w6⟩, c7, d7, e7, ⟨h7, w7⟩, h8⟩ := h
  obtain ⟨v3, u3⟩ := rS_one h3
  obtain ⟨v4, u4⟩ := rS_one h4
  obtain ⟨v5, u5⟩ := rS_one h5
  obtain ⟨v8, u8⟩ := rS_one h8
  rw [u3] at h3; rw [u4] at h4; rw [u5] at h5; rw [u8] at h8
  have a3 := lists_of h3
  have a4 := list_of h4
  have a5 := facts_of h5
  have a8 := ents_of h8
  refine ⟨v3, v4, v5, v8, ?_, a3.1, a4.1, a5.1, a8.1, ⟨wf_u8 w1, wf_u32 w2, a3.2.1, fun l hl x hx => wf_u16 (a3.2.2 l hl x hx), a4.2.2, fun x hx => wf_i64 (a4.2.1 x hx), a5.2.1, fun f hf => (a5.2.2 f hf).2, wf_u16 w6, wf_u16 w7, a8.2.1, fun e he => (a8.2.2 e he).1, fun e he => (a8.2.2 e he).2⟩⟩
  rw [e1, e2, e3, e4, e5, e6, e7, h1, h2, h6, h7, u3, u4, u5, u8]; rfl
theorem ops_of {v : Value} {y : List OpY} (h : rS 8 rOp F [v] y) : opsD F v (y.map toOp) ∧ (y.map toOp).length ≤ 140737488351232 := by
  obtain ⟨v', rows, e, hv, hr, hl⟩ := h
  injection e with e _
  subst e
  have hr' : rowsF (fun r x => opcD F r (toOp x)) 8 rows y := hr.mono fun r f h => op_of h
  exact ⟨⟨rows, by rw [List.length_map]; exact hv, rowsF_map toOp hr'⟩, by rw [List.length_map]; exact hl⟩
end Go.Proofs.YtgjdjdjhoipfmaaGreatDoor.A
open Go Go.RowKit Go.Proofs.YtgjdjdjhoipfmaaGreatDoor.K
set_option linter.unusedVariables false
set_option maxRecDepth 100000
namespace Go.Proofs.YtgjdjdjhoipfmaaGreatDoor.T
section
variable (K : Kont) (E : PanK) (k1 k2 k3 k4 k5 : Env → Hp → Prop) (x0 x1 x2 x3 x4 x5 x6 x7 x8 x9 x10 x11 x12 x13 x14 x15 x16 x17 x18 x19 x20 x21 x22 x23 x24 x25 x26 x27 x28 x29 x30 x31 x32 x33 x34 x35 x36 x37 x38 x39 x40 x41 x42 x43 x44 x45 x46 x47 x48 x49 x50 x51 x52 x53 x54 x55 x56 x57 x58 x59 x60 x61 x62 x63 x64 x65 x66 x67 x68 x69 x70 x71 x72 x73 x74 x75 x76 x77 x78 x79 x80 x81 x82 x83 x84 x85 x86 x87 x88 x89 x90 x91 x92 x93 x94 v0 v1 v2 v3 v4 v5 v6 v7 v8 v9 v10 v11 v12 v13 v14 v15 v16 v17 v18 v19 v20 v21 v22 v23 v24 v25 v26 v27 v28 v29 v30 v31 v32 v33 v34 v35 v36 v37 v38 v39 v40 v41 v42 v43 v44 v45 v46 v47 v48 v49 v50 v51 v52 v53 v54 v55 v56 v57 v58 v59 v60 v61 v62 v63 v64 v65 v66 v67 v68 v69 v70 v71 v72 v73 v74 v75 v76 v77 v78 v79 v80 v81 v82 v83 v84 v85 v86 v87 v88 v89 v90 v91 v92 v93 v94 : Value) (j : Nat → Value)
abbrev q10 : QD := bodyQ Tryz.prog Tryz.f10.results.toList K E
abbrev d10 (p : List Nat) : QD → Env → Hp → Prop := den Tryz.prog (sel (bodyOf Tryz.f10) p)
def m10_1_1_1_1_1_1_0_1_0_0 (j : Nat → Value) : Env := #[x0, x1, x2, x3, x4, x5, x6, x7, x8, x9, v10, x11, x12, x13, x14, x15, x16, x17, x18, x19, x20, x21, x22, x23, x24, x25, x26, x27, x28, x29, x30, x31, x32, x33, x34, x35, x36, x37, x38, x39, x40, x41, x42, x43, (j 44), (j 45), (j 46), (j 47), (j 48), (j 49), (j 50), (j 51), (j 52), (j 53), (j 54), (j 55), (j 56), (j 57), x58, x59, x60, x61, x62, x63, x64, x65, x66, x67, x68, x69, x70, x71, x72, x73, x74, x75, x76, x77, x78, x79, x80, x81, x82, x83, x84, x85, x86, x87, x88, x89, x90, x91, x92, x93, x94]
theorem t10 : d10 [] (q10 K E) #[x0, x1, x2, U, U, U, U, U, U, U, U, U, U, U, U, U, U, U, U, U, U, U, U, U, U, U, U, U, U, U, U, U, U, U, U, U, U, U, U, U, U, U, U, U, U, U, U, U, U, U, U, U, U, U, U, U, U, U, U, U, U, U, U, U, U, U, U, U, U, U, U, U, U, U, U, U, U, U, U, U, U, U, U, U, U, U, U, U, U, U, U, U, U, U, U] =
  nw 62 (Value.cells x2).toList fun t1 =>
  pv (lenV x1) fun t2 =>
  pv (binV .none .gtr t2 (.int .i64 20)) fun t3 =>
  gdK t3 false (fun k => k x1) fun t4 =>
  gdK t3 false (fun k => callv Tryz.prog (.func (.func 21) #[] #[]) #[t4] k E) fun t5 =>
  gdK t3 false (fun k => pv (binV .none .gtr t5 (.int .i64 300)) k) fun t6 =>
  pv (pickV t3 (.bool true) t6) fun t7 =>
  gdK t7 false (fun k => ld true 8 t1 k) fun t8 =>
  gdK t7 false (fun k => nws 62 1 (bsC #[(.int .u8 0), (.int .u32 0), (.slice none 0 0), (.slice none 0 0), (.slice none 0 0), (.int .u16 0), (.int .u16 0), (.slice none 0 0)] 8 1 #[(0, t8)]) k) fun t9 =>
  gdK t7 false (fun k => callv Tryz.prog (.func (.func 21) #[] #[]) #[t9] k E) fun t10 =>
  gdK t7 false (fun k => pv (binV .none .gtr t10 (.int .i64 300)) k) fun t11 =>
  pv (pickV t7 (.bool true) t11) fun t12 =>
  gdK t12 false (fun k => callv Tryz.prog (.func (.func 11) #[] #[]) #[] k E) fun t13 =>
  gdK t12 false (fun k => pv (unV .not t13) k) fun t14 =>
  pv (pickV t12 (.bool true) t14) fun t15 =>
  cnd t15 (
   callv Tryz.prog (.func (.func 11) #[] #[]) #[] (fun t16 =>
   K t16) E) (
   callv Tryz.prog (.func (.func 12) #[] #[]) #[x0] (fun t17 =>
   callv Tryz.prog (.func (.func 13) #[] #[]) #[t17] (fun t18 =>
   callv Tryz.prog (.func (.func 22) #[] #[]) #[t17] (fun t19 =>
   pv (binV .ptr .eql t18 (.pointer none)) fun t20 =>
   gdK t20 false (fun k => k t19) fun t21 =>
   gdK t20 false (fun k => pv (binV .ptr .eql t21 (.pointer none)) k) fun t22 =>
   pv (pickV t20 (.bool true) t22) fun t23 =>
   cnd t23 (
    K (.bool false)) (
    lp (fun k1 => d10 [1, 1, 1, 1, 1, 1, 0, 1, 0, 0] (thenD k1 (blk 0 (thenD (d10 [1, 1, 1, 1, 1, 1, 1] (q10 K E)) (q10 K E))))) (m10_1_1_1_1_1_1_0_1_0_0 x0 x1 x2 U U t1 (.bool false) t17 t18 t19 U U x1 t2 t3 t3 t4 t5 t6 t7 t7 t8 t9 t10 t11 t12 t12 t13 t14 t15 U x0 t17 t17 t18 t17 t19 t18 t20 t20 t21 t22 t23 U U U U U U U U U U U U U U U U U U U U U U U U U U U U U U U U U U U U U (.int .i64 0) (jf #[])))) E) E) E) := by kernel_rfl
theorem t10_1_1_1_1_1_1_0_1_0_0 : d10 [1, 1, 1, 1, 1, 1, 0, 1, 0, 0] (thenD k1 (blk 0 (thenD (d10 [1, 1, 1, 1, 1, 1, 1] (q10 K E)) (q10 K E)))) (m10_1_1_1_1_1_1_0_1_0_0 x0 x1 x2 x3 x4 x5 x6 x7 x8 x9 x11 x12 x13 x14 x15 x16 x17 x18 x19 x20 x21 x22 x23 x24 x25 x26 x27 x28 x29 x30 x31 x32 x33 x34 x35 x36 x37 x38 x39 x40 x41 x42 x43 x58 x59 x60 x61 x62 x63 x64 x65 x66 x67 x68 x69 x70 x71 x72 x73 x74 x75 x76 x77 x78 x79 x80 x81 x82 x83 x84 x85 x86 x87 x88 x89 x90 x91 x92 x93 x94 v10 j) =
  pv (lenV x1) fun t1 =>
  pv (binV .none .lss v10 t1) fun t2 =>
  cnd t2 (
   pv (iaV none 8 x1 v10) fun t3 =>
   ld true 8 t3 fun t4 =>
   callv Tryz.prog (.func (.func 23) #[] #[]) #[x8, x9, x7, t4] (fun t5 =>
   pv (binV .none .add v10 (.int .i64 1)) fun t6 =>
   k1 (m10_1_1_1_1_1_1_0_1_0_0 x0 x1 x2 x3 x4 x5 x6 x7 x8 x9 x11 x12 x13 x14 x15 x16 x17 x18 x19 x20 x21 x22 x23 x24 x25 x26 x27 x28 x29 x30 x31 x32 x33 x34 x35 x36 x37 x38 x39 x40 x41 x42 x43 x58 x59 x60 x61 x62 x63 x64 x65 x66 x67 x68 x69 x70 x71 x72 x73 x74 x75 x76 x77 x78 x79 x80 x81 x82 x83 x84 x85 x86 x87 x88 x89 x90 x91 x92 x93 x94 t6 (jf #[U, U, U, U, U, U, U, U, U, U, U, U, U, U, U, U, U, U, U, U, U, U, U, U, U, U, U, U, U, U, U, U, U, U, U, U, U, U, U, U, U, U, U, U, v10, x1, t1, t2, v10, t6, x8, x9, x7, x1, v10, t3, t4, t5]))) E) (
   pv (faV 1 x5) fun t7 =>
   ld false 1 t7 fun t8 =>
   pv (faV 4 x5) fun t9 =>
   ld false 1 t9 fun t10 =>
   callv Tryz.prog (.func (.func 15) #[] #[]) #[x8, t8, t10] (fun t11 =>
   pv (binV .none .neq t11 (.int .u16 0)) fun t12 =>
   gdK t12 true (fun k => k x8) fun t13 =>
   gdK t12 true (fun k => callv Tryz.prog (.func (.func 19) #[] #[]) #[t13, (.int .i64 0), (.int .i64 10000)] k E) fun t14 =>
   gdK t12 true (fun k => k x9) fun t15 =>
   gdK t12 true (fun k => callv Tryz.prog (.func (.func 28) #[] #[]) #[t15, (.int .i64 0), (.int .i64 10000)] k E) fun t16 =>
   gdK t12 true (fun k => callv Tryz.prog (.func (.func 27) #[] #[]) #[t14, t16] k E) fun t17 =>
   gdK t12 true (fun k => pv (unV .not t17) k) fun t18 =>
   pv (pickV t12 t18 (.bool false)) fun t19 =>
   cnd t19 (
    K (.bool false)) (
    pv (binV .none .eql t11 (.int .u16 0)) fun t20 =>
    cnd t20 (
     K (.bool true)) (
     pv (faV 5 x5) fun t21 =>
     ld false 1 t21 fun t22 =>
     pv (cvV .i64 t22) fun t23 =>
     pv (faV 6 x5) fun t24 =>
     ld false 1 t24 fun t25 =>
     pv (cvV .i64 t25) fun t26 =>
     pv (faV 7 x5) fun t27 =>
     ld false 1 t27 fun t28 =>
     callv Tryz.prog (.func (.func 26) #[] #[]) #[x8, t23, t26, t28] (fun t29 =>
     pv (binV .none .eql t29 (.int .u16 0)) fun t30 =>
     gdK t30 false (fun k => k x8) fun t31 =>
     gdK t30 false (fun k => callv Tryz.prog (.func (.func 19) #[] #[]) #[t31, (.int .i64 0), (.int .i64 10000)] k E) fun t32 =>
     gdK t30 false (fun k => k x9) fun t33 =>
     gdK t30 false (fun k => callv Tryz.prog (.func (.func 28) #[] #[]) #[t33, (.int .i64 0), (.int .i64 10000)] k E) fun t34 =>
     gdK t30 false (fun k => callv Tryz.prog (.func (.func 27) #[] #[]) #[t32, t34] k E) fun t35 =>
     pv (pickV t30 (.bool true) t35) fun t36 =>
     K t36) E))) E) := by kernel_rfl
end
section
variable {K : Kont} {E : PanK} {k1 k2 k3 k4 k5 : Env → Hp → Prop} {σ : Type} {x0 x1 x2 x3 x4 x5 x6 x7 x8 x9 x10 x11 x12 x13 x14 x15 x16 x17 x18 x19 x20 x21 x22 x23 x24 x25 x26 x27 x28 x29 x30 x31 x32 x33 x34 x35 x36 x37 x38 x39 x40 x41 x42 x43 x44 x45 x46 x47 x48 x49 x50 x51 x52 x53 x54 x55 x56 x57 x58 x59 x60 x61 x62 x63 x64 x65 x66 x67 x68 x69 x70 x71 x72 x73 x74 x75 x76 x77 x78 x79 x80 x81 x82 x83 x84 x85 x86 x87 x88 x89 x90 x91 x92 x93 x94 v0 v1 v2 v3 v4 v5 v6 v7 v8 v9 v10 v11 v12 v13 v14 v15 v16 v17 v18 v19 v20 v21 v22 v23 v24 v25 v26 v27 v28 v29 v30 v31 v32 v33 v34 v35 v36 v37 v38 v39 v40 v41 v42 v43 v44 v45 v46 v47 v48 v49 v50 v51 v52 v53 v54 v55 v56 v57 v58 v59 v60 v61 v62 v63 v64 v65 v66 v67 v68 v69 v70 v71 v72 v73 v74 v75 v76 v77 v78 v79 v80 v81 v82 v83 v84 v85 v86 v87 v88 v89 v90 v91 v92 v93 v94 : Value} {h : Hp} {j : Nat → Value}
theorem l10_1_1_1_1_1_1_0_1_0_0 (f10 : σ → Value) (I : σ → Hp → Prop) (μ : σ → Nat) (s0 : σ) (e10 : v10 = f10 s0) (h0 : h.wf → ∃ h', h.wk h' ∧ I s0 h')
 (round : ∀ (k1 : Env → Hp → Prop) (s : σ) (j : Nat → Value) (h : Hp), I s h → h.wf → (∀ s' j' h', μ s' < μ s → (h'.wf → ∃ h'', h'.wk h'' ∧ I s' h'') → k1 (m10_1_1_1_1_1_1_0_1_0_0 x0 x1 x2 x3 x4 x5 x6 x7 x8 x9 x11 x12 x13 x14 x15 x16 x17 x18 x19 x20 x21 x22 x23 x24 x25 x26 x27 x28 x29 x30 x31 x32 x33 x34 x35 x36 x37 x38 x39 x40 x41 x42 x43 x58 x59 x60 x61 x62 x63 x64 x65 x66 x67 x68 x69 x70 x71 x72 x73 x74 x75 x76 x77 x78 x79 x80 x81 x82 x83 x84 x85 x86 x87 x88 x89 x90 x91 x92 x93 x94 (f10 s') j') h') → d10 [1, 1, 1, 1, 1, 1, 0, 1, 0, 0] (thenD k1 (blk 0 (thenD (d10 [1, 1, 1, 1, 1, 1, 1] (q10 K E)) (q10 K E)))) (m10_1_1_1_1_1_1_0_1_0_0 x0 x1 x2 x3 x4 x5 x6 x7 x8 x9 x11 x12 x13 x14 x15 x16 x17 x18 x19 x20 x21 x22 x23 x24 x25 x26 x27 x28 x29 x30 x31 x32 x33 x34 x35 x36 x37 x38 x39 x40 x41 x42 x43 x58 x59 x60 x61 x62 x63 x64 x65 x66 x67 x68 x69 x70 x71 x72 x73 x74 x75 x76 x77 x78 x79 x80 x81 x82 x83 x84 x85 x86 x87 x88 x89 x90 x91 x92 x93 x94 (f10 s) j) h) :
 lp (fun k1 => d10 [1, 1, 1, 1, 1, 1, 0, 1, 0, 0] (thenD k1 (blk 0 (thenD (d10 [1, 1, 1, 1, 1, 1, 1] (q10 K E)) (q10 K E))))) (m10_1_1_1_1_1_1_0_1_0_0 x0 x1 x2 x3 x4 x5 x6 x7 x8 x9 x11 x12 x13 x14 x15 x16 x17 x18 x19 x20 x21 x22 x23 x24 x25 x26 x27 x28 x29 x30 x31 x32 x33 x34 x35 x36 x37 x38 x39 x40 x41 x42 x43 x58 x59 x60 x61 x62 x63 x64 x65 x66 x67 x68 x69 x70 x71 x72 x73 x74 x75 x76 x77 x78 x79 x80 x81 x82 x83 x84 x85 x86 x87 x88 x89 x90 x91 x92 x93 x94 v10 j) h := by
 subst e10
 exact loop_r (fun s j => m10_1_1_1_1_1_1_0_1_0_0 x0 x1 x2 x3 x4 x5 x6 x7 x8 x9 x11 x12 x13 x14 x15 x16 x17 x18 x19 x20 x21 x22 x23 x24 x25 x26 x27 x28 x29 x30 x31 x32 x33 x34 x35 x36 x37 x38 x39 x40 x41 x42 x43 x58 x59 x60 x61 x62 x63 x64 x65 x66 x67 x68 x69 x70 x71 x72 x73 x74 x75 x76 x77 x78 x79 x80 x81 x82 x83 x84 x85 x86 x87 x88 x89 x90 x91 x92 x93 x94 (f10 s) j) I μ round s0 j h0
end
end Go.Proofs.YtgjdjdjhoipfmaaGreatDoor.T
open Go Go.RowKit Go.Proofs.YtgjdjdjhoipfmaaGreatDoor.K Go.Proofs.YtgjdjdjhoipfmaaGreatDoor.T
set_option linter.unusedVariables false
set_option linter.unusedSimpArgs false
namespace Go.Proofs.YtgjdjdjhoipfmaaGreatDoor.A
variable {F F' : Nat → Option (List Value)} {M M' : Nat → Option Chunk} {N N' : Nat} {K : Kont} {E : PanK}
set_option maxRecDepth 10000 in
set_option maxHeartbeats 8000000 in
theorem cubeRefuses_c {um ul : Value} {cs : List Value} {m : List (Int × List Int)} {ops : List OpC} {o : OpC} (hm : cutsD F um m) (hml : m.length ≤ 140737488351232) (hmc : ∀ c ∈ m, (0 ≤ c.1 ∧ c.1 < 65536) ∧ ∀ x ∈ c.2, 0 ≤ x ∧ x < 256)
    (hops : opsD F ul ops) (hopl : ops.length ≤ 140737488351232) (ho : opcD F cs o) (k : ∀ h, K (.bool true) h) :
    call Tryz.prog 10 #[um, ul, .agg cs.toArray] K E ⟨F, M, N⟩ := by
  refine call_text mixed Tryz.func10 (by kernel_rfl) (t10 _ E _ _ _) (fun hw => ?_)
  have hm0 : clean M N := hw.m
  have kn : ∀ {M : Nat → Option Chunk} {F : Nat → Option (List Value)} {N : Nat}, callv Tryz.prog (.func (.func 11) #[] #[]) #[] (fun v h => h.wf → ∃ h', h.wk h' ∧ (h'.wf → K v h')) E ⟨F, M, N⟩ := known13_c (fun F' N' _ _ _ hc => ⟨_, wk_refl hc, fun _ => k _⟩)
  obtain ⟨ho8, ho1⟩ := ho.one
  have ho' := ho
  obtain ⟨ck, cv, cf, cL, hcs, hk, hvv, hf, hL, ok⟩ := ho'
  have hta := ok.ta
  have hfo := ok.fo
  have hto := ok.tt
  have hops0 := hops
  obtain ⟨oprows, hop1, hop2⟩ := hops0
  refine nw_r (cs := cs) (fun b1 hb1 => ?_)
  obtain ⟨M1, hM1e⟩ : ∃ M1, M1 = upd M b1 (some (.cells 62 cs cs.length)) := ⟨_, rfl⟩
  rw [← hM1e]
  have hbox : M1 b1 = some (.cells 62 cs 8) := by rw [hM1e, ← ho8]; exact upd_same _ _ _
  have hm1 : clean M1 (b1 + 1) := by rw [hM1e]; exact hm0.new hb1 _
  clear hM1e
  obtain ⟨N1, hN1⟩ : ∃ n, n = b1 + 1 := ⟨_, rfl⟩
  rw [← hN1] at hm1 ⊢
  refine lenF_r hop1 ?_
  refine gtr_r (fun h1 => ?_) (fun h1 => ?_)
  · try simp only [sS]; exact kn
  try simp only [sS]
  refine heavy13_c hops hopl (fun r1 hw1 => ?_)
  refine gtr_r (fun h2 => ?_) (fun h2 => ?_)
  · try simp only [sS]; exact kn
  try simp only [sS]
  refine ldMa (vs := cs) ?_ hbox (by rw [List.drop_zero, ← ho8, List.take_length]) (by omega)
  refine nws_r (cs := cs) (by rw [hcs]; kernel_rfl) (fun b9 hb9 => ?_)
  refine callv_go (fun hc => ⟨_, wk_P (p := fun q => q = b9) hc, ?_⟩)
  have hs9 := subF_frzP (p := fun q => q = b9) hc
  have f9 := frzP_at (F := F) (p := fun q => q = b9) rfl (upd_same M1 b9 (some (.cells 62 cs cs.length)))
  have hb9x : keepM (upd M1 b9 (some (.cells 62 cs cs.length))) (fun q => ¬ q = b9) b1 = some (.cells 62 cs 8) := (keepM_in (by omega)).trans ((upd_ne _ _ (by omega)).trans hbox)
  have hm9 : clean (keepM (upd M1 b9 (some (.cells 62 cs cs.length))) (fun q => ¬ q = b9)) (b9 + 1) := keepM_clean (hm1.new hb9 _)
  generalize frzP F _ _ = F9 at *
  generalize keepM _ _ = M9 at *
  clear hc
  have hone : opsD F9 (.slice (some ⟨b9, 0, none⟩) 1 1) [o] := ⟨[cs], sF_lit (cells := [cs].flatten) (by simpa using f9) (by simp [ho8]) (by decide), rowsF_snoc1 (rowsF.nil (opcD F9) 8) (ho.mono hs9).one (ho.mono hs9)⟩
  refine heavy13_c hone (by simp) (fun r2 hw2 => ?_)
  refine gtr_r (fun h3 => ?_) (fun h3 => ?_)
  · try simp only [sS]; exact kn
  try simp only [sS]
  refine known13_c (fun F2 N2 hF2 hN2 hw2 => ?_)
  try simp only [sS]
  have hgd := dimsOf_good m (fun c hc => (hmc c hc).1)
  have hok := dimsOf_ok (m := m) (fun c hc => (hmc c hc).1)
  refine dof_c ((hm.mono hs9).mono hF2) hml hmc (fun udv F3 N3 hw3 hF3 hN3 hd => ?_)
  generalize dimsOf m = l at *
  have hl4 := hgd.2.1
  refine new_c hd (by omega) (fun h => absurd h (by rw [hok]; decide)) (fun _ g dv F4 M4 N4 hF4 hC hM4 hN4 hm4 hw4 => ?_)
  refine rnew_c (hd.mono hF4) (by omega) (fun h => absurd h (by rw [hok]; decide)) (fun _ g2 dv2 F5 M5 N5 hF5 hR hg2 hM5 hN5 hm5 hw5 => ?_)
  refine ptr_ne ?_
  try simp only [sS]
  refine ptr_ne ?_
  try simp only [sS]
  have hbN : b1 < N3 := by omega
  have hgB := hC.gB
  have hgN := (hC.lt hm4 g (.inl rfl)).2
  have hb5 := (hM5 b1 (by omega)).trans ((hM4 b1 hbN).trans hb9x)
  have hC5 := hC.keep hF5 (fun q hq => hM5 q (hC.lt hm4 q hq).2)
  have hB5 : both F5 M5 N3 g g2 (.slice none 0 0) dv [] dv2 (.slice none 0 0) l [] := ⟨hC5, hR, okH.nil _ _ _, by omega, by simp [Value.ownBlock]⟩
  have F35 := hF4.trans hF5
  have F05 := ((hs9.trans hF2).trans hF3).trans F35
  refine l10_1_1_1_1_1_1_0_1_0_0 (σ := Nat) (fun i => .int .i64 (i : Nat))
    (fun i h' => ∃ F' M' N' hv rows lv2 h, h' = ⟨F', M', N'⟩ ∧ subF F5 F' ∧ N5 ≤ N' ∧ clean M' N' ∧ i ≤ ops.length ∧ M' b1 = some (.cells 62 cs 8) ∧ hv.ownBlock ≠ some b1 ∧ both F' M' N3 g g2 hv dv rows dv2 lv2 l h) (fun i => ops.length - i) 0 rfl
    (fun hw6 => ⟨_, wk_refl hw6, F5, M5, N5, .slice none 0 0, [], .slice none 0 0, [], rfl, subF.refl _, Nat.le_refl _, hm5, Nat.zero_le _, hb5, by simp [Value.ownBlock], hB5⟩) (fun kk i j h1' hI hw6 next => ?_)
  rw [t10_1_1_1_1_1_1_0_1_0_0]
  obtain ⟨F6, M6, N6, hv, rows, lv2, h, rfl, hF6, hN6, hm6, hi, hb6, hvb, hB6⟩ := hI
  have F06 := F05.trans hF6
  refine lenF_r hop1 ?_
  refine lss_r (fun hlt => ?_) (fun hge => ?_)
  · have i1 : i < ops.length := by omega
    try simp only [sS]
    refine row_r (hop1.mono F06) (hop2.mono fun _ _ h => h.mono F06) (by decide) i1 (fun p r _ hR6 hrl hr1 => ?_)
    refine does13_c hB6 (by omega) hgd (hd.mono (F35.trans hF6)) hR6 (fun hv7 F7 M7 N7 rows7 lv7 hF7 hB7 hM7 hN7 hm7 hw7 => ?_)
    refine inc_r (by omega) ?_
    obtain ⟨z1, z2⟩ := hM7 b1 (by omega) (by omega) hvb (by omega)
    exact next (i + 1) _ _ (by omega) (fun hw8 => ⟨_, wk_refl hw8, F7, M7, N7, hv7, rows7, lv7, _, rfl, hF6.trans hF7, by omega, hm7, i1, z1.trans hb6, z2, hB7⟩)
  · try simp only [sS]
    have lo : ∀ (off : Nat) (x : Value) {X : Kont} {F : Nat → Option (List Value)} {M : Nat → Option Chunk} {n : Nat}, M b1 = some (.cells 62 cs 8) → cs[off]? = some x → X x ⟨F, M, n⟩ → ld false 1 (.pointer (some ⟨b1, off, none⟩)) X ⟨F, M, n⟩ := fun off x X F M n hM hx hX => ldM (v := x) hX hM hx
    try simp only [sS]
    refine lo 1 (.int .u32 o.at') hb6 (by rw [hcs]; rfl) ?_
    refine lo 4 cf hb6 (by rw [hcs]; rfl) ?_
    have hlt6 := hB6.lt hm6
    refine add_to_c hB6.c (by omega) (by omega) hB6.o.le hta.1 (hf.mono F06) ok.fl (fun hv7 F7 M7 N7 rows7 hF7 hC7 hM7 hN7 hm7 hw7 => ?_)
    obtain ⟨z1, z2⟩ := hM7 b1 hvb (by omega) (by omega)
    obtain ⟨y1, y2⟩ := hM7 g2 hB6.n2 hB6.n1 (hlt6 g2 (.inr (.inl rfl)))
    by_cases e0 : addE l h o.at' o.facts = 0
    · rw [e0]
      refine neq_f rfl ?_
      try simp only [sS]
      refine eql_t rfl ?_
      try simp only [sS]
      exact fun hc => ⟨_, wk_refl hc, fun _ => k _⟩
    · have eh : addH l h o.at' o.facts = h := by unfold addH; rw [if_neg e0]
      rw [eh] at hC7
      have hB7 : both F7 M7 N3 g g2 hv7 dv rows7 dv2 lv2 l h := ⟨hC7, hB6.r.keep hF7 y1, hB6.o, hB6.n1, y2⟩
      have hb7 := z1.trans hb6
      refine neq_t (by omega) ?_
      try simp only [sS]
      refine same_ents hB7 hgd (fun _ _ F8 N8 hw8 hF8 hN8 => ?_)
      try simp only [sS]
      refine eql_f (by omega) ?_
      try simp only [sS]
      refine lo 5 (.int .u16 o.fr) hb7 (by rw [hcs]; rfl) ?_
      refine w64 (by omega) (by omega) ?_
      refine lo 6 (.int .u16 o.to) hb7 (by rw [hcs]; rfl) ?_
      refine w64 (by omega) (by omega) ?_
      refine lo 7 cL hb7 (by rw [hcs]; rfl) ?_
      have hB8 := hB7.keep (M' := M7) hF8 (fun _ _ => rfl)
      refine creplace_c hB8.c (by omega) hB8.o (by omega) (((hL.mono F06).mono hF7).mono hF8) ok.ll (fun e he => (ok.lt e he).2) (fun hv9 F9' M9' N9' rows9 hF9 hC9 hM9' hN9 hm9' hw9 => ?_)
      obtain ⟨x1, x2⟩ := hM9' g2 hB8.n2 hB8.n1 (by have := hB7.lt hm7 g2 (.inr (.inl rfl)); omega)
      by_cases e1 : replE l o.fr o.to h o.L = 0
      · rw [e1]
        refine eql_t rfl ?_
        try simp only [sS]
        exact fun hc => ⟨_, wk_refl hc, fun _ => k _⟩
      · have eh2 : replF l o.fr o.to h o.L = h := by unfold replF; rw [if_neg e1]
        rw [eh2] at hC9
        have hB9 : both F9' M9' N3 g g2 hv9 dv rows9 dv2 lv2 l h := ⟨hC9, hB8.r.keep hF9 x1, hB8.o, hB8.n1, x2⟩
        refine eql_f (by omega) ?_
        try simp only [sS]
        refine same_ents hB9 hgd (fun _ _ F10 N10 hw10 hF10 hN10 => ?_)
        try simp only [sS]
        exact fun hc => ⟨_, wk_refl hc, fun _ => k _⟩
end Go.Proofs.YtgjdjdjhoipfmaaGreatDoor.A
open Go Go.RowKit Go.Proofs.YtgjdjdjhoipfmaaGreatDoor.K
set_option linter.unusedVariables false
set_option maxRecDepth 100000
namespace Go.Proofs.YtgjdjdjhoipfmaaGreatDoor.T
section
variable (K : Kont) (E : PanK) (k1 k2 k3 k4 k5 : Env → Hp → Prop) (x0 x1 x2 x3 x4 x5 x6 x7 x8 x9 x10 x11 x12 x13 x14 x15 x16 x17 x18 x19 x20 x21 x22 x23 x24 x25 x26 x27 x28 x29 x30 x31 x32 x33 x34 x35 x36 x37 x38 x39 x40 x41 x42 x43 x44 x45 x46 x47 x48 x49 x50 x51 x52 x53 x54 x55 x56 x57 x58 x59 x60 x61 x62 x63 x64 x65 x66 x67 x68 x69 x70 x71 x72 x73 x74 x75 x76 x77 x78 x79 x80 x81 x82 x83 x84 x85 x86 x87 x88 x89 x90 x91 x92 x93 x94 x95 x96 x97 x98 x99 x100 x101 x102 x103 x104 x105 x106 x107 x108 x109 x110 x111 x112 x113 x114 x115 x116 x117 x118 x119 x120 x121 x122 x123 x124 x125 x126 x127 x128 x129 x130 x131 x132 x133 v0 v1 v2 v3 v4 v5 v6 v7 v8 v9 v10 v11 v12 v13 v14 v15 v16 v17 v18 v19 v20 v21 v22 v23 v24 v25 v26 v27 v28 v29 v30 v31 v32 v33 v34 v35 v36 v37 v38 v39 v40 v41 v42 v43 v44 v45 v46 v47 v48 v49 v50 v51 v52 v53 v54 v55 v56 v57 v58 v59 v60 v61 v62 v63 v64 v65 v66 v67 v68 v69 v70 v71 v72 v73 v74 v75 v76 v77 v78 v79 v80 v81 v82 v83 v84 v85 v86 v87 v88 v89 v90 v91 v92 v93 v94 v95 v96 v97 v98 v99 v100 v101 v102 v103 v104 v105 v106 v107 v108 v109 v110 v111 v112 v113 v114 v115 v116 v117 v118 v119 v120 v121 v122 v123 v124 v125 v126 v127 v128 v129 v130 v131 v132 v133 : Value) (j : Nat → Value)
abbrev q7 : QD := bodyQ Tryz.prog Tryz.f7.results.toList K E
abbrev d7 (p : List Nat) : QD → Env → Hp → Prop := den Tryz.prog (sel (bodyOf Tryz.f7) p)
end
section
variable {K : Kont} {E : PanK} {k1 k2 k3 k4 k5 : Env → Hp → Prop} {σ : Type} {x0 x1 x2 x3 x4 x5 x6 x7 x8 x9 x10 x11 x12 x13 x14 x15 x16 x17 x18 x19 x20 x21 x22 x23 x24 x25 x26 x27 x28 x29 x30 x31 x32 x33 x34 x35 x36 x37 x38 x39 x40 x41 x42 x43 x44 x45 x46 x47 x48 x49 x50 x51 x52 x53 x54 x55 x56 x57 x58 x59 x60 x61 x62 x63 x64 x65 x66 x67 x68 x69 x70 x71 x72 x73 x74 x75 x76 x77 x78 x79 x80 x81 x82 x83 x84 x85 x86 x87 x88 x89 x90 x91 x92 x93 x94 x95 x96 x97 x98 x99 x100 x101 x102 x103 x104 x105 x106 x107 x108 x109 x110 x111 x112 x113 x114 x115 x116 x117 x118 x119 x120 x121 x122 x123 x124 x125 x126 x127 x128 x129 x130 x131 x132 x133 v0 v1 v2 v3 v4 v5 v6 v7 v8 v9 v10 v11 v12 v13 v14 v15 v16 v17 v18 v19 v20 v21 v22 v23 v24 v25 v26 v27 v28 v29 v30 v31 v32 v33 v34 v35 v36 v37 v38 v39 v40 v41 v42 v43 v44 v45 v46 v47 v48 v49 v50 v51 v52 v53 v54 v55 v56 v57 v58 v59 v60 v61 v62 v63 v64 v65 v66 v67 v68 v69 v70 v71 v72 v73 v74 v75 v76 v77 v78 v79 v80 v81 v82 v83 v84 v85 v86 v87 v88 v89 v90 v91 v92 v93 v94 v95 v96 v97 v98 v99 v100 v101 v102 v103 v104 v105 v106 v107 v108 v109 v110 v111 v112 v113 v114 v115 v116 v117 v118 v119 v120 v121 v122 v123 v124 v125 v126 v127 v128 v129 v130 v131 v132 v133 : Value} {h : Hp} {j : Nat → Value}
end
end Go.Proofs.YtgjdjdjhoipfmaaGreatDoor.T
open Go Go.RowKit Go.Proofs.YtgjdjdjhoipfmaaGreatDoor.K Go.Proofs.YtgjdjdjhoipfmaaGreatDoor.T
set_option linter.unusedVariables false
set_option linter.unusedSimpArgs false
namespace Go.Proofs.YtgjdjdjhoipfmaaGreatDoor.A
variable {F F' : Nat → Option (List Value)} {M M' : Nat → Option Chunk} {N N' : Nat} {K : Kont} {E : PanK}
end Go.Proofs.YtgjdjdjhoipfmaaGreatDoor.A
open Go Go.RowKit Go.Proofs.YtgjdjdjhoipfmaaGreatDoor.K
set_option linter.unusedVariables false
set_option maxRecDepth 100000
namespace Go.Proofs.YtgjdjdjhoipfmaaGreatDoor.T
section
variable (K : Kont) (E : PanK) (k1 k2 k3 k4 k5 : Env → Hp → Prop) (x0 x1 x2 x3 x4 x5 x6 x7 x8 x9 x10 x11 x12 x13 x14 x15 x16 x17 x18 x19 x20 x21 x22 x23 x24 x25 x26 x27 x28 x29 x30 x31 x32 x33 x34 x35 x36 x37 x38 x39 x40 x41 x42 x43 x44 x45 x46 x47 x48 x49 x50 x51 x52 x53 x54 x55 x56 x57 x58 x59 x60 x61 x62 x63 x64 x65 x66 x67 x68 x69 x70 x71 x72 x73 x74 x75 x76 x77 x78 x79 x80 x81 x82 x83 x84 x85 x86 x87 x88 x89 x90 x91 x92 x93 x94 x95 x96 x97 x98 x99 x100 x101 x102 x103 x104 x105 x106 x107 x108 x109 x110 x111 x112 x113 x114 x115 x116 x117 x118 x119 x120 x121 x122 x123 x124 x125 x126 x127 x128 x129 x130 x131 x132 x133 x134 x135 x136 x137 x138 x139 x140 x141 x142 x143 x144 x145 x146 x147 x148 x149 x150 x151 x152 x153 x154 x155 x156 x157 x158 x159 x160 x161 x162 x163 x164 x165 x166 x167 x168 x169 x170 x171 x172 x173 x174 x175 x176 v0 v1 v2 v3 v4 v5 v6 v7 v8 v9 v10 v11 v12 v13 v14 v15 v16 v17 v18 v19 v20 v21 v22 v23 v24 v25 v26 v27 v28 v29 v30 v31 v32 v33 v34 v35 v36 v37 v38 v39 v40 v41 v42 v43 v44 v45 v46 v47 v48 v49 v50 v51 v52 v53 v54 v55 v56 v57 v58 v59 v60 v61 v62 v63 v64 v65 v66 v67 v68 v69 v70 v71 v72 v73 v74 v75 v76 v77 v78 v79 v80 v81 v82 v83 v84 v85 v86 v87 v88 v89 v90 v91 v92 v93 v94 v95 v96 v97 v98 v99 v100 v101 v102 v103 v104 v105 v106 v107 v108 v109 v110 v111 v112 v113 v114 v115 v116 v117 v118 v119 v120 v121 v122 v123 v124 v125 v126 v127 v128 v129 v130 v131 v132 v133 v134 v135 v136 v137 v138 v139 v140 v141 v142 v143 v144 v145 v146 v147 v148 v149 v150 v151 v152 v153 v154 v155 v156 v157 v158 v159 v160 v161 v162 v163 v164 v165 v166 v167 v168 v169 v170 v171 v172 v173 v174 v175 v176 : Value) (j : Nat → Value)
abbrev q9 : QD := bodyQ Tryz.prog Tryz.f9.results.toList K E
abbrev d9 (p : List Nat) : QD → Env → Hp → Prop := den Tryz.prog (sel (bodyOf Tryz.f9) p)
def m9_1_1_1_1_1_1_1_1_0_1_0_0 (j : Nat → Value) : Env := #[x0, x1, x2, x3, x4, x5, x6, x7, x8, x9, x10, x11, x12, x13, x14, x15, x16, x17, x18, x19, v20, x21, x22, x23, x24, x25, x26, x27, x28, x29, x30, x31, x32, x33, x34, x35, x36, x37, x38, x39, x40, x41, x42, x43, x44, x45, x46, x47, x48, x49, x50, x51, x52, x53, x54, x55, x56, x57, x58, x59, x60, x61, x62, x63, x64, x65, x66, x67, x68, x69, x70, x71, x72, x73, x74, (j 75), (j 76), (j 77), (j 78), (j 79), (j 80), (j 81), (j 82), (j 83), (j 84), (j 85), (j 86), (j 87), (j 88), x89, x90, x91, x92, x93, x94, x95, x96, x97, x98, x99, x100, x101, x102, x103, x104, x105, x106, x107, x108, x109, x110, x111, x112, x113, x114, x115, x116, x117, x118, x119, x120, x121, x122, x123, x124, x125, x126, x127, x128, x129, x130, x131, x132, x133, x134, x135, x136, x137, x138, x139, x140, x141, x142, x143, x144, x145, x146, x147, x148, x149, x150, x151, x152, x153, x154, x155, x156, x157, x158, x159, x160, x161, x162, x163, x164, x165, x166, x167, x168, x169, x170, x171, x172, x173, x174, x175, x176]
def m9_1_1_1_1_1_1_1_1_1_0_1_0_0 (j : Nat → Value) : Env := #[x0, x1, x2, x3, x4, x5, x6, x7, x8, x9, x10, x11, x12, x13, x14, x15, x16, x17, x18, x19, x20, v21, x22, x23, x24, x25, x26, x27, x28, x29, x30, x31, x32, x33, x34, x35, x36, x37, x38, x39, x40, x41, x42, x43, x44, x45, x46, x47, x48, x49, x50, x51, x52, x53, x54, x55, x56, x57, x58, x59, x60, x61, x62, x63, x64, x65, x66, x67, x68, x69, x70, x71, x72, x73, x74, x75, x76, x77, x78, x79, x80, x81, x82, x83, x84, x85, x86, x87, x88, (j 89), (j 90), (j 91), (j 92), (j 93), (j 94), (j 95), (j 96), (j 97), (j 98), (j 99), (j 100), (j 101), (j 102), x103, x104, x105, x106, x107, x108, x109, x110, x111, x112, x113, x114, x115, x116, x117, x118, x119, x120, x121, x122, x123, x124, x125, x126, x127, x128, x129, x130, x131, x132, x133, x134, x135, x136, x137, x138, x139, x140, x141, x142, x143, x144, x145, x146, x147, x148, x149, x150, x151, x152, x153, x154, x155, x156, x157, x158, x159, x160, x161, x162, x163, x164, x165, x166, x167, x168, x169, x170, x171, x172, x173, x174, x175, x176]
theorem t9 : d9 [] (q9 K E) #[x0, x1, x2, x3, x4, x5, x6, U, U, U, U, U, U, U, U, U, U, U, U, U, U, U, U, U, U, U, U, U, U, U, U, U, U, U, U, U, U, U, U, U, U, U, U, U, U, U, U, U, U, U, U, U, U, U, U, U, U, U, U, U, U, U, U, U, U, U, U, U, U, U, U, U, U, U, U, U, U, U, U, U, U, U, U, U, U, U, U, U, U, U, U, U, U, U, U, U, U, U, U, U, U, U, U, U, U, U, U, U, U, U, U, U, U, U, U, U, U, U, U, U, U, U, U, U, U, U, U, U, U, U, U, U, U, U, U, U, U, U, U, U, U, U, U, U, U, U, U, U, U, U, U, U, U, U, U, U, U, U, U, U, U, U, U, U, U, U, U, U, U, U, U, U, U, U, U, U, U] =
  pv (lenV x1) fun t1 =>
  pv (binV .none .gtr t1 (.int .i64 20)) fun t2 =>
  gdK t2 false (fun k => k x2) fun t3 =>
  gdK t2 false (fun k => pv (lenV t3) k) fun t4 =>
  gdK t2 false (fun k => pv (binV .none .gtr t4 (.int .i64 20)) k) fun t5 =>
  pv (pickV t2 (.bool true) t5) fun t6 =>
  gdK t6 false (fun k => k x1) fun t7 =>
  gdK t6 false (fun k => callv Tryz.prog (.func (.func 21) #[] #[]) #[t7] k E) fun t8 =>
  gdK t6 false (fun k => pv (binV .none .gtr t8 (.int .i64 300)) k) fun t9 =>
  pv (pickV t6 (.bool true) t9) fun t10 =>
  gdK t10 false (fun k => k x2) fun t11 =>
  gdK t10 false (fun k => callv Tryz.prog (.func (.func 21) #[] #[]) #[t11] k E) fun t12 =>
  gdK t10 false (fun k => pv (binV .none .gtr t12 (.int .i64 300)) k) fun t13 =>
  pv (pickV t10 (.bool true) t13) fun t14 =>
  gdK t14 false (fun k => callv Tryz.prog (.func (.func 11) #[] #[]) #[] k E) fun t15 =>
  gdK t14 false (fun k => pv (unV .not t15) k) fun t16 =>
  pv (pickV t14 (.bool true) t16) fun t17 =>
  cnd t17 (
   callv Tryz.prog (.func (.func 11) #[] #[]) #[] (fun t18 =>
   K t18) E) (
   callv Tryz.prog (.func (.func 12) #[] #[]) #[x0] (fun t19 =>
   callv Tryz.prog (.func (.func 13) #[] #[]) #[t19] (fun t20 =>
   callv Tryz.prog (.func (.func 22) #[] #[]) #[t19] (fun t21 =>
   callv Tryz.prog (.func (.func 13) #[] #[]) #[t19] (fun t22 =>
   callv Tryz.prog (.func (.func 22) #[] #[]) #[t19] (fun t23 =>
   pv (binV .ptr .eql t20 (.pointer none)) fun t24 =>
   gdK t24 false (fun k => k t21) fun t25 =>
   gdK t24 false (fun k => pv (binV .ptr .eql t25 (.pointer none)) k) fun t26 =>
   pv (pickV t24 (.bool true) t26) fun t27 =>
   gdK t27 false (fun k => k t22) fun t28 =>
   gdK t27 false (fun k => pv (binV .ptr .eql t28 (.pointer none)) k) fun t29 =>
   pv (pickV t27 (.bool true) t29) fun t30 =>
   gdK t30 false (fun k => k t23) fun t31 =>
   gdK t30 false (fun k => pv (binV .ptr .eql t31 (.pointer none)) k) fun t32 =>
   pv (pickV t30 (.bool true) t32) fun t33 =>
   cnd t33 (
    K (.bool false)) (
    lp (fun k1 => d9 [1, 1, 1, 1, 1, 1, 1, 1, 0, 1, 0, 0] (thenD k1 (blk 0 (thenD (d9 [1, 1, 1, 1, 1, 1, 1, 1, 1] (q9 K E)) (q9 K E))))) (m9_1_1_1_1_1_1_1_1_0_1_0_0 x0 x1 x2 x3 x4 x5 x6 U U U U U U U (.bool false) t19 t20 t21 t22 t23 U U U U U U U x1 t1 t2 t2 t3 t4 t5 t6 t6 t7 t8 t9 t10 t10 t11 t12 t13 t14 t14 t15 t16 t17 U x0 t19 t19 t20 t19 t21 t19 t22 t19 t23 t20 t24 t24 t25 t26 t27 t27 t28 t29 t30 t30 t31 t32 t33 U U U U U U U U U U U U U U U U U U U U U U U U U U U U U U U U U U U U U U U U U U U U U U U U U U U U U U U U U U U U U U U U U U U U U U U U U U U U U U U U U U U U U U U U (.int .i64 0) (jf #[])))) E) E) E) E) E) := by kernel_rfl
theorem t9_1_1_1_1_1_1_1_1_0_1_0_0 : d9 [1, 1, 1, 1, 1, 1, 1, 1, 0, 1, 0, 0] (thenD k1 (blk 0 (thenD (d9 [1, 1, 1, 1, 1, 1, 1, 1, 1] (q9 K E)) (q9 K E)))) (m9_1_1_1_1_1_1_1_1_0_1_0_0 x0 x1 x2 x3 x4 x5 x6 x7 x8 x9 x10 x11 x12 x13 x14 x15 x16 x17 x18 x19 x21 x22 x23 x24 x25 x26 x27 x28 x29 x30 x31 x32 x33 x34 x35 x36 x37 x38 x39 x40 x41 x42 x43 x44 x45 x46 x47 x48 x49 x50 x51 x52 x53 x54 x55 x56 x57 x58 x59 x60 x61 x62 x63 x64 x65 x66 x67 x68 x69 x70 x71 x72 x73 x74 x89 x90 x91 x92 x93 x94 x95 x96 x97 x98 x99 x100 x101 x102 x103 x104 x105 x106 x107 x108 x109 x110 x111 x112 x113 x114 x115 x116 x117 x118 x119 x120 x121 x122 x123 x124 x125 x126 x127 x128 x129 x130 x131 x132 x133 x134 x135 x136 x137 x138 x139 x140 x141 x142 x143 x144 x145 x146 x147 x148 x149 x150 x151 x152 x153 x154 x155 x156 x157 x158 x159 x160 x161 x162 x163 x164 x165 x166 x167 x168 x169 x170 x171 x172 x173 x174 x175 x176 v20 j) =
  pv (lenV x1) fun t1 =>
  pv (binV .none .lss v20 t1) fun t2 =>
  cnd t2 (
   pv (iaV none 8 x1 v20) fun t3 =>
   ld true 8 t3 fun t4 =>
   callv Tryz.prog (.func (.func 23) #[] #[]) #[x16, x17, x15, t4] (fun t5 =>
   pv (binV .none .add v20 (.int .i64 1)) fun t6 =>
   k1 (m9_1_1_1_1_1_1_1_1_0_1_0_0 x0 x1 x2 x3 x4 x5 x6 x7 x8 x9 x10 x11 x12 x13 x14 x15 x16 x17 x18 x19 x21 x22 x23 x24 x25 x26 x27 x28 x29 x30 x31 x32 x33 x34 x35 x36 x37 x38 x39 x40 x41 x42 x43 x44 x45 x46 x47 x48 x49 x50 x51 x52 x53 x54 x55 x56 x57 x58 x59 x60 x61 x62 x63 x64 x65 x66 x67 x68 x69 x70 x71 x72 x73 x74 x89 x90 x91 x92 x93 x94 x95 x96 x97 x98 x99 x100 x101 x102 x103 x104 x105 x106 x107 x108 x109 x110 x111 x112 x113 x114 x115 x116 x117 x118 x119 x120 x121 x122 x123 x124 x125 x126 x127 x128 x129 x130 x131 x132 x133 x134 x135 x136 x137 x138 x139 x140 x141 x142 x143 x144 x145 x146 x147 x148 x149 x150 x151 x152 x153 x154 x155 x156 x157 x158 x159 x160 x161 x162 x163 x164 x165 x166 x167 x168 x169 x170 x171 x172 x173 x174 x175 x176 t6 (jf #[U, U, U, U, U, U, U, U, U, U, U, U, U, U, U, U, U, U, U, U, U, U, U, U, U, U, U, U, U, U, U, U, U, U, U, U, U, U, U, U, U, U, U, U, U, U, U, U, U, U, U, U, U, U, U, U, U, U, U, U, U, U, U, U, U, U, U, U, U, U, U, U, U, U, U, v20, x1, t1, t2, v20, t6, x16, x17, x15, x1, v20, t3, t4, t5]))) E) (
   lp (fun k1 => d9 [1, 1, 1, 1, 1, 1, 1, 1, 1, 0, 1, 0, 0] (thenD k1 (blk 2 (thenD (d9 [1, 1, 1, 1, 1, 1, 1, 1, 1, 1] (q9 K E)) (q9 K E))))) (m9_1_1_1_1_1_1_1_1_1_0_1_0_0 x0 x1 x2 x3 x4 x5 x6 x7 x8 x9 x10 x11 x12 x13 x14 x15 x16 x17 x18 x19 v20 x22 x23 x24 x25 x26 x27 x28 x29 x30 x31 x32 x33 x34 x35 x36 x37 x38 x39 x40 x41 x42 x43 x44 x45 x46 x47 x48 x49 x50 x51 x52 x53 x54 x55 x56 x57 x58 x59 x60 x61 x62 x63 x64 x65 x66 x67 x68 x69 x70 x71 x72 x73 x74 v20 x1 t1 t2 (j 79) (j 80) (j 81) (j 82) (j 83) (j 84) (j 85) (j 86) (j 87) (j 88) x103 x104 x105 x106 x107 x108 x109 x110 x111 x112 x113 x114 x115 x116 x117 x118 x119 x120 x121 x122 x123 x124 x125 x126 x127 x128 x129 x130 x131 x132 x133 x134 x135 x136 x137 x138 x139 x140 x141 x142 x143 x144 x145 x146 x147 x148 x149 x150 x151 x152 x153 x154 x155 x156 x157 x158 x159 x160 x161 x162 x163 x164 x165 x166 x167 x168 x169 x170 x171 x172 x173 x174 x175 x176 (.int .i64 0) (jf #[U, U, U, U, U, U, U, U, U, U, U, U, U, U, U, U, U, U, U, U, U, U, U, U, U, U, U, U, U, U, U, U, U, U, U, U, U, U, U, U, U, U, U, U, U, U, U, U, U, U, U, U, U, U, U, U, U, U, U, U, U, U, U, U, U, U, U, U, U, U, U, U, U, U, U, U, U, U, U, U, U, U, U, U, U, U, U, U, U, x89, x90, x91, x92, x93, x94, x95, x96, x97, x98, x99, x100, x101, x102]))) := by kernel_rfl
theorem t9_1_1_1_1_1_1_1_1_1_0_1_0_0 : d9 [1, 1, 1, 1, 1, 1, 1, 1, 1, 0, 1, 0, 0] (thenD k1 (blk 2 (thenD (d9 [1, 1, 1, 1, 1, 1, 1, 1, 1, 1] (q9 K E)) (q9 K E)))) (m9_1_1_1_1_1_1_1_1_1_0_1_0_0 x0 x1 x2 x3 x4 x5 x6 x7 x8 x9 x10 x11 x12 x13 x14 x15 x16 x17 x18 x19 x20 x22 x23 x24 x25 x26 x27 x28 x29 x30 x31 x32 x33 x34 x35 x36 x37 x38 x39 x40 x41 x42 x43 x44 x45 x46 x47 x48 x49 x50 x51 x52 x53 x54 x55 x56 x57 x58 x59 x60 x61 x62 x63 x64 x65 x66 x67 x68 x69 x70 x71 x72 x73 x74 x75 x76 x77 x78 x79 x80 x81 x82 x83 x84 x85 x86 x87 x88 x103 x104 x105 x106 x107 x108 x109 x110 x111 x112 x113 x114 x115 x116 x117 x118 x119 x120 x121 x122 x123 x124 x125 x126 x127 x128 x129 x130 x131 x132 x133 x134 x135 x136 x137 x138 x139 x140 x141 x142 x143 x144 x145 x146 x147 x148 x149 x150 x151 x152 x153 x154 x155 x156 x157 x158 x159 x160 x161 x162 x163 x164 x165 x166 x167 x168 x169 x170 x171 x172 x173 x174 x175 x176 v21 j) =
  pv (lenV x2) fun t1 =>
  pv (binV .none .lss v21 t1) fun t2 =>
  cnd t2 (
   pv (iaV none 8 x2 v21) fun t3 =>
   ld true 8 t3 fun t4 =>
   callv Tryz.prog (.func (.func 23) #[] #[]) #[x18, x19, x15, t4] (fun t5 =>
   pv (binV .none .add v21 (.int .i64 1)) fun t6 =>
   k1 (m9_1_1_1_1_1_1_1_1_1_0_1_0_0 x0 x1 x2 x3 x4 x5 x6 x7 x8 x9 x10 x11 x12 x13 x14 x15 x16 x17 x18 x19 x20 x22 x23 x24 x25 x26 x27 x28 x29 x30 x31 x32 x33 x34 x35 x36 x37 x38 x39 x40 x41 x42 x43 x44 x45 x46 x47 x48 x49 x50 x51 x52 x53 x54 x55 x56 x57 x58 x59 x60 x61 x62 x63 x64 x65 x66 x67 x68 x69 x70 x71 x72 x73 x74 x75 x76 x77 x78 x79 x80 x81 x82 x83 x84 x85 x86 x87 x88 x103 x104 x105 x106 x107 x108 x109 x110 x111 x112 x113 x114 x115 x116 x117 x118 x119 x120 x121 x122 x123 x124 x125 x126 x127 x128 x129 x130 x131 x132 x133 x134 x135 x136 x137 x138 x139 x140 x141 x142 x143 x144 x145 x146 x147 x148 x149 x150 x151 x152 x153 x154 x155 x156 x157 x158 x159 x160 x161 x162 x163 x164 x165 x166 x167 x168 x169 x170 x171 x172 x173 x174 x175 x176 t6 (jf #[U, U, U, U, U, U, U, U, U, U, U, U, U, U, U, U, U, U, U, U, U, U, U, U, U, U, U, U, U, U, U, U, U, U, U, U, U, U, U, U, U, U, U, U, U, U, U, U, U, U, U, U, U, U, U, U, U, U, U, U, U, U, U, U, U, U, U, U, U, U, U, U, U, U, U, U, U, U, U, U, U, U, U, U, U, U, U, U, U, v21, x2, t1, t2, v21, t6, x18, x19, x15, x2, v21, t3, t4, t5]))) E) (
   callv Tryz.prog (.func (.func 14) #[] #[]) #[x15, x3, x4, x5] (fun t7 =>
   nw 36 [(.slice none 0 0), (.slice none 0 0), (.slice none 0 0)] fun t8 =>
   st 3 t8 t7 fun _ =>
   pv (faV 1 t8) fun t9 =>
   ld false 1 t9 fun t10 =>
   pv (iaV none 1 t10 (.int .i64 0)) fun t11 =>
   ld false 1 t11 fun t12 =>
   pv (faV 2 t8) fun t13 =>
   ld false 1 t13 fun t14 =>
   pv (iaV none 1 t14 (.int .i64 0)) fun t15 =>
   ld false 1 t15 fun t16 =>
   pv (faV 1 t8) fun t17 =>
   ld false 1 t17 fun t18 =>
   pv (iaV none 1 t18 (.int .i64 0)) fun t19 =>
   ld false 1 t19 fun t20 =>
   pv (faV 2 t8) fun t21 =>
   ld false 1 t21 fun t22 =>
   pv (iaV none 1 t22 (.int .i64 0)) fun t23 =>
   ld false 1 t23 fun t24 =>
   callv Tryz.prog (.func (.func 19) #[] #[]) #[x16, t20, t24] (fun t25 h26 => (ldV h26 false 1 t15 t16) ∧ (ldV h26 false 1 t13 t14) ∧ (ldV h26 false 1 t11 t12) ∧ (ldV h26 false 1 t9 t10) ∧ (
    callv Tryz.prog (.func (.func 26) #[] #[]) #[x18, t12, t16, t25] (fun t27 =>
    pv (binV .none .neq t27 (.int .u16 0)) fun t28 =>
    cnd t28 (
     pv (binV .none .eql t27 (.int .u16 3)) fun t29 =>
     K t29) (
     ld true 3 t8 fun t30 =>
     callv Tryz.prog (.func (.func 17) #[] #[]) #[x16, t30, x6] (fun t31 =>
     pv (exV 0 t31) fun t32 =>
     pv (exV 1 t31) fun t33 =>
     ld true 3 t8 fun t34 =>
     callv Tryz.prog (.func (.func 17) #[] #[]) #[x18, t34, x6] (fun t35 =>
     pv (exV 0 t35) fun t36 =>
     pv (exV 1 t35) fun t37 =>
     pv (binV .none .eql t33 t37) fun t38 =>
     gdK t38 true (fun k => k t32) fun t39 =>
     gdK t38 true (fun k => k t36) fun t40 =>
     gdK t38 true (fun k => callv Tryz.prog (.func (.func 18) #[] #[]) #[t39, t40] k E) fun t41 =>
     pv (pickV t38 t41 (.bool false)) fun t42 =>
     gdK t42 true (fun k => k x18) fun t43 =>
     gdK t42 true (fun k => pv (faV 1 t8) k) fun t44 =>
     gdK t42 true (fun k => ld false 1 t44 k) fun t45 =>
     gdK t42 true (fun k => pv (iaV none 1 t45 (.int .i64 0)) k) fun t46 =>
     gdK t42 true (fun k => ld false 1 t46 k) fun t47 =>
     gdK t42 true (fun k => pv (faV 2 t8) k) fun t48 =>
     gdK t42 true (fun k => ld false 1 t48 k) fun t49 =>
     gdK t42 true (fun k => pv (iaV none 1 t49 (.int .i64 0)) k) fun t50 =>
     gdK t42 true (fun k => ld false 1 t50 k) fun t51 =>
     gdK t42 true (fun k => k x16) fun t52 =>
     gdK t42 true (fun k => pv (faV 1 t8) k) fun t53 =>
     gdK t42 true (fun k => ld false 1 t53 k) fun t54 =>
     gdK t42 true (fun k => pv (iaV none 1 t54 (.int .i64 0)) k) fun t55 =>
     gdK t42 true (fun k => ld false 1 t55 k) fun t56 =>
     gdK t42 true (fun k => pv (faV 2 t8) k) fun t57 =>
     gdK t42 true (fun k => ld false 1 t57 k) fun t58 =>
     gdK t42 true (fun k => pv (iaV none 1 t58 (.int .i64 0)) k) fun t59 =>
     gdK t42 true (fun k => ld false 1 t59 k) fun t60 =>
     gdK t42 true (fun k => callv Tryz.prog (.func (.func 19) #[] #[]) #[t43, t47, t51] k E) (fun t61 h62 => (isB t42 true = true → ldV h62 false 1 t59 t60) ∧ (isB t42 true = true → ldV h62 false 1 t57 t58) ∧ (isB t42 true = true → ldV h62 false 1 t55 t56) ∧ (isB t42 true = true → ldV h62 false 1 t53 t54) ∧ (
      gdK t42 true (fun k => callv Tryz.prog (.func (.func 19) #[] #[]) #[t52, t56, t60] k E) fun t63 =>
      gdK t42 true (fun k => callv Tryz.prog (.func (.func 27) #[] #[]) #[t61, t63] k E) fun t64 =>
      pv (pickV t42 t64 (.bool false)) fun t65 =>
      K t65) h62)) E) E)) E) h26) E) E) := by kernel_rfl
end
section
variable {K : Kont} {E : PanK} {k1 k2 k3 k4 k5 : Env → Hp → Prop} {σ : Type} {x0 x1 x2 x3 x4 x5 x6 x7 x8 x9 x10 x11 x12 x13 x14 x15 x16 x17 x18 x19 x20 x21 x22 x23 x24 x25 x26 x27 x28 x29 x30 x31 x32 x33 x34 x35 x36 x37 x38 x39 x40 x41 x42 x43 x44 x45 x46 x47 x48 x49 x50 x51 x52 x53 x54 x55 x56 x57 x58 x59 x60 x61 x62 x63 x64 x65 x66 x67 x68 x69 x70 x71 x72 x73 x74 x75 x76 x77 x78 x79 x80 x81 x82 x83 x84 x85 x86 x87 x88 x89 x90 x91 x92 x93 x94 x95 x96 x97 x98 x99 x100 x101 x102 x103 x104 x105 x106 x107 x108 x109 x110 x111 x112 x113 x114 x115 x116 x117 x118 x119 x120 x121 x122 x123 x124 x125 x126 x127 x128 x129 x130 x131 x132 x133 x134 x135 x136 x137 x138 x139 x140 x141 x142 x143 x144 x145 x146 x147 x148 x149 x150 x151 x152 x153 x154 x155 x156 x157 x158 x159 x160 x161 x162 x163 x164 x165 x166 x167 x168 x169 x170 x171 x172 x173 x174 x175 x176 v0 v1 v2 v3 v4 v5 v6 v7 v8 v9 v10 v11 v12 v13 v14 v15 v16 v17 v18 v19 v20 v21 v22 v23 v24 v25 v26 v27 v28 v29 v30 v31 v32 v33 v34 v35 v36 v37 v38 v39 v40 v41 v42 v43 v44 v45 v46 v47 v48 v49 v50 v51 v52 v53 v54 v55 v56 v57 v58 v59 v60 v61 v62 v63 v64 v65 v66 v67 v68 v69 v70 v71 v72 v73 v74 v75 v76 v77 v78 v79 v80 v81 v82 v83 v84 v85 v86 v87 v88 v89 v90 v91 v92 v93 v94 v95 v96 v97 v98 v99 v100 v101 v102 v103 v104 v105 v106 v107 v108 v109 v110 v111 v112 v113 v114 v115 v116 v117 v118 v119 v120 v121 v122 v123 v124 v125 v126 v127 v128 v129 v130 v131 v132 v133 v134 v135 v136 v137 v138 v139 v140 v141 v142 v143 v144 v145 v146 v147 v148 v149 v150 v151 v152 v153 v154 v155 v156 v157 v158 v159 v160 v161 v162 v163 v164 v165 v166 v167 v168 v169 v170 v171 v172 v173 v174 v175 v176 : Value} {h : Hp} {j : Nat → Value}
theorem l9_1_1_1_1_1_1_1_1_0_1_0_0 (f20 : σ → Value) (I : σ → Hp → Prop) (μ : σ → Nat) (s0 : σ) (e20 : v20 = f20 s0) (h0 : h.wf → ∃ h', h.wk h' ∧ I s0 h')
 (round : ∀ (k1 : Env → Hp → Prop) (s : σ) (j : Nat → Value) (h : Hp), I s h → h.wf → (∀ s' j' h', μ s' < μ s → (h'.wf → ∃ h'', h'.wk h'' ∧ I s' h'') → k1 (m9_1_1_1_1_1_1_1_1_0_1_0_0 x0 x1 x2 x3 x4 x5 x6 x7 x8 x9 x10 x11 x12 x13 x14 x15 x16 x17 x18 x19 x21 x22 x23 x24 x25 x26 x27 x28 x29 x30 x31 x32 x33 x34 x35 x36 x37 x38 x39 x40 x41 x42 x43 x44 x45 x46 x47 x48 x49 x50 x51 x52 x53 x54 x55 x56 x57 x58 x59 x60 x61 x62 x63 x64 x65 x66 x67 x68 x69 x70 x71 x72 x73 x74 x89 x90 x91 x92 x93 x94 x95 x96 x97 x98 x99 x100 x101 x102 x103 x104 x105 x106 x107 x108 x109 x110 x111 x112 x113 x114 x115 x116 x117 x118 x119 x120 x121 x122 x123 x124 x125 x126 x127 x128 x129 x130 x131 x132 x133 x134 x135 x136 x137 x138 x139 x140 x141 x142 x143 x144 x145 x146 x147 x148 x149 x150 x151 x152 x153 x154 x155 x156 x157 x158 x159 x160 x161 x162 x163 x164 x165 x166 x167 x168 x169 x170 x171 x172 x173 x174 x175 x176 (f20 s') j') h') → d9 [1, 1, 1, 1, 1, 1, 1, 1, 0, 1, 0, 0] (thenD k1 (blk 0 (thenD (d9 [1, 1, 1, 1, 1, 1, 1, 1, 1] (q9 K E)) (q9 K E)))) (m9_1_1_1_1_1_1_1_1_0_1_0_0 x0 x1 x2 x3 x4 x5 x6 x7 x8 x9 x10 x11 x12 x13 x14 x15 x16 x17 x18 x19 x21 x22 x23 x24 x25 x26 x27 x28 x29 x30 x31 x32 x33 x34 x35 x36 x37 x38 x39 x40 x41 x42 x43 x44 x45 x46 x47 x48 x49 x50 x51 x52 x53 x54 x55 x56 x57 x58 x59 x60 x61 x62 x63 x64 x65 x66 x67 x68 x69 x70 x71 x72 x73 x74 x89 x90 x91 x92 x93 x94 x95 x96 x97 x98 x99 x100 x101 x102 x103 x104 x105 x106 x107 x108 x109 x110 x111 x112 x113 x114 x115 x116 x117 x118 x119 x120 x121 x122 x123 x124 x125 x126 x127 x128 x129 x130 x131 x132 x133 x134 x135 x136 x137 x138 x139 x140 x141 x142 x143 x144 x145 x146 x147 x148 x149 x150 x151 x152 x153 x154 x155 x156 x157 x158 x159 x160 x161 x162 x163 x164 x165 x166 x167 x168 x169 x170 x171 x172 x173 x174 x175 x176 (f20 s) j) h) :
 lp (fun k1 => d9 [1, 1, 1, 1, 1, 1, 1, 1, 0, 1, 0, 0] (thenD k1 (blk 0 (thenD (d9 [1, 1, 1, 1, 1, 1, 1, 1, 1] (q9 K E)) (q9 K E))))) (m9_1_1_1_1_1_1_1_1_0_1_0_0 x0 x1 x2 x3 x4 x5 x6 x7 x8 x9 x10 x11 x12 x13 x14 x15 x16 x17 x18 x19 x21 x22 x23 x24 x25 x26 x27 x28 x29 x30 x31 x32 x33 x34 x35 x36 x37 x38 x39 x40 x41 x42 x43 x44 x45 x46 x47 x48 x49 x50 x51 x52 x53 x54 x55 x56 x57 x58 x59 x60 x61 x62 x63 x64 x65 x66 x67 x68 x69 x70 x71 x72 x73 x74 x89 x90 x91 x92 x93 x94 x95 x96 x97 x98 x99 x100 x101 x102 x103 x104 x105 x106 x107 x108 x109 x110 x111 x112 x113 x114 x115 x116 x117 x118 x119 x120 x121 x122 x123 x124 x125 x126 x127 x128 x129 x130 x131 x132 x133 x134 x135 x136 x137 x138 x139 x140 x141 x142 x143 x144 x145 x146 x147 x148 x149 x150 x151 x152 x153 x154 x155 x156 x157 x158 x159 x160 x161 x162 x163 x164 x165 x166 x167 x168 x169 x170 x171 x172 x173 x174 x175 x176 v20 j) h := by
 subst e20
 exact loop_r (fun s j => m9_1_1_1_1_1_1_1_1_0_1_0_0 x0 x1 x2 x3 x4 x5 x6 x7 x8 x9 x10 x11 x12 x13 x14 x15 x16 x17 x18 x19 x21 x22 x23 x24 x25 x26 x27 x28 x29 x30 x31 x32 x33 x34 x35 x36 x37 x38 x39 x40 x41 x42 x43 x44 x45 x46 x47 x48 x49 x50 x51 x52 x53 x54 x55 x56 x57 x58 x59 x60 x61 x62 x63 x64 x65 x66 x67 x68 x69 x70 x71 x72 x73 x74 x89 x90 x91 x92 x93 x94 x95 x96 x97 x98 x99 x100 x101 x102 x103 x104 x105 x106 x107 x108 x109 x110 x111 x112 x113 x114 x115 x116 x117 x118 x119 x120 x121 x122 x123 x124 x125 x126 x127 x128 x129 x130 x131 x132 x133 x134 x135 x136 x137 x138 x139 x140 x141 x142 x143 x144 x145 x146 x147 x148 x149 x150 x151 x152 x153 x154 x155 x156 x157 x158 x159 x160 x161 x162 x163 x164 x165 x166 x167 x168 x169 x170 x171 x172 x173 x174 x175 x176 (f20 s) j) I μ round s0 j h0
theorem l9_1_1_1_1_1_1_1_1_1_0_1_0_0 (f21 : σ → Value) (I : σ → Hp → Prop) (μ : σ → Nat) (s0 : σ) (e21 : v21 = f21 s0) (h0 : h.wf → ∃ h', h.wk h' ∧ I s0 h')
 (round : ∀ (k1 : Env → Hp → Prop) (s : σ) (j : Nat → Value) (h : Hp), I s h → h.wf → (∀ s' j' h', μ s' < μ s → (h'.wf → ∃ h'', h'.wk h'' ∧ I s' h'') → k1 (m9_1_1_1_1_1_1_1_1_1_0_1_0_0 x0 x1 x2 x3 x4 x5 x6 x7 x8 x9 x10 x11 x12 x13 x14 x15 x16 x17 x18 x19 x20 x22 x23 x24 x25 x26 x27 x28 x29 x30 x31 x32 x33 x34 x35 x36 x37 x38 x39 x40 x41 x42 x43 x44 x45 x46 x47 x48 x49 x50 x51 x52 x53 x54 x55 x56 x57 x58 x59 x60 x61 x62 x63 x64 x65 x66 x67 x68 x69 x70 x71 x72 x73 x74 x75 x76 x77 x78 x79 x80 x81 x82 x83 x84 x85 x86 x87 x88 x103 x104 x105 x106 x107 x108 x109 x110 x111 x112 x113 x114 x115 x116 x117 x118 x119 x120 x121 x122 x123 x124 x125 x126 x127 x128 x129 x130 x131 x132 x133 x134 x135 x136 x137 x138 x139 x140 x141 x142 x143 x144 x145 x146 x147 x148 x149 x150 x151 x152 x153 x154 x155 x156 x157 x158 x159 x160 x161 x162 x163 x164 x165 x166 x167 x168 x169 x170 x171 x172 x173 x174 x175 x176 (f21 s') j') h') → d9 [1, 1, 1, 1, 1, 1, 1, 1, 1, 0, 1, 0, 0] (thenD k1 (blk 2 (thenD (d9 [1, 1, 1, 1, 1, 1, 1, 1, 1, 1] (q9 K E)) (q9 K E)))) (m9_1_1_1_1_1_1_1_1_1_0_1_0_0 x0 x1 x2 x3 x4 x5 x6 x7 x8 x9 x10 x11 x12 x13 x14 x15 x16 x17 x18 x19 x20 x22 x23 x24 x25 x26 x27 x28 x29 x30 x31 x32 x33 x34 x35 x36 x37 x38 x39 x40 x41 x42 x43 x44 x45 x46 x47 x48 x49 x50 x51 x52 x53 x54 x55 x56 x57 x58 x59 x60 x61 x62 x63 x64 x65 x66 x67 x68 x69 x70 x71 x72 x73 x74 x75 x76 x77 x78 x79 x80 x81 x82 x83 x84 x85 x86 x87 x88 x103 x104 x105 x106 x107 x108 x109 x110 x111 x112 x113 x114 x115 x116 x117 x118 x119 x120 x121 x122 x123 x124 x125 x126 x127 x128 x129 x130 x131 x132 x133 x134 x135 x136 x137 x138 x139 x140 x141 x142 x143 x144 x145 x146 x147 x148 x149 x150 x151 x152 x153 x154 x155 x156 x157 x158 x159 x160 x161 x162 x163 x164 x165 x166 x167 x168 x169 x170 x171 x172 x173 x174 x175 x176 (f21 s) j) h) :
 lp (fun k1 => d9 [1, 1, 1, 1, 1, 1, 1, 1, 1, 0, 1, 0, 0] (thenD k1 (blk 2 (thenD (d9 [1, 1, 1, 1, 1, 1, 1, 1, 1, 1] (q9 K E)) (q9 K E))))) (m9_1_1_1_1_1_1_1_1_1_0_1_0_0 x0 x1 x2 x3 x4 x5 x6 x7 x8 x9 x10 x11 x12 x13 x14 x15 x16 x17 x18 x19 x20 x22 x23 x24 x25 x26 x27 x28 x29 x30 x31 x32 x33 x34 x35 x36 x37 x38 x39 x40 x41 x42 x43 x44 x45 x46 x47 x48 x49 x50 x51 x52 x53 x54 x55 x56 x57 x58 x59 x60 x61 x62 x63 x64 x65 x66 x67 x68 x69 x70 x71 x72 x73 x74 x75 x76 x77 x78 x79 x80 x81 x82 x83 x84 x85 x86 x87 x88 x103 x104 x105 x106 x107 x108 x109 x110 x111 x112 x113 x114 x115 x116 x117 x118 x119 x120 x121 x122 x123 x124 x125 x126 x127 x128 x129 x130 x131 x132 x133 x134 x135 x136 x137 x138 x139 x140 x141 x142 x143 x144 x145 x146 x147 x148 x149 x150 x151 x152 x153 x154 x155 x156 x157 x158 x159 x160 x161 x162 x163 x164 x165 x166 x167 x168 x169 x170 x171 x172 x173 x174 x175 x176 v21 j) h := by
 subst e21
 exact loop_r (fun s j => m9_1_1_1_1_1_1_1_1_1_0_1_0_0 x0 x1 x2 x3 x4 x5 x6 x7 x8 x9 x10 x11 x12 x13 x14 x15 x16 x17 x18 x19 x20 x22 x23 x24 x25 x26 x27 x28 x29 x30 x31 x32 x33 x34 x35 x36 x37 x38 x39 x40 x41 x42 x43 x44 x45 x46 x47 x48 x49 x50 x51 x52 x53 x54 x55 x56 x57 x58 x59 x60 x61 x62 x63 x64 x65 x66 x67 x68 x69 x70 x71 x72 x73 x74 x75 x76 x77 x78 x79 x80 x81 x82 x83 x84 x85 x86 x87 x88 x103 x104 x105 x106 x107 x108 x109 x110 x111 x112 x113 x114 x115 x116 x117 x118 x119 x120 x121 x122 x123 x124 x125 x126 x127 x128 x129 x130 x131 x132 x133 x134 x135 x136 x137 x138 x139 x140 x141 x142 x143 x144 x145 x146 x147 x148 x149 x150 x151 x152 x153 x154 x155 x156 x157 x158 x159 x160 x161 x162 x163 x164 x165 x166 x167 x168 x169 x170 x171 x172 x173 x174 x175 x176 (f21 s) j) I μ round s0 j h0
end
end Go.Proofs.YtgjdjdjhoipfmaaGreatDoor.T
open Go Go.RowKit Go.Proofs.YtgjdjdjhoipfmaaGreatDoor.K Go.Proofs.YtgjdjdjhoipfmaaGreatDoor.T
set_option linter.unusedVariables false
set_option linter.unusedSimpArgs false
namespace Go.Proofs.YtgjdjdjhoipfmaaGreatDoor.A
variable {F F' : Nat → Option (List Value)} {M M' : Nat → Option Chunk} {N N' : Nat} {K : Kont} {E : PanK}
theorem run_cut {l : List Dm} {s t : List Rw} {L1 L2 : List KV} {m lo hi : List Int} (hs : goodT l s L1) (ht : goodT l t L2) (e : cutF lo hi s = cutF lo hi t) : runE l s m lo hi = runE l t m lo hi ∧ runT l s m lo hi = runT l t m lo hi := by
  have er : runRows l s m lo hi = runRows l t m lo hi := by unfold runRows; rw [e]
  have ee : runE l s m lo hi = runE l t m lo hi := by unfold runE; rw [hs.sound, ht.sound, er]
  exact ⟨ee, by unfold runT; rw [ee, er]⟩
theorem goodT_of {l : List Dm} (hl : goodDims l) {A : List Fc} (h1 : ∀ f ∈ A, inF l f.1 = true) (h2 : ∀ f ∈ A, i64 f.2) (h3 : A.length ≤ 1000000000) : goodT l (tab (A.map fr1)) (A.map kvF) := by
  refine ⟨tabF_hasAt h2 (by omega), tab_srt _, fun x hx => ?_, fun x hx y hy => ?_⟩
  · obtain ⟨f, hf, rfl⟩ := List.mem_map.1 hx
    exact inF_okK hl (h1 f hf)
  · obtain ⟨f, hf, rfl⟩ := List.mem_map.1 hx
    simp [kvF] at hy
    rw [hy]; exact h2 f hf
theorem within_inR {lo hi : List Int} (h0 : 0 < lo.length) {f : Fc} (h : withinF lo hi f.1 = true) : inR (lo.getD 0 0) (hi.getD 0 0) f = true := by
  unfold withinF at h
  rw [Bool.and_eq_true, List.all_eq_true] at h
  have h1 := of_decide_eq_true h.1
  have h2 := of_decide_eq_true (h.2 0 (List.mem_range.2 h0))
  unfold inR
  exact decide_eq_true ⟨by omega, h2⟩
theorem boxed_in {lo hi : List Int} (h0 : 0 < lo.length) (A : List Fc) : boxedL lo hi (A.map kvF) = boxedL lo hi ((A.filter (inR (lo.getD 0 0) (hi.getD 0 0))).map kvF) := by
  unfold boxedL
  induction A with
  | nil => rfl
  | cons f A ih =>
    rw [List.map_cons]
    by_cases hw : withinF lo hi f.1 = true
    · rw [List.filter_cons_of_pos (by exact hw), List.filter_cons_of_pos (within_inR h0 hw), List.map_cons, List.filter_cons_of_pos (by exact hw), ih]
    · rw [List.filter_cons_of_neg (by exact hw), ih]
      by_cases hi' : inR (lo.getD 0 0) (hi.getD 0 0) f = true
      · rw [List.filter_cons_of_pos hi', List.map_cons, List.filter_cons_of_neg (by exact hw)]
      · rw [List.filter_cons_of_neg hi']
theorem run_range {l : List Dm} (hl : goodDims l) {A B : List Fc} {m lo hi : List Int} (h0 : 0 < lo.length) (a1 : ∀ f ∈ A, inF l f.1 = true) (a2 : ∀ f ∈ A, i64 f.2) (a3 : A.length ≤ 1000000000) (b1 : ∀ f ∈ B, inF l f.1 = true) (b2 : ∀ f ∈ B, i64 f.2) (b3 : B.length ≤ 1000000000) (e : A.filter (inR (lo.getD 0 0) (hi.getD 0 0)) = B.filter (inR (lo.getD 0 0) (hi.getD 0 0))) :
    runE l (tab (A.map fr1)) m lo hi = runE l (tab (B.map fr1)) m lo hi ∧ runT l (tab (A.map fr1)) m lo hi = runT l (tab (B.map fr1)) m lo hi := by
  have gA := goodT_of hl a1 a2 a3
  have gB := goodT_of hl b1 b2 b3
  refine run_cut gA gB ?_
  have cA := gA.cut lo hi
  have cB := gB.cut lo hi
  rw [boxed_in h0, e, ← boxed_in h0] at cA
  exact cA.ext cB fun q => List.Perm.refl _
def valH (h : List En) : Prop := ∀ e ∈ h, ∀ f ∈ e.2, i64 f.2
theorem valH.add {l : List Dm} {h : List En} (k : valH h) {t : Int} {fs : List Fc} (hf : ∀ f ∈ fs, i64 f.2) : valH (addH l h t fs) := by
  by_cases e : addE l h t fs = 0
  · rw [addH_eq e]
    exact withR_all (P := fun e => ∀ f ∈ e.2, i64 f.2) hf (fun e _ he f hx => (List.mem_append.1 hx).elim (he f) (hf f)) k
  · unfold addH; rw [if_neg e]; exact k
theorem valH.rest {h : List En} (k : valH h) (a b : Int) : valH (restH a b h) := fun x hx => by
  obtain ⟨e, he, rfl⟩ := restH_mem hx
  exact fun f hf => k e he f (List.mem_filter.1 hf).1
theorem valH.ent {h : List En} (k : valH h) (a b : Int) : valH (entF a b h) := fun x hx => by
  obtain ⟨e, he, rfl, _⟩ := entF_mem hx
  exact fun f hf => k e he f (List.mem_filter.1 hf).1
theorem valH.repl {l : List Dm} {h es : List En} (k : valH h) (ke : valH es) (a b : Int) : valH (replF l a b h es) := by
  unfold replF
  split
  · exact layAll_all (P := fun e => ∀ f ∈ e.2, i64 f.2) (fun e d he hd f hf => (List.mem_append.1 hf).elim (hd f) (he f)) (k.rest a b) ke
  · exact k
theorem valH.does {l : List Dm} {h : List En} (k : valH h) {o : OpC} (ok : o.ok) : valH (doesH l h o) := by
  have hfs := facts_i64 (l := l) (ks := o.keys) ok.vc
  unfold doesH
  split
  · exact k.add ok.fc
  · split
    · refine (k.repl ok.lc _ _).repl (fun e he f hf => ?_) _ _
      obtain ⟨i, hi, rfl⟩ := List.mem_iff_getElem.1 he
      have hl := entOf_len l o
      rw [entOf_at (by omega) (by omega) hi] at hf
      exact hfs f (pick_mem hf).1
    · exact k.add hfs
theorem till_ok {l : List Dm} {h : List En} (o : okH l 5000 200 h) (v : valH h) (t : Int) : (∀ f ∈ tillF h t, inF l f.1 = true) ∧ (∀ f ∈ tillF h t, i64 f.2) ∧ (tillF h t).length ≤ 1000000000 := by
  refine ⟨fun f hf => ?_, fun f hf => ?_, ?_⟩
  · obtain ⟨e, he, hx⟩ := tillF_mem hf; exact o.fi e he f hx
  · obtain ⟨e, he, hx⟩ := tillF_mem hf; exact v e he f hx
  · have h3 := tillF_le h t h.length
    rw [List.take_length] at h3
    have := o.total
    omega
theorem put_right {l : List Dm} {h : List En} (o : okH l 5000 200 h) (a b : Int) : rightF l a b 0 (entF a b h) = true := by
  have oe := o.ent a b
  refine rightF_of oe.rs fun e he => ⟨oe.ti e he, of_fitsF (oe.fl e he) (oe.fi e he), ?_⟩
  obtain ⟨d, hd, rfl, _⟩ := entF_mem he
  exact fun f hf => (List.mem_filter.1 hf).2
theorem put_E {l : List Dm} {h c : List En} (o : okH l 5000 200 c) (a b : Int) : replE l a b h (entF a b c) = 0 ∨ replE l a b h (entF a b c) = 3 := by
  unfold replE
  rw [put_right o a b, if_neg (by decide)]
  split
  · exact .inr rfl
  · exact .inl rfl
theorem ixV_r {v : Value} {l : List Int} (hv : sF F 1 v l.length (ic l)) {i : Nat} {K : Value → Kont} (hi : i < l.length) (k : ∀ p, (∀ F' M' N', subF F F' → ldV ⟨F', M', N'⟩ false 1 p (.int .i64 l[i])) → K p (.int .i64 l[i]) ⟨F, M, N⟩) :
    pv (iaV none 1 v (.int .i64 (i : Nat))) (fun p => ld false 1 p (K p)) ⟨F, M, N⟩ := by
  obtain ⟨b, o, c, cs, rfl, hF, hx⟩ := ints_at hv hi
  exact iaN_r hi (ld_r (ldV_c (row_F hF) hx) (k _ (fun F' M' N' hs => ldV_c (row_F (hs _ _ hF)) hx)))
end Go.Proofs.YtgjdjdjhoipfmaaGreatDoor.A
open Go Go.RowKit Go.Proofs.YtgjdjdjhoipfmaaGreatDoor.K Go.Proofs.YtgjdjdjhoipfmaaGreatDoor.T
set_option linter.unusedVariables false
set_option linter.unusedSimpArgs false
namespace Go.Proofs.YtgjdjdjhoipfmaaGreatDoor.A
variable {F F' : Nat → Option (List Value)} {M M' : Nat → Option Chunk} {N N' : Nat} {K : Kont} {E : PanK}
def timH (h : List En) : Prop := ∀ e ∈ h, e.1 < 4294967296
theorem timH.add {l : List Dm} {h : List En} (k : timH h) {t : Int} (fs : List Fc) (ht : t < 4294967296) : timH (addH l h t fs) := by
  by_cases e : addE l h t fs = 0
  · rw [addH_eq e]
    exact withR_all (P := fun e => e.1 < 4294967296) ht (fun _ _ _ => ht) k
  · unfold addH; rw [if_neg e]; exact k
theorem timH.rest {h : List En} (k : timH h) (a b : Int) : timH (restH a b h) := fun x hx => by
  obtain ⟨e, he, rfl⟩ := restH_mem hx
  exact k e he
theorem timH.ent {h : List En} (k : timH h) (a b : Int) : timH (entF a b h) := fun x hx => by
  obtain ⟨e, he, rfl, _⟩ := entF_mem hx
  exact k e he
theorem timH.repl {l : List Dm} {h es : List En} (k : timH h) (ke : timH es) (a b : Int) : timH (replF l a b h es) := by
  unfold replF
  split
  · exact layAll_all (P := fun e => e.1 < 4294967296) (fun e d he hd => he) (k.rest a b) ke
  · exact k
theorem timH.does {l : List Dm} {h : List En} (k : timH h) {o : OpC} (ok : o.ok) : timH (doesH l h o) := by
  unfold doesH
  split
  · exact k.add _ ok.ta.2
  · split
    · exact (k.repl (fun e he => (ok.lt e he).2) _ _).repl (fun e he => (entOf_time ok e he).2) _ _
    · exact k.add _ (by have := ok.ta; omega)
set_option maxRecDepth 10000 in
set_option maxHeartbeats 16000000 in
theorem cubeMoves_c {um ul ul2 uc ua ub : Value} {m : List (Int × List Int)} {ops ops2 : List OpC} {c a b : List Int} {t : Int} (hm : cutsD F um m) (hml : m.length ≤ 140737488351232) (hmc : ∀ c ∈ m, (0 ≤ c.1 ∧ c.1 < 65536) ∧ ∀ x ∈ c.2, 0 ≤ x ∧ x < 256)
    (hops : opsD F ul ops) (hopl : ops.length ≤ 140737488351232) (hops2 : opsD F ul2 ops2) (hopl2 : ops2.length ≤ 140737488351232)
    (hc : sF F 1 uc c.length (ick .u8 c)) (hcl : c.length ≤ 140737488351232) (hcc : ∀ x ∈ c, 0 ≤ x ∧ x < 256)
    (ha : sF F 1 ua a.length (ick .u16 a)) (hal : a.length ≤ 140737488351232) (hac : ∀ x ∈ a, 0 ≤ x ∧ x < 65536)
    (hb : sF F 1 ub b.length (ick .u16 b)) (hbl : b.length ≤ 140737488351232) (hbc : ∀ x ∈ b, 0 ≤ x ∧ x < 65536) (k : ∀ h, K (.bool true) h) :
    call Tryz.prog 9 #[um, ul, ul2, uc, ua, ub, .int .u32 t] K E ⟨F, M, N⟩ := by
  refine call_text mixed Tryz.func9 (by kernel_rfl) (t9 _ E _ _ _ _ _ _ _) (fun hw => ?_)
  have hm0 : clean M N := hw.m
  have kn : ∀ {M : Nat → Option Chunk} {F : Nat → Option (List Value)} {N : Nat}, callv Tryz.prog (.func (.func 11) #[] #[]) #[] (fun v h => h.wf → ∃ h', h.wk h' ∧ (h'.wf → K v h')) E ⟨F, M, N⟩ := known13_c (fun F' N' _ _ _ hc => ⟨_, wk_refl hc, fun _ => k _⟩)
  have hops0 := hops
  obtain ⟨oprows, hop1, hop2⟩ := hops0
  have hops20 := hops2
  obtain ⟨oprows2, hpp1, hpp2⟩ := hops20
  have okA : ∀ (i : Nat) (hi : i < ops.length), ops[i].ok := fun i hi => by
    obtain ⟨r, hr, hR, _⟩ := hop2.get (List.getElem?_eq_getElem hi)
    obtain ⟨_, _, _, _, _, _, _, _, _, ok⟩ := hR; exact ok
  have okB : ∀ (i : Nat) (hi : i < ops2.length), ops2[i].ok := fun i hi => by
    obtain ⟨r, hr, hR, _⟩ := hpp2.get (List.getElem?_eq_getElem hi)
    obtain ⟨_, _, _, _, _, _, _, _, _, ok⟩ := hR; exact ok
  refine lenF_r hop1 ?_
  refine gtr_r (fun h1 => ?_) (fun h1 => ?_)
  · try simp only [sS]; exact kn
  try simp only [sS]
  refine lenF_r hpp1 ?_
  refine gtr_r (fun h2 => ?_) (fun h2 => ?_)
  · try simp only [sS]; exact kn
  try simp only [sS]
  refine heavy13_c hops hopl (fun r1 hw1 => ?_)
  refine gtr_r (fun h3 => ?_) (fun h3 => ?_)
  · try simp only [sS]; exact kn
  try simp only [sS]
  refine heavy13_c hops2 hopl2 (fun r2 hw1 => ?_)
  refine gtr_r (fun h4 => ?_) (fun h4 => ?_)
  · try simp only [sS]; exact kn
  try simp only [sS]
  refine known13_c (fun F2 N2 hF2 hN2 hw2 => ?_)
  try simp only [sS]
  have hgd := dimsOf_good m (fun c hc => (hmc c hc).1)
  have hok := dimsOf_ok (m := m) (fun c hc => (hmc c hc).1)
  refine dof_c (hm.mono hF2) hml hmc (fun udv F3 N3 hw3 hF3 hN3 hd => ?_)
  generalize dimsOf m = l at *
  have hl4 := hgd.2.1
  have hds := goodDims_sz hgd
  have hdv : ∀ d ∈ l, d.2.length ≤ 1000000 := fun d hd => by have := okDim_div (okDims_all hok d hd); omega
  refine new_c hd (by omega) (fun h => absurd h (by rw [hok]; decide)) (fun _ g dv F4 M4 N4 hF4 hC hM4 hN4 hm4 hw4 => ?_)
  refine rnew_c (hd.mono hF4) (by omega) (fun h => absurd h (by rw [hok]; decide)) (fun _ g2 dv2 F5 M5 N5 hF5 hR hg2 hM5 hN5 hm5 hw5 => ?_)
  have hgN := (hC.lt hm4 g (.inl rfl)).2
  have hg2N := hm5.lt hR.gg
  have F35 := hF4.trans hF5
  refine new_c (hd.mono F35) (by omega) (fun h => absurd h (by rw [hok]; decide)) (fun _ x dx F6 M6 N6 hF6 hX hM6 hN6 hm6 hw6 => ?_)
  refine rnew_c (hd.mono (F35.trans hF6)) (by omega) (fun h => absurd h (by rw [hok]; decide)) (fun _ x2 dx2 F7 M7 N7 hF7 hS hx2 hM7 hN7 hm7 hw7 => ?_)
  have hxB := hX.gB
  have hxN := (hX.lt hm6 x (.inl rfl)).2
  refine ptr_ne ?_
  try simp only [sS]
  refine ptr_ne ?_
  try simp only [sS]
  refine ptr_ne ?_
  try simp only [sS]
  refine ptr_ne ?_
  try simp only [sS]
  have F57 := hF6.trans hF7
  have hM57 : ∀ q, q < N5 → M7 q = M5 q := fun q hq => (hM7 q (by omega)).trans (hM6 q hq)
  have hB7 : both F7 M7 N3 g g2 (.slice none 0 0) dv [] dv2 (.slice none 0 0) l [] :=
    ⟨(hC.keep hF5 (fun q hq => hM5 q (hC.lt hm4 q hq).2)).keep F57 (fun q hq => hM57 q (by have := (hC.lt hm4 q hq).2; omega)), hR.keep F57 (hM57 g2 hg2N), okH.nil _ _ _, by omega, by simp [Value.ownBlock]⟩
  have hX7 : both F7 M7 N5 x x2 (.slice none 0 0) dx [] dx2 (.slice none 0 0) l [] :=
    ⟨hX.keep hF7 (fun q hq => hM7 q (hX.lt hm6 q hq).2), hS, okH.nil _ _ _, by omega, by simp [Value.ownBlock]⟩
  have F37 := F35.trans F57
  have F07 := (hF2.trans hF3).trans F37
  have hv0 : valH [] := fun e he => by simp at he
  have ht0 : timH [] := fun e he => by simp at he
  refine l9_1_1_1_1_1_1_1_1_0_1_0_0 (σ := Nat) (fun i => .int .i64 (i : Nat))
    (fun i h' => ∃ F' M' N' hv rows lv2 h, h' = ⟨F', M', N'⟩ ∧ subF F7 F' ∧ N7 ≤ N' ∧ clean M' N' ∧ i ≤ ops.length ∧ valH h ∧ timH h ∧ both F' M' N3 g g2 hv dv rows dv2 lv2 l h ∧ both F' M' N5 x x2 (.slice none 0 0) dx [] dx2 (.slice none 0 0) l [] ∧ hv.ownBlock ≠ some x ∧ hv.ownBlock ≠ some x2) (fun i => ops.length - i) 0 rfl
    (fun hw8 => ⟨_, wk_refl hw8, F7, M7, N7, .slice none 0 0, [], .slice none 0 0, [], rfl, subF.refl _, Nat.le_refl _, hm7, Nat.zero_le _, hv0, ht0, hB7, hX7, by simp [Value.ownBlock], by simp [Value.ownBlock]⟩) (fun kk i j h1' hI hw8 next => ?_)
  rw [t9_1_1_1_1_1_1_1_1_0_1_0_0]
  obtain ⟨F8, M8, N8, hv, rows, lv2, h, rfl, hF8, hN8, hm8, hi, vh, th, hB8, hX8, s1, s2⟩ := hI
  have F08 := F07.trans hF8
  refine lenF_r hop1 ?_
  refine lss_r (fun hlt => ?_) (fun hge => ?_)
  · have i1 : i < ops.length := by omega
    try simp only [sS]
    refine row_r (hop1.mono F08) (hop2.mono fun _ _ h => h.mono F08) (by decide) i1 (fun p r _ hR6 hrl hr1 => ?_)
    refine does13_c hB8 (by omega) hgd (hd.mono (F37.trans hF8)) hR6 (fun hv9 F9 M9 N9 rows9 lv9 hF9 hB9 hM9 hN9 hm9 hw9 => ?_)
    refine inc_r (by omega) ?_
    obtain ⟨z1, z2⟩ := hM9 x (by omega) (by omega) s1 (by omega)
    obtain ⟨z3, z4⟩ := hM9 x2 (by omega) (by omega) s2 (by have := hX8.lt hm8 x2 (.inr (.inl rfl)); omega)
    exact next (i + 1) _ _ (by omega) (fun hw10 => ⟨_, wk_refl hw10, F9, M9, N9, hv9, rows9, lv9, _, rfl, hF8.trans hF9, by omega, hm9, i1, vh.does (okA i i1), th.does (okA i i1), hB9, hX8.keep hF9 (fun q hq => by
      rcases hq with hq | hq | hq
      · subst hq; exact z1
      · subst hq; exact z3
      · simp [Value.ownBlock] at hq), z2, z4⟩)
  · try simp only [sS]
    have hgne : g ≠ x ∧ g ≠ x2 ∧ g2 ≠ x ∧ g2 ≠ x2 := by omega
    refine l9_1_1_1_1_1_1_1_1_1_0_1_0_0 (σ := Nat) (fun i => .int .i64 (i : Nat))
      (fun i h' => ∃ F' M' N' hx rowx lx2 hh, h' = ⟨F', M', N'⟩ ∧ subF F8 F' ∧ N8 ≤ N' ∧ clean M' N' ∧ i ≤ ops2.length ∧ valH hh ∧ both F' M' N3 g g2 hv dv rows dv2 lv2 l h ∧ both F' M' N5 x x2 hx dx rowx dx2 lx2 l hh ∧ ∀ q, q = g ∨ q = g2 ∨ hv.ownBlock = some q → hx.ownBlock ≠ some q) (fun i => ops2.length - i) 0 rfl
      (fun hw9 => ⟨_, wk_refl hw9, F8, M8, N8, .slice none 0 0, [], .slice none 0 0, [], rfl, subF.refl _, Nat.le_refl _, hm8, Nat.zero_le _, hv0, hB8, hX8, fun q _ => by simp [Value.ownBlock]⟩) (fun kk2 i2 j2 h2' hI2 hw9 next2 => ?_)
    rw [t9_1_1_1_1_1_1_1_1_1_0_1_0_0]
    obtain ⟨F9, M9, N9, hx, rowx, lx2, hh, rfl, hF9, hN9, hm9, hi2, vhh, hB9, hX9, sep⟩ := hI2
    have F09 := F08.trans hF9
    refine lenF_r hpp1 ?_
    refine lss_r (fun hlt2 => ?_) (fun hge2 => ?_)
    · have i3 : i2 < ops2.length := by omega
      try simp only [sS]
      refine row_r (hpp1.mono F09) (hpp2.mono fun _ _ h => h.mono F09) (by decide) i3 (fun p r _ hR6 hrl hr1 => ?_)
      refine does13_c hX9 (by omega) hgd (hd.mono ((F37.trans hF8).trans hF9)) hR6 (fun hx10 F10 M10 N10 rows10 lx10 hF10 hX10 hM10 hN10 hm10 hw10 => ?_)
      refine inc_r (by omega) ?_
      have hlt9 := hB9.lt hm9
      have hkq : ∀ q, q = g ∨ q = g2 ∨ hv.ownBlock = some q → q ≠ x ∧ q ≠ x2 := fun q hq => by
        rcases hq with hq | hq | hq
        · omega
        · omega
        · exact ⟨fun e => s1 (by rw [← e]; exact hq), fun e => s2 (by rw [← e]; exact hq)⟩
      exact next2 (i2 + 1) _ _ (by omega) (fun hw11 => ⟨_, wk_refl hw11, F10, M10, N10, hx10, rows10, lx10, _, rfl, hF9.trans hF10, by omega, hm10, i3, vhh.does (okB i2 i3), hB9.keep hF10 (fun q hq => (hM10 q (hkq q hq).1 (hkq q hq).2 (sep q hq) (hlt9 q hq)).1), hX10, fun q hq => (hM10 q (hkq q hq).1 (hkq q hq).2 (sep q hq) (hlt9 q hq)).2⟩)
    · try simp only [sS]
      have oC := hB9.o
      have oX := hX9.o
      refine ask_c (hd.mono ((F37.trans hF8).trans hF9)) (hc.mono F09) (ha.mono F09) (hb.mono F09) (by omega) hds hdv hcc hac hbc hcl hal hbl (fun cs F10 N10 hw10 hF10 hN10 hq => ?_)
      obtain ⟨hq3, hq1⟩ := hq.box
      have hq' := hq
      obtain ⟨qa, qb, qc, hqs, hqa, hqb, hqc, hqml, hqlol, hqhil⟩ := hq'
      have hlvL := levOf_len l c []
      obtain ⟨hlev, _⟩ := levOf_ok (c := c) (nil_ok l)
      have hqi := okLev_i64 hlvL hlev hdv
      have hLo := boxLo_len l a b
      have hHi := boxHi_len l a b
      generalize levOf l c [] = qm at *
      generalize boxLo l a b = qlo at *
      generalize boxHi l a b = qhi at *
      have l0 : 0 < qlo.length := by have := hgd.1; omega
      have l1 : 0 < qhi.length := by have := hgd.1; omega
      have e0 : qlo.getD 0 0 = qlo[0] := getD_at l0 0
      have e1 : qhi.getD 0 0 = qhi[0] := getD_at l1 0
      have hm10 : clean M9 N10 := hw10.m
      refine nw_r (fun b1 hb1 => ?_)
      refine stM (cs' := cs) ?_ (upd_same _ _ _) (by rw [hqs]; rfl) (by rw [hqs]; rfl) hq1 (by exact Nat.le_of_ble_eq_true rfl)
      rw [upd_upd]
      obtain ⟨M11, hM11e⟩ : ∃ M11, M11 = upd M9 b1 (some (.cells 36 cs [Value.slice none 0 0, Value.slice none 0 0, Value.slice none 0 0].length)) := ⟨_, rfl⟩
      rw [← hM11e]
      have hbox : M11 b1 = some (.cells 36 cs 3) := by rw [hM11e]; exact upd_same _ _ _
      have hm11 : clean M11 (b1 + 1) := by rw [hM11e]; exact hm10.new hb1 _
      have hC11 : isCube F10 M11 N3 g hv dv rows l h := hB9.c.keep hF10 (fun q hq => by rw [hM11e]; exact upd_ne _ _ (by have := hB9.lt hm9 q (hq.elim .inl (fun h => .inr (.inr h))); omega))
      have hX11 : isCube F10 M11 N5 x hx dx rowx l hh := hX9.c.keep hF10 (fun q hq => by rw [hM11e]; exact upd_ne _ _ (by have := hX9.lt hm9 q (hq.elim .inl (fun h => .inr (.inr h))); omega))
      have hxb1 : hx.ownBlock ≠ some b1 := fun e => by have := hX9.lt hm9 b1 (.inr (.inr e)); omega
      have hxb2 : b1 ≠ x := by have := hX9.lt hm9 x (.inl rfl); omega
      clear hM11e
      obtain ⟨N11, hN11⟩ : ∃ n, n = b1 + 1 := ⟨_, rfl⟩
      rw [← hN11] at hm11 ⊢
      have lq : ∀ (off : Nat) (v : Value) {X : Kont} {F : Nat → Option (List Value)} {M : Nat → Option Chunk} {n : Nat}, M b1 = some (.cells 36 cs 3) → cs[off]? = some v → X v ⟨F, M, n⟩ → ld false 1 (.pointer (some ⟨b1, off, none⟩)) X ⟨F, M, n⟩ := fun off v X F M n hM hv hX => ldM (v := v) hX hM hv
      have c1 : cs[1]? = some qb := by rw [hqs]; rfl
      have c2 : cs[2]? = some qc := by rw [hqs]; rfl
      try simp only [sS]
      refine lq 1 qb hbox c1 (ixV_r (i := 0) hqb l0 fun p5 hl5 => ?_)
      try simp only [sS]
      refine lq 2 qc hbox c2 (ixV_r (i := 0) hqc l1 fun p9 hl9 => ?_)
      try simp only [sS]
      refine lq 1 qb hbox c1 (ixn_r (i := 0) hqb l0 fun p13 => ?_)
      try simp only [sS]
      refine lq 2 qc hbox c2 (ixn_r (i := 0) hqc l1 fun p17 => ?_)
      refine centries_c hC11 oC (by omega) (fun v12 F12 N12 hw12 hF12 hN12 h12 => ?_)
      refine ⟨hl9 _ _ _ hF12, ldV_c (row_M hbox) c2, hl5 _ _ _ hF12, ldV_c (row_M hbox) c1, ?_⟩
      have oE := oC.ent qlo[0] qhi[0]
      have hel := oE.le
      have heT : ∀ e ∈ entF qlo[0] qhi[0] h, e.1 < 4294967296 := th.ent _ _
      refine creplace_c (hX11.keep (M' := M11) hF12 (fun _ _ => rfl)) (by omega) oX (by omega) h12 (by omega) heT (fun hx13 F13 M13 N13 rows13 hF13 hX13 hM13 hN13 hm13 hw13 => ?_)
      rcases put_E (l := l) (h := hh) oC qlo[0] qhi[0] with hE | hE
      rotate_left
      · rw [hE]
        refine neq_t (by decide) ?_
        try simp only [sS]
        refine eql_t rfl ?_
        exact fun hc => ⟨_, wk_refl hc, fun _ => k _⟩
      rw [hE]
      refine neq_f rfl ?_
      try simp only [sS]
      have hxE : replF l qlo[0] qhi[0] hh (entF qlo[0] qhi[0] h) = replH qlo[0] qhi[0] hh (entF qlo[0] qhi[0] h) := by unfold replF; rw [if_pos hE]
      have oX13 := oX.repl qlo[0] qhi[0] (entF qlo[0] qhi[0] h)
      have vX13 := vhh.repl (l := l) (vh.ent qlo[0] qhi[0]) qlo[0] qhi[0]
      rw [hxE] at hX13 oX13 vX13
      have eput := entF_put (a := qlo[0]) (b := qhi[0]) oX.rs oC.rs
      generalize replH qlo[0] qhi[0] hh (entF qlo[0] qhi[0] h) = h13 at *
      have hb13 := (hM13 b1 hxb1 hxb2 (by omega)).1.trans hbox
      have hkq : ∀ q, q = g ∨ hv.ownBlock = some q → q ≠ x ∧ hx.ownBlock ≠ some q ∧ q < N12 := fun q hq => by
        refine ⟨fun e => ?_, sep q (hq.elim .inl (fun h => .inr (.inr h))), ?_⟩
        · rcases hq with hq | hq
          · omega
          · exact s1 (by rw [← e]; exact hq)
        · have := hB9.lt hm9 q (hq.elim .inl (fun h => .inr (.inr h))); omega
      have hC13 := hC11.keep (hF12.trans hF13) (fun q hq => (hM13 q (hkq q hq).2.1 (hkq q hq).1 (hkq q hq).2.2).1)
      have hq13 := hq.mono (hF12.trans hF13)
      have tA := till_ok oC vh t
      have tB := till_ok oX13 vX13 t
      have efil : (tillF h t).filter (inR (qlo.getD 0 0) (qhi.getD 0 0)) = (tillF h13 t).filter (inR (qlo.getD 0 0) (qhi.getD 0 0)) := by
        rw [e0, e1, till_ent, till_ent, eput]
      obtain ⟨hrE, hrT⟩ := run_range (m := qm) (lo := qlo) (hi := qhi) hgd l0 tA.1 tA.2.1 tA.2.2 tB.1 tB.2.1 tB.2.2 efil
      have hrunA := oC.runs t qm qlo qhi
      have eTA := allI_till oC.rs t
      have eTB := allI_till oX13.rs t
      refine ldQ hq3 hb13 ?_
      refine cquery_c hC13 (by omega) oC.le oC.total (oC.okK hgd) hq13 hqi (by rw [eTA]; exact oC.tab hgd t) (fun v14 F14 N14 hw14 hF14 hN14 h14 => ?_)
      rw [eTA] at h14 ⊢
      try simp only [sS]
      refine ldQ hq3 hb13 ?_
      refine cquery_c (hX13.keep (M' := M13) hF14 (fun _ _ => rfl)) (by omega) oX13.le oX13.total (oX13.okK hgd) (hq13.mono hF14) hqi (by rw [eTB]; exact oX13.tab hgd t) (fun v15 F15 N15 hw15 hF15 hN15 h15 => ?_)
      rw [eTB, ← hrT] at h15
      rw [eTB, ← hrE]
      try simp only [sS]
      refine eql_t rfl ?_
      try simp only [sS]
      refine same_c (h14.mono hF15) h15 (by omega) ?_
      rw [decide_eq_true rfl]
      try simp only [sS]
      have F1315 := hF14.trans hF15
      have hqb15 := ((hqb.mono hF12).mono hF13).mono F1315
      have hqc15 := ((hqc.mono hF12).mono hF13).mono F1315
      refine lq 1 qb hb13 c1 (ixV_r (i := 0) hqb15 l0 fun p41 hl41 => ?_)
      try simp only [sS]
      refine lq 2 qc hb13 c2 (ixV_r (i := 0) hqc15 l1 fun p45 hl45 => ?_)
      try simp only [sS]
      refine lq 1 qb hb13 c1 (ixV_r (i := 0) hqb15 l0 fun p50 hl50 => ?_)
      try simp only [sS]
      refine lq 2 qc hb13 c2 (ixV_r (i := 0) hqc15 l1 fun p54 hl54 => ?_)
      refine centries_c (hX13.keep (M' := M13) F1315 (fun _ _ => rfl)) oX13 (by omega) (fun v16 F16 N16 hw16 hF16 hN16 h16 => ?_)
      refine ⟨fun _ => hl54 _ _ _ hF16, fun _ => ldV_c (row_M hb13) c2, fun _ => hl50 _ _ _ hF16, fun _ => ldV_c (row_M hb13) c1, ?_⟩
      try simp only [sS]
      refine centries_c ((hC13.keep (M' := M13) F1315 (fun _ _ => rfl)).keep (M' := M13) hF16 (fun _ _ => rfl)) oC (by omega) (fun v17 F17 N17 hw17 hF17 hN17 h17 => ?_)
      try simp only [sS]
      have hen := oE.enc hgd
      rw [eput] at h16
      refine samee_c (h16.mono hF17) h17 (by omega) (fun e he => by have := oE.fl e he; omega) (by omega) (fun N18 hN18 hw18 => ?_)
      try simp only [sS]
      exact fun hc => ⟨_, wk_refl hc, fun _ => k _⟩
end Go.Proofs.YtgjdjdjhoipfmaaGreatDoor.A
open Go Go.RowKit Go.Proofs.YtgjdjdjhoipfmaaGreatDoor.K Go.Proofs.YtgjdjdjhoipfmaaGreatDoor.T
set_option linter.unusedVariables false
set_option linter.unusedSimpArgs false
namespace Go.Proofs.YtgjdjdjhoipfmaaGreatDoor.A
variable {F F' : Nat → Option (List Value)} {M M' : Nat → Option Chunk} {N N' : Nat} {K : Kont} {E : PanK}
theorem CubeRefuses_true (v0 v1 : Value) (a2 : Array Value) {y0 : List (Int × List Int)} {y1 : List OpY} {y2 : OpY} (W : World) (h0 : rS 2 rCut (F0 W) [v0] y0) (h1 : rS 8 rOp (F0 W) [v1] y1) (h2 : rOp (F0 W) a2.toList y2) :
    Calls Tryz.prog 10 #[v0, v1, .agg a2] W fun e w' => e = .returned (.bool true) ∧ Below W.heap.size W w' :=
  have b := cuts_of h0
  have c := ops_of h1
  fin_true (cubeRefuses_c (cs := a2.toList) b.1 b.2.1 b.2.2 c.1 c.2 (op_of h2) fun _ => rfl)
theorem CubeMoves_true (v0 v1 v2 v3 v4 v5 : Value) (a6 : Int) {y0 : List (Int × List Int)} {y1 y2 : List OpY} {y3 y4 y5 : List Int} (W : World) (h0 : rS 2 rCut (F0 W) [v0] y0) (h1 : rS 8 rOp (F0 W) [v1] y1) (h2 : rS 8 rOp (F0 W) [v2] y2) (h3 : rS 1 (rI .u8) (F0 W) [v3] y3) (h4 : rS 1 (rI .u16) (F0 W) [v4] y4) (h5 : rS 1 (rI .u16) (F0 W) [v5] y5) (w6 : (Lit.int .u32 a6).wf = true) :
    Calls Tryz.prog 9 #[v0, v1, v2, v3, v4, v5, .int .u32 a6] W fun e w' => e = .returned (.bool true) ∧ Below W.heap.size W w' :=
  have b := cuts_of h0
  have c := ops_of h1
  have d := ops_of h2
  have e := list_of h3
  have f := list_of h4
  have g := list_of h5
  fin_true (cubeMoves_c b.1 b.2.1 b.2.2 c.1 c.2 d.1 d.2 e.1 e.2.2 (fun x hx => wf_u8 (e.2.1 x hx)) f.1 f.2.2 (fun x hx => wf_u16 (f.2.1 x hx)) g.1 g.2.2 (fun x hx => wf_u16 (g.2.1 x hx)) fun _ => rfl)
end Go.Proofs.YtgjdjdjhoipfmaaGreatDoor.A
