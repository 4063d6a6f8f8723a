import Derived.Test.YtgcmbkoejjcjlaaGreatDoorZ4
import Derived.Test.YtgcmbkoejjcjlaaGreatDoorProg
import Derived.Test.YtgcmbkoejjcjlaaGreatDoorZ1
import Derived.Test.YtgcmbkoejjcjlaaGreatDoorZ3
set_option maxHeartbeats 4000000
open Go Go.RowKit Go.Proofs.YtgcmbkoejjcjlaaGreatDoor.K Go.Proofs.YtgcmbkoejjcjlaaGreatDoor.T
set_option linter.unusedVariables false
set_option linter.unusedSimpArgs false
namespace Go.Proofs.YtgcmbkoejjcjlaaGreatDoor.A
variable {F F' : Nat → Option (List Value)} {M M' : Nat → Option Chunk} {N N' : Nat} {K : Kont} {E : PanK}
theorem mkeys_c {mb : Nat} (k : ∀ bm F' N', (Hp.mk F' M N').wf → subF F F' → N ≤ N' → F' bm = some [.map (some mb)] → K (.func (.func 71) #[] #[.pointer (some ⟨bm, 0, none⟩)]) ⟨F', M, N'⟩) :
    callv Tryz.prog (.func (.func 39) #[] #[]) #[.map (some mb)] K E ⟨F, M, N⟩ := by
  refine callv_of_text mixed Tryz.func39 (by kernel_rfl) (t39 _ E _) (fun hw => ?_)
  have hm : clean M N := hw.m
  refine nw_r (cs := [.map (some mb)]) (fun b1 hb1 => ?_)
  exact fun hc => ⟨_, frz_wf hm (fun q hq => upd_ne _ _ (by omega)) hc, fun hw' => k b1 _ _ hw' (subF_frzAll hc) (by omega) (frz_at (by omega) (upd_same _ _ _))⟩
section
variable {B p g mb : Nat} {hv dv : Value} {rows : List (List Value)} {l : List Dm} {h : List En} {bs : Bts} {tk : Int}
theorem mapD.mem {es : Array MapEntry} (hd : mapD F es bs) (x : Int) : (∃ e ∈ es.toList, e.key = .int .u32 x) ↔ hasB bs x = true := by
  have h1 : (∃ e ∈ es.toList, e.key = .int .u32 x) ↔ Value.int .u32 x ∈ es.toList.map (·.key) := by rw [List.mem_map]
  rw [h1, hd.keys, List.mem_map, hasB_iff]
  constructor
  · rintro ⟨y, hy, e⟩; exact ⟨y, hy, by simpa using e⟩
  · rintro ⟨y, hy, e⟩; exact ⟨y, hy, by rw [e]⟩
def isOpen (bs : Bts) (x : Int) : Bool := decide ((getB bs x).st = 1)
def waits (bs : Bts) (ws : List Int) : Prop := rises ws ∧ ∀ x, x ∈ ws ↔ hasB bs x = true ∧ isOpen bs x = true
set_option maxRecDepth 10000 in
theorem pwait_c (hE : E [] badH) (P : isPart F M B p g mb hv dv rows l h bs tk) (h12 : bs.length ≤ 12)
    (k : ∀ v' (ws : List Int) F' N', (Hp.mk F' M N').wf → subF F F' → N ≤ N' → waits bs ws → sF F' 1 v' ws.length (ick .u32 ws) → K v' ⟨F', M, N'⟩) :
    callv Tryz.prog (.func (.func 18) #[] #[]) #[.pointer (some ⟨p, 0, none⟩)] K E ⟨F, M, N⟩ := by
  refine callv_of_text mixed Tryz.func18 (by kernel_rfl) (t18 _ E _) (fun hw => ?_)
  have hm : clean M N := hw.m
  refine nw_r (cs := [.pointer (some ⟨p, 0, none⟩)]) (fun b1 hb1 => ?_)
  generalize hM1e : upd M b1 _ = M1
  have hb : ∃ e, M1 b1 = some (.cells e [.pointer (some ⟨p, 0, none⟩)] 1) := ⟨_, by rw [← hM1e]; exact upd_same _ _ _⟩
  have P1 : isPart F M1 B p g mb hv dv rows l h bs tk := by rw [← hM1e]; exact P.box hm hb1 _
  have hm1 : clean M1 (b1 + 1) := by rw [← hM1e]; exact hm.new hb1 _
  have hM1 : ∀ q, q < N → M1 q = M q := fun q hq => by rw [← hM1e]; exact upd_ne _ _ (by omega)
  clear hM1e
  obtain ⟨ty, hb⟩ := hb
  refine ldM (v := .pointer (some ⟨p, 0, none⟩)) ?_ hb
  try simp only [sS]
  refine ldM (v := .map (some mb)) ?_ P1.pp
  refine mkeys_c (fun bm F2 N2 hw2 hF2 hN2 hbm => ?_)
  obtain ⟨es, h2, h3⟩ := P1.mm
  refine sortedK_c hE hbm h2 (h3.k (by omega)) (by rw [h3.len]; exact h12) (fun v3 l3 M3 N3 hr3 hmem3 ho3 hM3 hN3 hm3 hw3 => ?_)
  have hpl := P1.lt hm1
  have P3 : isPart F2 M3 B p g mb hv dv rows l h bs tk := P1.keep hF2 (fun q hq => hM3 q (by have := (hpl q hq).2; omega))
  have hlen3 : l3.length ≤ 1000000 := by
    have n3 : l3.Nodup := hr3.imp (fun {x y} h => by omega)
    have := nodup_le (b := bs.map (·.1)) n3 (fun x hx => by
      obtain ⟨y, hy, e⟩ := hasB_iff.1 ((h3.mem x).1 ((hmem3 x).1 hx))
      exact List.mem_map.2 ⟨y, hy, e⟩)
    rw [List.length_map] at this; omega
  have hb3 := (hM3 b1 (by omega)).trans hb
  have hvge : ∀ q, v3.ownBlock = some q → N2 ≤ q := fun q e => (ho3.ge q e).1
  refine delU_c (p := isOpen bs) ho3 (by omega) (fun {K'} M4 N4 x hN4 hM4 hm4 kk => ?_) (fun v5 M5 N5 ho5 hM5 hN5 hm5 hw5 => ⟨_, wk_refl hw5, fun hw6 => ?_⟩)
  · refine callv_of_text mixed Tryz.func40 (by kernel_rfl) (t40 _ E _ _) (fun hw => ?_)
    have hb4 := (hM4 b1 (fun e => by have := hvge b1 e; omega) (by omega)).trans hb3
    refine ldM (v := .pointer (some ⟨p, 0, none⟩)) ?_ hb4
    have P4 : isPart F2 M4 B p g mb hv dv rows l h bs tk := P3.keep (subF.refl _) (fun q hq => hM4 q (fun e => by have := hvge q e; have := (hpl q hq).2; omega) (by have := (hpl q hq).2; omega))
    refine popen_c P4 (fun hw7 => ?_)
    try simp only [sS]
    exact fun hc => ⟨_, wk_refl hc, fun hw8 => kk N4 (Nat.le_refl _) hw8⟩
  · have hX : ∀ q, q < N → M5 q = M q := fun q hq => ((hM5 q (fun e => by have := hvge q e; omega) (by omega)).1).trans ((hM3 q (by omega)).trans (hM1 q hq))
    refine fun hc => ⟨_, frz_wf hm hX hc, fun hw' => k v5 _ _ _ hw' (hF2.trans (subF_frzAll hc)) (by omega) ⟨hr3.filter _, fun x => ?_⟩ (ho5.rd.frz hc (fun b e => .inl (by have := (ho5.ge b e).1; omega)))⟩
    rw [List.mem_filter, hmem3, h3.mem]
def apE (l : List Dm) (h : List En) (bs : Bts) (tk : Int) (r : RecA) : Nat := if r.kind = 1 then ppE l bs r else if r.kind = 2 then cmE l h bs r else if r.kind = 3 then abE bs r else if r.kind = 7 then tkE l h tk r else 1
def apH (l : List Dm) (h : List En) (bs : Bts) (tk : Int) (r : RecA) : List En := if r.kind = 2 then cmH l h bs r else if r.kind = 7 then tkH l h tk r else h
def apS (l : List Dm) (h : List En) (bs : Bts) (r : RecA) : Bts := if r.kind = 1 then ppS l bs r else if r.kind = 2 then cmS l h bs r else if r.kind = 3 then abS bs r else bs
def apT (l : List Dm) (h : List En) (tk : Int) (r : RecA) : Int := if r.kind = 7 then tkT l h tk r else tk
structure RecA.ok (r : RecA) : Prop where
  i0 : 0 ≤ r.id ∧ r.id < 4294967296
  t0 : 0 ≤ r.tm
  nl : r.ns.length ≤ 1000000000
  fl : r.fs.length ≤ 140737488351232
  el : r.es.length ≤ 140737488351232
  eT : ∀ e ∈ r.es, e.1 < 4294967296
set_option maxRecDepth 10000 in
theorem papply_c {cs : List Value} {r : RecA} (P : isPart F M B p g mb hv dv rows l h bs tk) (hB : B ≤ N) (o : okH l 5000 200 h) (hdl : l.length ≤ 1000) (hr : recD F cs r) (ok : r.ok) (hfb : (getB bs r.id).fs.length ≤ 140737488351232)
    (k : ∀ hv' F' M' N' rows', subF F F' → isPart F' M' B p g mb hv' dv rows' l (apH l h bs tk r) (apS l h bs r) (apT l h tk r) → pfr M M' N p g mb hv hv' → N ≤ N' → clean M' N' → (Hp.mk F' M' N').wf → K (.int .u16 ((apE l h bs tk r : Nat) : Int)) ⟨F', M', N'⟩) :
    callv Tryz.prog (.func (.func 14) #[] #[]) #[.pointer (some ⟨p, 0, none⟩), .agg cs.toArray] K E ⟨F, M, N⟩ := by
  refine callv_of_text mixed Tryz.func14 (by kernel_rfl) (t14 _ E _ _) (fun hw => ?_)
  have hm : clean M N := hw.m
  have hr0 := hr
  refine nw_r (cs := cs) (fun b1 hb1 => ?_) rfl
  obtain ⟨nv, fv, ep, sv, ev, e, _⟩ := hr
  have hb := upd_same M b1 (some (.cells 44 cs cs.length))
  have P1 := P.box hm hb1 (some (.cells 44 cs cs.length))
  have hm1 := hm.new hb1 (some (.cells 44 cs cs.length))
  have hM1 : ∀ q, q < N → upd M b1 (some (.cells 44 cs cs.length)) q = M q := fun q hq => upd_ne _ _ (by omega)
  generalize upd M b1 _ = M1 at *
  have hb' := hb
  subst e
  have trp : ∀ {M' : Nat → Option Chunk} {hv' : Value}, pfr M1 M' (b1 + 1) p g mb hv hv' → pfr M M' N p g mb hv hv' := fun f q q1 q2 q3 q4 q5 => ⟨((f q q1 q2 q3 q4 (by omega)).1).trans (hM1 q q5), (f q q1 q2 q3 q4 (by omega)).2⟩
  have trq : ∀ {M' : Nat → Option Chunk}, (∀ q, q ≠ mb → q < b1 + 1 → M' q = M1 q) → pfr M M' N p g mb hv hv := fun f q q1 _ q3 _ q5 => ⟨(f q q3 (by omega)).trans (hM1 q q5), q1⟩
  try simp only [sS]
  refine ldM (v := .int .u8 r.kind) ?_ hb
  refine eql_r (fun h1 => ?_) (fun h1 => ?_)
  · have eE : apE l h bs tk r = ppE l bs r := by unfold apE; rw [if_pos h1]
    have eS : apS l h bs r = ppS l bs r := by unfold apS; rw [if_pos h1]
    have eH : apH l h bs tk r = h := by unfold apH; rw [if_neg (by omega), if_neg (by omega)]
    have eT : apT l h tk r = tk := by unfold apT; rw [if_neg (by omega)]
    rw [eE, eS, eH, eT] at k
    try simp only [sS]
    refine ldMa ?_ hb
    refine pprep_c P1 hdl hr0 ok.i0.1 ok.i0.2 ok.nl ok.fl (fun F2 M2 N2 hF2 P2 hM2 hN2 hm2 hw2 => ?_)
    exact fun hc => ⟨_, wk_refl hc, fun hw' => k hv F2 M2 N2 rows hF2 P2 (trq hM2) (by omega) hm2 hw'⟩
  try simp only [sS]
  refine eql_r (fun h2 => ?_) (fun h2 => ?_)
  · have eE : apE l h bs tk r = cmE l h bs r := by unfold apE; rw [if_neg h1, if_pos h2]
    have eS : apS l h bs r = cmS l h bs r := by unfold apS; rw [if_neg h1, if_pos h2]
    have eH : apH l h bs tk r = cmH l h bs r := by unfold apH; rw [if_pos h2]
    have eT : apT l h tk r = tk := by unfold apT; rw [if_neg (by omega)]
    rw [eE, eS, eH, eT] at k
    try simp only [sS]
    refine ldMa ?_ hb
    refine pcommit_c P1 (by omega) hdl o.le hr0 ok.i0.1 ok.i0.2 ok.t0 hfb (fun hv2 F2 M2 N2 rows2 hF2 P2 hM2 hN2 hm2 hw2 => ?_)
    exact fun hc => ⟨_, wk_refl hc, fun hw' => k hv2 F2 M2 N2 rows2 hF2 P2 (trp hM2) (by omega) hm2 hw'⟩
  try simp only [sS]
  refine eql_r (fun h3 => ?_) (fun h3 => ?_)
  · have eE : apE l h bs tk r = abE bs r := by unfold apE; rw [if_neg h1, if_neg h2, if_pos h3]
    have eS : apS l h bs r = abS bs r := by unfold apS; rw [if_neg h1, if_neg h2, if_pos h3]
    have eH : apH l h bs tk r = h := by unfold apH; rw [if_neg h2, if_neg (by omega)]
    have eT : apT l h tk r = tk := by unfold apT; rw [if_neg (by omega)]
    rw [eE, eS, eH, eT] at k
    try simp only [sS]
    refine ldMa ?_ hb
    refine pabort_c P1 hr0 ok.i0.1 ok.i0.2 (fun M2 N2 P2 hM2 hN2 hm2 hw2 => ?_)
    exact fun hc => ⟨_, wk_refl hc, fun hw' => k hv F M2 N2 rows (subF.refl _) P2 (trq hM2) (by omega) hm2 hw'⟩
  try simp only [sS]
  refine eql_r (fun h4 => ?_) (fun h4 => ?_)
  · have eE : apE l h bs tk r = tkE l h tk r := by unfold apE; rw [if_neg h1, if_neg h2, if_neg h3, if_pos h4]
    have eS : apS l h bs r = bs := by unfold apS; rw [if_neg h1, if_neg h2, if_neg h3]
    have eH : apH l h bs tk r = tkH l h tk r := by unfold apH; rw [if_neg h2, if_pos h4]
    have eT : apT l h tk r = tkT l h tk r := by unfold apT; rw [if_pos h4]
    rw [eE, eS, eH, eT] at k
    try simp only [sS]
    refine ldMa ?_ hb
    refine ptake_c P1 (by omega) o hdl hr0 ok.el ok.eT (fun hv2 F2 M2 N2 rows2 hF2 P2 hM2 hN2 hm2 hw2 => ?_)
    exact fun hc => ⟨_, wk_refl hc, fun hw' => k hv2 F2 M2 N2 rows2 hF2 P2 (trp hM2) (by omega) hm2 hw'⟩
  · have eE : apE l h bs tk r = 1 := by unfold apE; rw [if_neg h1, if_neg h2, if_neg h3, if_neg h4]
    have eS : apS l h bs r = bs := by unfold apS; rw [if_neg h1, if_neg h2, if_neg h3]
    have eH : apH l h bs tk r = h := by unfold apH; rw [if_neg h2, if_neg h4]
    have eT : apT l h tk r = tk := by unfold apT; rw [if_neg h4]
    rw [eE, eS, eH, eT] at k
    try simp only [sS]
    exact fun hc => ⟨_, wk_refl hc, fun hw' => k hv F M1 (b1 + 1) rows (subF.refl _) P1 (fun q q1 _ _ _ q5 => ⟨hM1 q q5, q1⟩) (by omega) hm1 hw'⟩
set_option maxRecDepth 10000 in
theorem pquery_c {cs : List Value} {t : Int} {m lo hi : List Int} (hE : E [] badH) (P : isPart F M B p g mb hv dv rows l h bs tk) (h12 : bs.length ≤ 12) (hdl : l.length ≤ 140737488351232) (hl : h.length ≤ 5000) (hT : ((h.map (·.2)).flatten).length ≤ 1000000) (hk : ∀ e ∈ h, ∀ f ∈ e.2, okK f.1) (hq : queryD F cs m lo hi) (hmi : ∀ x ∈ m, i64 x) (hok : ∀ r ∈ tab ((allI h (upTo h t)).map fr1), okK r.1)
    (k1 : ∀ ws F' N', 0 < ws.length → waits bs ws → (Hp.mk F' M N').wf → subF F F' → N ≤ N' → K (.tuple #[.slice none 0 0, .int .u16 141]) ⟨F', M, N'⟩)
    (k2 : waits bs [] → ∀ v' F' N', (Hp.mk F' M N').wf → subF F F' → N ≤ N' → tblD F' v' (runT l (tab ((allI h (upTo h t)).map fr1)) m lo hi) → K (.tuple #[v', .int .u16 ((runE l (tab ((allI h (upTo h t)).map fr1)) m lo hi : Nat) : Int)]) ⟨F', M, N'⟩) :
    callv Tryz.prog (.func (.func 19) #[] #[]) #[.pointer (some ⟨p, 0, none⟩), .agg cs.toArray, .int .u32 t] K E ⟨F, M, N⟩ := by
  refine callv_of_text mixed Tryz.func19 (by kernel_rfl) (t19 _ E _ _ _) (fun hw => ?_)
  have hm : clean M N := hw.m
  refine nw_r (cs := cs) (fun b1 hb1 => ?_) rfl
  have hb := upd_same M b1 (some (.cells 55 cs cs.length))
  have P1 := P.box hm hb1 (some (.cells 55 cs cs.length))
  have hm1 := hm.new hb1 (some (.cells 55 cs cs.length))
  have hsub : ∀ {F' : Nat → Option (List Value)} {N' : Nat}, (Hp.mk F' (upd M b1 (some (.cells 55 cs cs.length))) N').wf → (Hp.mk F' (upd M b1 (some (.cells 55 cs cs.length))) N').wk ⟨F', M, N'⟩ := fun hc => wk_drop hc (subM_drop (subM_refl _) (hm _ hb1))
  generalize upd M b1 _ = M1 at *
  refine pwait_c hE P1 h12 (fun v2 ws F2 N2 hw2 hF2 hN2 hws hsw => ?_)
  refine lenF_r hsw ?_
  refine gtr_r (fun h0 => ?_) (fun h0 => ?_)
  · try simp only [sS]
    exact fun hc => ⟨_, hsub hc, fun hw' => k1 ws F2 N2 (by omega) hws hw' hF2 (by omega)⟩
  · have e0 : ws = [] := List.eq_nil_of_length_eq_zero (by omega)
    subst e0
    try simp only [sS]
    refine ldM (v := .pointer (some ⟨g, 0, none⟩)) ?_ P1.pp
    have hq2 := hq
    obtain ⟨a, b, c, e, _⟩ := hq2
    subst e
    refine ldMa ?_ hb
    refine cquery_c (P1.cc.keep hF2 (fun _ _ => rfl)) hdl hl hT hk (hq.mono hF2) hmi hok (fun v3 F3 N3 hw3 hF3 hN3 ht => ?_)
    try simp only [sS]
    exact fun hc => ⟨_, hsub hc, fun hw' => k2 hws v3 F3 N3 hw' (hF2.trans hF3) (by omega) ht⟩
end
end Go.Proofs.YtgcmbkoejjcjlaaGreatDoor.A
open Go Go.RowKit Go.Proofs.YtgcmbkoejjcjlaaGreatDoor.K
set_option linter.unusedVariables false
set_option maxRecDepth 100000
namespace Go.Proofs.YtgcmbkoejjcjlaaGreatDoor.T
section
variable (K : Kont) (E : PanK) (k1 k2 k3 k4 k5 : Env → Hp → Prop) (x0 x1 x2 x3 x4 x5 x6 x7 x8 x9 x10 x11 x12 x13 x14 x15 x16 x17 x18 x19 x20 x21 x22 x23 x24 x25 x26 x27 x28 x29 x30 x31 x32 x33 x34 x35 x36 x37 x38 x39 x40 x41 x42 x43 x44 x45 x46 x47 x48 x49 x50 x51 x52 x53 x54 x55 x56 x57 x58 x59 x60 x61 x62 x63 x64 x65 x66 x67 x68 x69 x70 x71 x72 x73 x74 x75 x76 v0 v1 v2 v3 v4 v5 v6 v7 v8 v9 v10 v11 v12 v13 v14 v15 v16 v17 v18 v19 v20 v21 v22 v23 v24 v25 v26 v27 v28 v29 v30 v31 v32 v33 v34 v35 v36 v37 v38 v39 v40 v41 v42 v43 v44 v45 v46 v47 v48 v49 v50 v51 v52 v53 v54 v55 v56 v57 v58 v59 v60 v61 v62 v63 v64 v65 v66 v67 v68 v69 v70 v71 v72 v73 v74 v75 v76 : Value) (j : Nat → Value)
abbrev q10 : QD := bodyQ Tryz.prog Tryz.f10.results.toList K E
abbrev d10 (p : List Nat) : QD → Env → Hp → Prop := den Tryz.prog (sel (bodyOf Tryz.f10) p)
abbrev q11 : QD := bodyQ Tryz.prog Tryz.f11.results.toList K E
abbrev d11 (p : List Nat) : QD → Env → Hp → Prop := den Tryz.prog (sel (bodyOf Tryz.f11) p)
theorem t11 : d11 [] (q11 K E) #[U, U, U, U, U, U, U, U, U, U, U, U, U, U, U, U, U, U, U, U, U, U, U, U, U, U, U, U, U, U, U, U, U, U, U, U, U, U, U, U, U, U, U, U, U, U, U, U, U, U, U, U, U, U, U, U, U, U, U, U, U, U, U, U, U, U, U, U, U, U, U, U, U, U, U, U, U] =
  pv (bdC #[(.int .i64 0), (.slice none 0 0)] [(0, 1), (1, 1)] #[(0, (.int .i64 5))]) fun t1 =>
  nws 88 1 (bsC #[(.int .i64 0), (.slice none 0 0)] 2 1 #[(0, t1)]) fun t2 =>
  callv Tryz.prog (.func (.func 13) #[] #[]) #[t2] (fun t3 =>
  pv (binV .ptr .eql t3 (.pointer none)) fun t4 =>
  cnd t4 (
   K (.bool false)) (
   nws 3 1 (bsC #[(.int .i64 0)] 1 1 #[(0, (.int .i64 0))]) fun t5 =>
   nws 3 1 (bsC #[(.int .i64 0)] 1 1 #[(0, (.int .i64 1))]) fun t6 =>
   pv (bdC #[(.slice none 0 0), (.int .i64 0)] [(0, 1), (1, 1)] #[(0, t6), (1, (.int .i64 4))]) fun t7 =>
   nws 90 1 (bsC #[(.slice none 0 0), (.int .i64 0)] 2 1 #[(0, t7)]) fun t8 =>
   pv (bdC #[(.int .u8 0), (.int .u32 0), (.int .u32 0), (.slice none 0 0), (.slice none 0 0), (.int .u32 0), (.slice none 0 0), (.int .i64 0), (.int .i64 0), (.slice none 0 0)] [(0, 1), (1, 1), (2, 1), (3, 1), (4, 1), (5, 2), (7, 1), (8, 1), (9, 1)] #[(0, (.int .u8 1)), (1, (.int .u32 7)), (3, t5), (4, t8)]) fun t9 =>
   callv Tryz.prog (.func (.func 14) #[] #[]) #[t3, t9] (fun t10 =>
   nws 3 1 (bsC #[(.int .i64 0)] 1 1 #[(0, (.int .i64 0))]) fun t11 =>
   nws 3 1 (bsC #[(.int .i64 0)] 1 1 #[(0, (.int .i64 0))]) fun t12 =>
   nws 3 1 (bsC #[(.int .i64 0)] 1 1 #[(0, (.int .i64 5))]) fun t13 =>
   pv (bdC #[(.slice none 0 0), (.slice none 0 0), (.slice none 0 0)] [(0, 1), (1, 1), (2, 1)] #[(0, t11), (1, t12), (2, t13)]) fun t14 =>
   nw 55 [(.slice none 0 0), (.slice none 0 0), (.slice none 0 0)] fun t15 =>
   st 3 t15 t14 fun _ =>
   ld true 3 t15 fun t16 =>
   callv Tryz.prog (.func (.func 19) #[] #[]) #[t3, t16, (.int .u32 3)] (fun t17 =>
   pv (exV 0 t17) fun t18 =>
   pv (exV 1 t17) fun t19 =>
   callv Tryz.prog (.func (.func 18) #[] #[]) #[t3] (fun t20 =>
   pv (lenV t20) fun t21 =>
   pv (bdC #[(.int .u8 0), (.int .u32 0), (.int .u32 0), (.slice none 0 0), (.slice none 0 0), (.int .u32 0), (.slice none 0 0), (.int .i64 0), (.int .i64 0), (.slice none 0 0)] [(0, 1), (1, 1), (2, 1), (3, 1), (4, 1), (5, 2), (7, 1), (8, 1), (9, 1)] #[(0, (.int .u8 2)), (1, (.int .u32 7)), (2, (.int .u32 3))]) fun t22 =>
   callv Tryz.prog (.func (.func 14) #[] #[]) #[t3, t22] (fun t23 =>
   ld true 3 t15 fun t24 =>
   callv Tryz.prog (.func (.func 19) #[] #[]) #[t3, t24, (.int .u32 3)] (fun t25 =>
   pv (exV 0 t25) fun t26 =>
   pv (exV 1 t25) fun t27 =>
   pv (binV .none .eql t10 (.int .u16 0)) fun t28 =>
   gdK t28 true (fun k => k t19) fun t29 =>
   gdK t28 true (fun k => pv (binV .none .eql t29 (.int .u16 141)) k) fun t30 =>
   pv (pickV t28 t30 (.bool false)) fun t31 =>
   gdK t31 true (fun k => k t21) fun t32 =>
   gdK t31 true (fun k => pv (binV .none .eql t32 (.int .i64 1)) k) fun t33 =>
   pv (pickV t31 t33 (.bool false)) fun t34 =>
   gdK t34 true (fun k => k t23) fun t35 =>
   gdK t34 true (fun k => pv (binV .none .eql t35 (.int .u16 0)) k) fun t36 =>
   pv (pickV t34 t36 (.bool false)) fun t37 =>
   gdK t37 true (fun k => k t27) fun t38 =>
   gdK t37 true (fun k => pv (binV .none .eql t38 (.int .u16 0)) k) fun t39 =>
   pv (pickV t37 t39 (.bool false)) fun t40 =>
   gdK t40 true (fun k => k t26) fun t41 =>
   gdK t40 true (fun k => pv (lenV t41) k) fun t42 =>
   gdK t40 true (fun k => pv (binV .none .eql t42 (.int .i64 1)) k) fun t43 =>
   pv (pickV t40 t43 (.bool false)) fun t44 =>
   gdK t44 true (fun k => k t3) fun t45 =>
   gdK t44 true (fun k => callv Tryz.prog (.func (.func 16) #[] #[]) #[t45, (.int .u32 7)] k E) fun t46 =>
   gdK t44 true (fun k => pv (bdC #[(.int .u8 0), (.int .u32 0)] [(0, 1), (1, 1)] #[(0, (.int .u8 2)), (1, (.int .u32 3))]) k) fun t47 =>
   gdK t44 true (fun k => pv (eqCells .eql [0, 0] t46 t47) k) fun t48 =>
   pv (pickV t44 t48 (.bool false)) fun t49 =>
   gdK t49 true (fun k => callv Tryz.prog (.func (.func 13) #[] #[]) #[(.slice none 0 0)] k E) fun t50 =>
   gdK t49 true (fun k => pv (binV .ptr .eql t50 (.pointer none)) k) fun t51 =>
   pv (pickV t49 t51 (.bool false)) fun t52 =>
   K t52) E) E) E) E) E)) E := by kernel_rfl
abbrev q15 : QD := bodyQ Tryz.prog Tryz.f15.results.toList K E
abbrev d15 (p : List Nat) : QD → Env → Hp → Prop := den Tryz.prog (sel (bodyOf Tryz.f15) p)
abbrev q22 : QD := bodyQ Tryz.prog Tryz.f22.results.toList K E
abbrev d22 (p : List Nat) : QD → Env → Hp → Prop := den Tryz.prog (sel (bodyOf Tryz.f22) p)
end
section
variable {K : Kont} {E : PanK} {k1 k2 k3 k4 k5 : Env → Hp → Prop} {σ : Type} {x0 x1 x2 x3 x4 x5 x6 x7 x8 x9 x10 x11 x12 x13 x14 x15 x16 x17 x18 x19 x20 x21 x22 x23 x24 x25 x26 x27 x28 x29 x30 x31 x32 x33 x34 x35 x36 x37 x38 x39 x40 x41 x42 x43 x44 x45 x46 x47 x48 x49 x50 x51 x52 x53 x54 x55 x56 x57 x58 x59 x60 x61 x62 x63 x64 x65 x66 x67 x68 x69 x70 x71 x72 x73 x74 x75 x76 v0 v1 v2 v3 v4 v5 v6 v7 v8 v9 v10 v11 v12 v13 v14 v15 v16 v17 v18 v19 v20 v21 v22 v23 v24 v25 v26 v27 v28 v29 v30 v31 v32 v33 v34 v35 v36 v37 v38 v39 v40 v41 v42 v43 v44 v45 v46 v47 v48 v49 v50 v51 v52 v53 v54 v55 v56 v57 v58 v59 v60 v61 v62 v63 v64 v65 v66 v67 v68 v69 v70 v71 v72 v73 v74 v75 v76 : Value} {h : Hp} {j : Nat → Value}
end
end Go.Proofs.YtgcmbkoejjcjlaaGreatDoor.T
open Go Go.RowKit Go.Proofs.YtgcmbkoejjcjlaaGreatDoor.K Go.Proofs.YtgcmbkoejjcjlaaGreatDoor.T
set_option linter.unusedVariables false
set_option linter.unusedSimpArgs false
namespace Go.Proofs.YtgcmbkoejjcjlaaGreatDoor.A
variable {F F' : Nat → Option (List Value)} {M M' : Nat → Option Chunk} {N N' : Nat} {K : Kont} {E : PanK}
def r14a : RecA := ⟨1, 7, 0, [0], [([1], 4)], 0, 0, []⟩
def r14b : RecA := ⟨2, 7, 3, [], [], 0, 0, []⟩
def b14a : Bts := [(7, ⟨1, 0, [0], [([1], 4)]⟩)]
def b14b : Bts := [(7, ⟨2, 3, [], []⟩)]
def l14 : List Dm := [(5, [])]
def h14 : List En := [(3, [([1], 4)])]
theorem k14a : apE l14 [] [] 0 r14a = 0 ∧ apH l14 [] [] 0 r14a = [] ∧ apS l14 [] [] r14a = b14a ∧ apT l14 [] 0 r14a = 0 := ⟨by kernel_rfl, by kernel_rfl, by kernel_rfl, by kernel_rfl⟩
theorem k14b : apE l14 [] b14a 0 r14b = 0 ∧ apH l14 [] b14a 0 r14b = h14 ∧ apS l14 [] b14a r14b = b14b ∧ apT l14 [] 0 r14b = 0 := ⟨by kernel_rfl, by kernel_rfl, by kernel_rfl, by kernel_rfl⟩
theorem k14q : allI h14 (upTo h14 3) = [([1], 4)] ∧ tab ([([1], 4)].map fr1) = [([1], ⟨1, 4, 4, 4⟩)] ∧ runE l14 [([1], ⟨1, 4, 4, 4⟩)] [0] [0] [5] = 0 ∧ runT l14 [([1], ⟨1, 4, 4, 4⟩)] [0] [0] [5] = [([1], ⟨1, 4, 4, 4⟩)] := by decide +kernel
theorem ok14a : RecA.ok r14a := ⟨by decide, by decide, by decide, by decide, by decide, by simp [r14a]⟩
theorem ok14b : RecA.ok r14b := ⟨by decide, by decide, by decide, by decide, by decide, by simp [r14b]⟩
theorem waits_a {ws : List Int} (h : waits b14a ws) : ws = [7] := by
  refine rises_ext h.1 (List.pairwise_singleton _ _) fun x => ?_
  rw [h.2, List.mem_singleton, hasB_iff]
  constructor
  · rintro ⟨⟨y, hy, e⟩, _⟩
    rw [← e]
    simp [b14a] at hy
    rw [hy]
  · rintro rfl
    exact ⟨⟨_, List.mem_cons_self, rfl⟩, by decide⟩
theorem waits_b {ws : List Int} (h : waits b14b ws) : ws = [] := by
  refine List.eq_nil_iff_forall_not_mem.2 fun x hx => ?_
  obtain ⟨h1, h2⟩ := (h.2 x).1 hx
  obtain ⟨y, hy, e⟩ := hasB_iff.1 h1
  simp [b14b] at hy
  rw [hy] at e
  simp only at e
  subst e
  exact absurd h2 (by decide)
set_option maxRecDepth 10000 in
set_option maxHeartbeats 8000000 in
theorem known14_c (hE : E [] badH) (k : ∀ F' N', subF F F' → N ≤ N' → (Hp.mk F' M N').wf → K (.bool true) ⟨F', M, N'⟩) : callv Tryz.prog (.func (.func 11) #[] #[]) #[] K E ⟨F, M, N⟩ := by
  refine callv_of_text mixed Tryz.func11 (by kernel_rfl) (t11 _ E) (fun hw => ?_)
  have hm : clean M N := hw.m
  refine pv_r (v := .agg #[.int .i64 5, .slice none 0 0]) (by kernel_rfl) ?_
  refine nws_r (cs := [.int .i64 5, .slice none 0 0]) (by kernel_rfl) (fun b2 hb2 => ?_)
  refine callv_go (fun hc => ⟨_, frz_wf hm (fun q hq => upd_ne _ _ (by omega)) hc, ?_⟩)
  have hs0 := subF_frzAll (N := N) hc
  have f2 := frz_at (F := F) (N := N) (b := b2) (by omega) (upd_same M b2 (some (.cells 88 [.int .i64 5, .slice none 0 0] [Value.int .i64 5, .slice none 0 0].length)))
  generalize frzAll F _ N = F0 at *
  clear hc
  have hd1 : dimD F0 [.int .i64 5, .slice none 0 0] (5, []) := ⟨_, rfl, sF.nil _ _ _, by decide⟩
  have hd : dimsD F0 (.slice (some ⟨b2, 0, none⟩) 1 1) l14 := ⟨[[.int .i64 5, .slice none 0 0]], sF_lit f2 rfl (by decide), rowsF_snoc1 (rowsF.nil (dimD F0) 2) hd1.one hd1⟩
  refine pnew_c hd (by decide) (fun h => absurd h (by decide)) (fun _ p g mb dv F1 M1 N1 hF1 P1 hM1 hN1 hm1 hw1 => ?_)
  refine ptr_ne ?_
  try simp only [sS]
  refine nws_r (cs := [.int .i64 0]) (by kernel_rfl) (fun b5 hb5 => ?_)
  refine nws_r (cs := [.int .i64 1]) (by kernel_rfl) (fun b6 hb6 => ?_)
  refine pv_r (v := .agg #[.slice (some ⟨b6, 0, none⟩) 1 1, .int .i64 4]) (by kernel_rfl) ?_
  refine nws_r (cs := [.slice (some ⟨b6, 0, none⟩) 1 1, .int .i64 4]) (by kernel_rfl) (fun b8 hb8 => ?_)
  refine pv_r (v := .agg #[.int .u8 1, .int .u32 7, .int .u32 0, .slice (some ⟨b5, 0, none⟩) 1 1, .slice (some ⟨b8, 0, none⟩) 1 1, .int .u32 0, .slice none 0 0, .int .i64 0, .int .i64 0, .slice none 0 0]) (by kernel_rfl) ?_
  generalize hMx : upd (upd (upd M1 b5 _) b6 _) b8 _ = Mx
  have x5 : Mx b5 = some (.cells 3 [.int .i64 0] 1) := by rw [← hMx]; exact (upd_ne _ _ (by omega)).trans ((upd_ne _ _ (by omega)).trans (upd_same _ _ _))
  have x6 : Mx b6 = some (.cells 3 [.int .i64 1] 1) := by rw [← hMx]; exact (upd_ne _ _ (by omega)).trans (upd_same _ _ _)
  have x8 : Mx b8 = some (.cells 90 [.slice (some ⟨b6, 0, none⟩) 1 1, .int .i64 4] 2) := by rw [← hMx]; exact upd_same _ _ _
  have hMx1 : ∀ q, q < N1 → Mx q = M1 q := fun q hq => by rw [← hMx]; exact (upd_ne _ _ (by omega)).trans ((upd_ne _ _ (by omega)).trans (upd_ne _ _ (by omega)))
  clear hMx
  refine callv_go (fun hc => ⟨_, frz_wf hm1 hMx1 hc, ?_⟩)
  have hs2 := subF_frzAll (N := N1) hc
  have y5 := frz_at (F := F1) (N := N1) (b := b5) (by omega) x5
  have y6 := frz_at (F := F1) (N := N1) (b := b6) (by omega) x6
  have y8 := frz_at (F := F1) (N := N1) (b := b8) (by omega) x8
  generalize frzAll F1 Mx N1 = F2 at *
  clear hc x5 x6 x8 hMx1 Mx
  have hr1 : recD F2 [.int .u8 1, .int .u32 7, .int .u32 0, .slice (some ⟨b5, 0, none⟩) 1 1, .slice (some ⟨b8, 0, none⟩) 1 1, .int .u32 0, .slice none 0 0, .int .i64 0, .int .i64 0, .slice none 0 0] r14a :=
    ⟨_, _, _, _, _, rfl, int1 y5, one_fact y6 y8, entsD.nil, rfl, rfl⟩
  obtain ⟨a1, a2, a3, a4⟩ := k14a
  refine papply_c (P1.keep (M' := M1) hs2 (fun _ _ => rfl)) (by omega) (okH.nil _ _ _) (by decide) hr1 ok14a (by decide) (fun hv3 F3 M3 N3 rows3 hF3 P3 hM3 hN3 hm3 hw3 => ?_)
  rw [a1]
  rw [a2, a3, a4] at P3
  refine nws_r (cs := [.int .i64 0]) (by kernel_rfl) (fun b13 hb13 => ?_)
  refine nws_r (cs := [.int .i64 0]) (by kernel_rfl) (fun b14 hb14 => ?_)
  refine nws_r (cs := [.int .i64 5]) (by kernel_rfl) (fun b15 hb15 => ?_)
  refine pv_r (v := .agg #[.slice (some ⟨b13, 0, none⟩) 1 1, .slice (some ⟨b14, 0, none⟩) 1 1, .slice (some ⟨b15, 0, none⟩) 1 1]) (by kernel_rfl) ?_
  refine nw_r (fun b17 hb17 => ?_)
  refine stM (cs' := [.slice (some ⟨b13, 0, none⟩) 1 1, .slice (some ⟨b14, 0, none⟩) 1 1, .slice (some ⟨b15, 0, none⟩) 1 1]) ?_
  rw [upd_upd]
  refine ldMa (vs := [.slice (some ⟨b13, 0, none⟩) 1 1, .slice (some ⟨b14, 0, none⟩) 1 1, .slice (some ⟨b15, 0, none⟩) 1 1]) ?_
  generalize hM7 : upd (upd (upd (upd M3 b13 _) b14 _) b15 _) b17 _ = M7
  have g17 : M7 b17 = some (.cells 55 [.slice (some ⟨b13, 0, none⟩) 1 1, .slice (some ⟨b14, 0, none⟩) 1 1, .slice (some ⟨b15, 0, none⟩) 1 1] 3) := by rw [← hM7]; exact upd_same _ _ _
  have g15 : M7 b15 = some (.cells 3 [.int .i64 5] 1) := by rw [← hM7]; exact (upd_ne _ _ (by omega)).trans (upd_same _ _ _)
  have g14 : M7 b14 = some (.cells 3 [.int .i64 0] 1) := by rw [← hM7]; exact (upd_ne _ _ (by omega)).trans ((upd_ne _ _ (by omega)).trans (upd_same _ _ _))
  have g13 : M7 b13 = some (.cells 3 [.int .i64 0] 1) := by rw [← hM7]; exact (upd_ne _ _ (by omega)).trans ((upd_ne _ _ (by omega)).trans ((upd_ne _ _ (by omega)).trans (upd_same _ _ _)))
  have hM75 : ∀ q, q < N3 → M7 q = M3 q := fun q hq => by rw [← hM7]; exact (upd_ne _ _ (by omega)).trans ((upd_ne _ _ (by omega)).trans ((upd_ne _ _ (by omega)).trans (upd_ne _ _ (by omega))))
  have hm7 : clean M7 (b17 + 1) := by rw [← hM7]; exact (((hm3.new hb13 _).new hb14 _).new hb15 _).new hb17 _
  clear hM7
  obtain ⟨N7, hN7⟩ : ∃ n, n = b17 + 1 := ⟨_, rfl⟩
  rw [← hN7] at hm7 ⊢
  refine callv_go (fun hc => ⟨_, wk_P (p := fun q => q = b13 ∨ q = b14 ∨ q = b15) hc, ?_⟩)
  have hs8 := subF_frzP (p := fun q => q = b13 ∨ q = b14 ∨ q = b15) hc
  have f13 := frzP_at (F := F3) (p := fun q => q = b13 ∨ q = b14 ∨ q = b15) (.inl rfl) g13
  have f14 := frzP_at (F := F3) (p := fun q => q = b13 ∨ q = b14 ∨ q = b15) (.inr (.inl rfl)) g14
  have f15 := frzP_at (F := F3) (p := fun q => q = b13 ∨ q = b14 ∨ q = b15) (.inr (.inr rfl)) g15
  have g17' : keepM M7 (fun q => ¬ (q = b13 ∨ q = b14 ∨ q = b15)) b17 = _ := (keepM_in (by omega)).trans g17
  have hM85 : ∀ q, q < N3 → keepM M7 (fun q => ¬ (q = b13 ∨ q = b14 ∨ q = b15)) q = M3 q := fun q hq => (keepM_in (by omega)).trans (hM75 q hq)
  have hm8 := keepM_clean (p := fun q => ¬ (q = b13 ∨ q = b14 ∨ q = b15)) hm7
  generalize frzP F3 M7 _ = F8 at *
  generalize keepM M7 _ = M8 at *
  have hq : queryD F8 [.slice (some ⟨b13, 0, none⟩) 1 1, .slice (some ⟨b14, 0, none⟩) 1 1, .slice (some ⟨b15, 0, none⟩) 1 1] [0] [0] [5] := ⟨_, _, _, rfl, int1 f13, int1 f14, int1 f15, by decide, by decide, by decide⟩
  have P8 := P3.up (M' := M8) hm3 hs8 hM85
  obtain ⟨q1, q2, q3, q4⟩ := k14q
  refine pquery_c hE P8 (by decide) (by decide) (by decide) (by decide) (by simp) hq (by simp [i64]) (by simp [allI, tab]) (fun ws F9 N9 h0 hws hw9 hF9 hN9 => ?_) (fun h0 => absurd (waits_a h0) (by simp))
  try simp only [sS]
  refine pwait_c hE (P8.keep (M' := M8) hF9 (fun _ _ => rfl)) (by decide) (fun u10 ws2 F10 N10 hw10 hF10 hN10 hws2 hs10 => ?_)
  rw [waits_a hws2] at hs10
  refine lenF_r hs10 ?_
  refine pv_r (v := .agg #[.int .u8 2, .int .u32 7, .int .u32 3, .slice none 0 0, .slice none 0 0, .int .u32 0, .slice none 0 0, .int .i64 0, .int .i64 0, .slice none 0 0]) (by kernel_rfl) ?_
  have hr2 : recD F10 [.int .u8 2, .int .u32 7, .int .u32 3, .slice none 0 0, .slice none 0 0, .int .u32 0, .slice none 0 0, .int .i64 0, .int .i64 0, .slice none 0 0] r14b :=
    ⟨_, _, _, _, _, rfl, sF.nil _ _ _, fctsD.nil, entsD.nil, rfl, rfl⟩
  obtain ⟨c1, c2, c3, c4⟩ := k14b
  have hF810 := hF9.trans hF10
  refine papply_c (P8.keep (M' := M8) hF810 (fun _ _ => rfl)) (by omega) (okH.nil _ _ _) (by decide) hr2 ok14b (by decide) (fun hv11 F11 M11 N11 rows11 hF11 P11 hM11 hN11 hm11 hw11 => ?_)
  rw [c1]
  rw [c2, c3, c4] at P11
  have hpl3 := P3.lt hm3
  have g17b := (hM11 b17 (fun e => by have := (hpl3 b17 (.inr (.inr (.inr e)))).2; omega) (fun e => by have := (hpl3 g (.inr (.inr (.inl rfl)))).2; omega) (fun e => by have := (hpl3 mb (.inr (.inl rfl))).2; omega) (fun e => by have := (hpl3 p (.inl rfl)).2; omega) (by omega)).1.trans g17'
  refine ldMa (vs := [.slice (some ⟨b13, 0, none⟩) 1 1, .slice (some ⟨b14, 0, none⟩) 1 1, .slice (some ⟨b15, 0, none⟩) 1 1]) ?_ g17b
  refine pquery_c hE P11 (by decide) (by decide) (by decide) (by decide) (by simp [h14, okK, i64]) (hq.mono (hF810.trans hF11)) (by simp [i64]) (by rw [q1, q2]; simp [okK, i64]) (fun ws F12 N12 h0 hws => by rw [waits_b hws] at h0; simp at h0) (fun _ u12 F12 N12 hw12 hF12 hN12 h12 => ?_)
  rw [q1, q2, q3]
  rw [q1, q2, q4] at h12
  obtain ⟨p12, h12a, h12b⟩ := h12
  try simp only [sS]
  refine eql_t rfl ?_
  try simp only [sS]
  refine eql_t rfl ?_
  try simp only [sS]
  refine eql_t rfl ?_
  try simp only [sS]
  refine eql_t rfl ?_
  try simp only [sS]
  refine eql_t rfl ?_
  try simp only [sS]
  refine lenF_r h12a (eql_t rfl ?_)
  try simp only [sS]
  refine pstatus_c (id := 7) (P11.keep (M' := M11) hF12 (fun _ _ => rfl)) (fun N13 hN13 hw13 => ?_)
  refine pv_r (v := .agg #[.int .u8 2, .int .u32 3]) (by kernel_rfl) ?_
  refine pv_r (v := .bool true) (by kernel_rfl) ?_
  try simp only [sS]
  refine pnew_c (l := []) ⟨[], sF.nil _ _ _, rowsF.nil _ _⟩ (by decide) (fun _ N14 hN14 hw14 => ?_) (fun h => absurd h (by decide))
  refine pv_r (v := .bool true) rfl ?_
  try simp only [sS]
  have hpl1 := P1.lt hm1
  have hge1 : ∀ q, q = p ∨ q = mb ∨ q = g → N ≤ q := fun q hq => by have := (hpl1 q (by rcases hq with h | h | h; exact .inl h; exact .inr (.inl h); exact .inr (.inr (.inl h)))).1; omega
  have hX : ∀ q, q < N → M11 q = M q := fun q hq => by
    have np : q ≠ p := fun e => by have := hge1 p (.inl rfl); omega
    have nmb : q ≠ mb := fun e => by have := hge1 mb (.inr (.inl rfl)); omega
    have ng : q ≠ g := fun e => by have := hge1 g (.inr (.inr rfl)); omega
    have n3 : hv3.ownBlock ≠ some q := fun e => by have := (hpl3 q (.inr (.inr (.inr e)))).1; omega
    rw [(hM11 q n3 ng nmb np (by omega)).1, hM85 q (by omega), (hM3 q (by simp [Value.ownBlock]) ng nmb np (by omega)).1, hM1 q (by omega)]
  exact fun hc => ⟨_, frz_wf hm hX hc, fun hw' => k _ _ ((((((hs0.trans hF1).trans hs2).trans hF3).trans hs8).trans hF810).trans ((hF11.trans hF12).trans (subF_frzAll hc))) (by omega) hw'⟩
end Go.Proofs.YtgcmbkoejjcjlaaGreatDoor.A
open Go Go.RowKit Go.Proofs.YtgcmbkoejjcjlaaGreatDoor.K
set_option linter.unusedVariables false
set_option maxRecDepth 100000
namespace Go.Proofs.YtgcmbkoejjcjlaaGreatDoor.T
section
variable (K : Kont) (E : PanK) (k1 k2 k3 k4 k5 : Env → Hp → Prop) (x0 x1 x2 x3 x4 x5 x6 x7 x8 x9 x10 x11 x12 x13 x14 x15 x16 x17 x18 x19 x20 x21 x22 x23 x24 x25 x26 x27 x28 x29 x30 x31 x32 x33 x34 x35 x36 x37 x38 x39 x40 x41 x42 x43 x44 x45 x46 x47 x48 x49 x50 x51 x52 x53 x54 x55 x56 x57 x58 x59 x60 x61 x62 x63 x64 x65 x66 x67 x68 x69 x70 x71 x72 x73 x74 x75 x76 x77 x78 x79 x80 x81 x82 x83 x84 x85 x86 x87 x88 x89 x90 x91 x92 x93 x94 x95 x96 x97 x98 x99 x100 x101 x102 x103 x104 x105 x106 x107 x108 x109 x110 x111 x112 x113 x114 x115 x116 x117 x118 x119 x120 x121 x122 x123 v0 v1 v2 v3 v4 v5 v6 v7 v8 v9 v10 v11 v12 v13 v14 v15 v16 v17 v18 v19 v20 v21 v22 v23 v24 v25 v26 v27 v28 v29 v30 v31 v32 v33 v34 v35 v36 v37 v38 v39 v40 v41 v42 v43 v44 v45 v46 v47 v48 v49 v50 v51 v52 v53 v54 v55 v56 v57 v58 v59 v60 v61 v62 v63 v64 v65 v66 v67 v68 v69 v70 v71 v72 v73 v74 v75 v76 v77 v78 v79 v80 v81 v82 v83 v84 v85 v86 v87 v88 v89 v90 v91 v92 v93 v94 v95 v96 v97 v98 v99 v100 v101 v102 v103 v104 v105 v106 v107 v108 v109 v110 v111 v112 v113 v114 v115 v116 v117 v118 v119 v120 v121 v122 v123 : Value) (j : Nat → Value)
abbrev q7 : QD := bodyQ Tryz.prog Tryz.f7.results.toList K E
abbrev d7 (p : List Nat) : QD → Env → Hp → Prop := den Tryz.prog (sel (bodyOf Tryz.f7) p)
theorem t7 : d7 [] (q7 K E) #[x0, x1, x2, x3, x4, U, U, U, U, U, U, U, U, U, U, U, U, U, U, U, U, U, U, U, U, U, U, U, U, U, U, U, U, U, U, U, U, U, U, U, U, U, U, U, U, U, U, U, U, U, U, U, U, U, U, U, U, U, U, U, U, U, U, U, U, U, U, U, U, U, U, U, U, U, U, U, U, U, U, U, U, U, U, U, U, U, U, U, U, U, U, U, U, U, U, U, U, U, U, U, U, U, U, U, U, U, U, U, U, U, U, U, U, U, U, U, U, U, U, U, U, U, U, U] =
  pv (lenV x3) fun t1 =>
  pv (binV .none .gtr t1 (.int .i64 100)) fun t2 =>
  gdK t2 false (fun k => callv Tryz.prog (.func (.func 11) #[] #[]) #[] k E) fun t3 =>
  gdK t2 false (fun k => pv (unV .not t3) k) fun t4 =>
  pv (pickV t2 (.bool true) t4) fun t5 =>
  cnd t5 (
   callv Tryz.prog (.func (.func 11) #[] #[]) #[] (fun t6 =>
   K t6) E) (
   callv Tryz.prog (.func (.func 12) #[] #[]) #[x0] (fun t7 =>
   callv Tryz.prog (.func (.func 13) #[] #[]) #[t7] (fun t8 =>
   pv (binV .ptr .eql t8 (.pointer none)) fun t9 =>
   cnd t9 (
    K (.bool false)) (
    callv Tryz.prog (.func (.func 20) #[] #[]) #[t7, x3, x4] (fun t10 =>
    pv (bdC #[(.int .u8 0), (.int .u32 0), (.int .u32 0), (.slice none 0 0), (.slice none 0 0), (.int .u32 0), (.slice none 0 0), (.int .i64 0), (.int .i64 0), (.slice none 0 0)] [(0, 1), (1, 1), (2, 1), (3, 1), (4, 1), (5, 2), (7, 1), (8, 1), (9, 1)] #[(0, (.int .u8 1)), (1, x1), (4, t10)]) fun t11 =>
    callv Tryz.prog (.func (.func 14) #[] #[]) #[t8, t11] (fun t12 =>
    pv (nilV t8) fun t13 =>
    pv (faV 0 t13) fun t14 =>
    ld false 1 t14 fun t15 =>
    callv Tryz.prog (.func (.func 24) #[] #[]) #[t15, (.int .i64 0), (.int .i64 10000)] (fun t16 =>
    pv (lenV t16) fun t17 =>
    pv (bdC #[(.int .u8 0), (.int .u32 0), (.int .u32 0), (.slice none 0 0), (.slice none 0 0), (.int .u32 0), (.slice none 0 0), (.int .i64 0), (.int .i64 0), (.slice none 0 0)] [(0, 1), (1, 1), (2, 1), (3, 1), (4, 1), (5, 2), (7, 1), (8, 1), (9, 1)] #[(0, (.int .u8 2)), (1, x1), (2, x2)]) fun t18 =>
    callv Tryz.prog (.func (.func 14) #[] #[]) #[t8, t18] (fun t19 =>
    pv (binV .none .add x2 (.int .u32 1)) fun t20 =>
    pv (bdC #[(.int .u8 0), (.int .u32 0), (.int .u32 0), (.slice none 0 0), (.slice none 0 0), (.int .u32 0), (.slice none 0 0), (.int .i64 0), (.int .i64 0), (.slice none 0 0)] [(0, 1), (1, 1), (2, 1), (3, 1), (4, 1), (5, 2), (7, 1), (8, 1), (9, 1)] #[(0, (.int .u8 2)), (1, x1), (2, t20)]) fun t21 =>
    callv Tryz.prog (.func (.func 14) #[] #[]) #[t8, t21] (fun t22 =>
    pv (binV .none .eql x2 (.int .u32 0)) fun t23 =>
    cnd t23 (
     pv (binV .none .eql t12 (.int .u16 0)) fun t24 =>
     gdK t24 true (fun k => k t19) fun t25 =>
     gdK t24 true (fun k => pv (binV .none .eql t25 (.int .u16 130)) k) fun t26 =>
     pv (pickV t24 t26 (.bool false)) fun t27 =>
     gdK t27 true (fun k => k t8) fun t28 =>
     gdK t27 true (fun k => k x1) fun t29 =>
     gdK t27 true (fun k => callv Tryz.prog (.func (.func 16) #[] #[]) #[t28, t29] k E) fun t30 =>
     gdK t27 true (fun k => pv (fdV false 0 1 t30) k) fun t31 =>
     gdK t27 true (fun k => pv (binV .none .neq t31 (.int .u8 3)) k) fun t32 =>
     pv (pickV t27 t32 (.bool false)) fun t33 =>
     K t33) (
     pv (nilV t8) fun t34 =>
     pv (faV 0 t34) fun t35 =>
     ld false 1 t35 fun t36 =>
     callv Tryz.prog (.func (.func 24) #[] #[]) #[t36, (.int .i64 0), (.int .i64 10000)] (fun t37 =>
     pv (binV .none .eql t12 (.int .u16 0)) fun t38 =>
     gdK t38 true (fun k => k t17) fun t39 =>
     gdK t38 true (fun k => pv (binV .none .eql t39 (.int .i64 0)) k) fun t40 =>
     pv (pickV t38 t40 (.bool false)) fun t41 =>
     gdK t41 true (fun k => k t19) fun t42 =>
     gdK t41 true (fun k => pv (binV .none .eql t42 (.int .u16 0)) k) fun t43 =>
     pv (pickV t41 t43 (.bool false)) fun t44 =>
     gdK t44 true (fun k => k t22) fun t45 =>
     gdK t44 true (fun k => pv (binV .none .eql t45 (.int .u16 140)) k) fun t46 =>
     pv (pickV t44 t46 (.bool false)) fun t47 =>
     gdK t47 true (fun k => k t37) fun t48 =>
     gdK t47 true (fun k => pv (lenV t48) k) fun t49 =>
     gdK t47 true (fun k => k t10) fun t50 =>
     gdK t47 true (fun k => pv (lenV t50) k) fun t51 =>
     gdK t47 true (fun k => pv (mm false t51 (.int .i64 1)) k) fun t52 =>
     gdK t47 true (fun k => pv (binV .none .eql t49 t52) k) fun t53 =>
     pv (pickV t47 t53 (.bool false)) fun t54 =>
     gdK t54 true (fun k => k t10) fun t55 =>
     gdK t54 true (fun k => pv (lenV t55) k) fun t56 =>
     gdK t54 true (fun k => pv (binV .none .eql t56 (.int .i64 0)) k) fun t57 =>
     gdK t54 true (fun k => k t57) fun t58 =>
     gdK t58 false (fun k => k t37) fun t59 =>
     gdK t58 false (fun k => pv (iaV none 2 t59 (.int .i64 0)) k) fun t60 =>
     gdK t58 false (fun k => pv (faV 0 t60) k) fun t61 =>
     gdK t58 false (fun k => ld false 1 t61 k) fun t62 =>
     gdK t58 false (fun k => k x2) fun t63 =>
     gdK t58 false (fun k => pv (binV .none .eql t62 t63) k) fun t64 =>
     gdK t58 false (fun k => k t64) fun t65 =>
     gdK t65 true (fun k => k t37) fun t66 =>
     gdK t65 true (fun k => pv (iaV none 2 t66 (.int .i64 0)) k) fun t67 =>
     gdK t65 true (fun k => pv (faV 1 t67) k) fun t68 =>
     gdK t65 true (fun k => ld false 1 t68 k) fun t69 =>
     gdK t65 true (fun k => pv (lenV t69) k) fun t70 =>
     gdK t65 true (fun k => k t10) fun t71 =>
     gdK t65 true (fun k => pv (lenV t71) k) fun t72 =>
     gdK t65 true (fun k => pv (binV .none .eql t70 t72) k) fun t73 =>
     gdK t58 false (fun k => pv (pickV t65 t73 (.bool false)) k) fun t74 =>
     gdK t54 true (fun k => pv (pickV t58 (.bool true) t74) k) fun t75 =>
     pv (pickV t54 t75 (.bool false)) fun t76 =>
     K t76) E)) E) E) E) E) E)) E) E) := by kernel_rfl
end
section
variable {K : Kont} {E : PanK} {k1 k2 k3 k4 k5 : Env → Hp → Prop} {σ : Type} {x0 x1 x2 x3 x4 x5 x6 x7 x8 x9 x10 x11 x12 x13 x14 x15 x16 x17 x18 x19 x20 x21 x22 x23 x24 x25 x26 x27 x28 x29 x30 x31 x32 x33 x34 x35 x36 x37 x38 x39 x40 x41 x42 x43 x44 x45 x46 x47 x48 x49 x50 x51 x52 x53 x54 x55 x56 x57 x58 x59 x60 x61 x62 x63 x64 x65 x66 x67 x68 x69 x70 x71 x72 x73 x74 x75 x76 x77 x78 x79 x80 x81 x82 x83 x84 x85 x86 x87 x88 x89 x90 x91 x92 x93 x94 x95 x96 x97 x98 x99 x100 x101 x102 x103 x104 x105 x106 x107 x108 x109 x110 x111 x112 x113 x114 x115 x116 x117 x118 x119 x120 x121 x122 x123 v0 v1 v2 v3 v4 v5 v6 v7 v8 v9 v10 v11 v12 v13 v14 v15 v16 v17 v18 v19 v20 v21 v22 v23 v24 v25 v26 v27 v28 v29 v30 v31 v32 v33 v34 v35 v36 v37 v38 v39 v40 v41 v42 v43 v44 v45 v46 v47 v48 v49 v50 v51 v52 v53 v54 v55 v56 v57 v58 v59 v60 v61 v62 v63 v64 v65 v66 v67 v68 v69 v70 v71 v72 v73 v74 v75 v76 v77 v78 v79 v80 v81 v82 v83 v84 v85 v86 v87 v88 v89 v90 v91 v92 v93 v94 v95 v96 v97 v98 v99 v100 v101 v102 v103 v104 v105 v106 v107 v108 v109 v110 v111 v112 v113 v114 v115 v116 v117 v118 v119 v120 v121 v122 v123 : Value} {h : Hp} {j : Nat → Value}
end
end Go.Proofs.YtgcmbkoejjcjlaaGreatDoor.T
open Go Go.RowKit Go.Proofs.YtgcmbkoejjcjlaaGreatDoor.K Go.Proofs.YtgcmbkoejjcjlaaGreatDoor.T
set_option linter.unusedVariables false
set_option linter.unusedSimpArgs false
namespace Go.Proofs.YtgcmbkoejjcjlaaGreatDoor.A
variable {F F' : Nat → Option (List Value)} {M M' : Nat → Option Chunk} {N N' : Nat} {K : Kont} {E : PanK}
theorem inR_all {l : List Dm} (hl : goodDims l) {f : Fc} (h : inF l f.1 = true) : inR 0 10000 f = true := by
  have hlen := inF_len h
  have h0 := hl.1
  have hk0 : 0 < f.1.length := by omega
  unfold inF at h
  rw [Bool.and_eq_true, List.all_eq_true] at h
  have := h.2 0 (List.mem_range.2 h0)
  unfold inP at this
  rw [getD_at hk0, getD_at h0] at this
  have h1 := of_decide_eq_true this
  have h2 := hl.2.2 _ (List.getElem_mem h0)
  unfold inR
  rw [getD_at hk0]
  exact decide_eq_true ⟨hk0, h1.1, by omega⟩
end Go.Proofs.YtgcmbkoejjcjlaaGreatDoor.A
open Go Go.RowKit Go.Proofs.YtgcmbkoejjcjlaaGreatDoor.K Go.Proofs.YtgcmbkoejjcjlaaGreatDoor.T
set_option linter.unusedVariables false
set_option linter.unusedSimpArgs false
namespace Go.Proofs.YtgcmbkoejjcjlaaGreatDoor.A
variable {F F' : Nat → Option (List Value)} {M M' : Nat → Option Chunk} {N N' : Nat} {K : Kont} {E : PanK}
theorem u32wrap (x : Int) : 0 ≤ IntKind.u32.wrap x ∧ IntKind.u32.wrap x < 4294967296 := by
  unfold IntKind.wrap
  simp [IntKind.bits, IntKind.signed]
  omega
theorem entOne {t : Int} {fs : List Fc} (hp : ∀ f ∈ fs, inR 0 10000 f = true) : entF 0 10000 [(t, fs)] = if fs.length = 0 then [] else [(t, fs)] := by
  have hf : fs.filter (inR 0 10000) = fs := List.filter_eq_self.2 hp
  unfold entF
  simp only [List.filterMap_cons, List.filterMap_nil]
  unfold entE
  try simp only [hf]
  by_cases h : fs.length = 0
  · rw [if_pos h, if_neg (by omega)]
  · rw [if_neg h, if_pos (by omega)]
theorem set_one {id : Int} {b c : Bt} : setB (setB [] id b) id c = setB [] id c := by
  unfold setB hasB
  simp
theorem get_one {id : Int} {b : Bt} : getB (setB [] id b) id = b := by
  rw [getB_set (bs := []) List.nodup_nil, if_pos rfl]
set_option maxRecDepth 10000 in
set_option maxHeartbeats 16000000 in
theorem partLays_c {um uk uv : Value} {m : List (Int × List Int)} {id t : Int} {ks : List (List Int)} {c : List Int} (hE : E [] badH) (hm : cutsD F um m) (hml : m.length ≤ 140737488351232) (hmc : ∀ c ∈ m, (0 ≤ c.1 ∧ c.1 < 65536) ∧ ∀ x ∈ c.2, 0 ≤ x ∧ x < 256)
    (hid : 0 ≤ id ∧ id < 4294967296) (ht : 0 ≤ t ∧ t < 4294967296) (hk : kksD .u16 F uk ks) (hkl : ks.length ≤ 140737488351232) (hkc : ∀ k ∈ ks, ∀ x ∈ k, 0 ≤ x ∧ x < 65536) (hv : sF F 1 uv c.length (ic c)) (hcl : c.length ≤ 140737488351232) (k : ∀ h, K (.bool true) h) :
    call Tryz.prog 7 #[um, .int .u32 id, .int .u32 t, uk, uv] K E ⟨F, M, N⟩ := by
  refine call_text mixed Tryz.func7 (by kernel_rfl) (t7 _ E _ _ _ _ _) (fun hw => ?_)
  have hm0 : clean M N := hw.m
  have kn : ∀ {M : Nat → Option Chunk} {F : Nat → Option (List Value)} {N : Nat}, callv Tryz.prog (.func (.func 11) #[] #[]) #[] (fun v h => h.wf → ∃ h', h.wk h' ∧ (h'.wf → K v h')) E ⟨F, M, N⟩ := known14_c hE (fun F' N' _ _ _ hc => ⟨_, wk_refl hc, fun _ => k _⟩)
  have hlk : lenV uk = some (.int .i64 (ks.length : Nat)) := by obtain ⟨rows, h1, _⟩ := hk; obtain ⟨a, c, e, _⟩ := h1.form; rw [e]; rfl
  refine pv_r hlk ?_
  refine gtr_r (fun h1 => ?_) (fun h1 => ?_)
  · try simp only [sS]; exact kn
  try simp only [sS]
  refine known14_c hE (fun F2 N2 hF2 hN2 hw2 => ?_)
  try simp only [sS]
  have hgd := dimsOf_good m (fun c hc => (hmc c hc).1)
  have hok := dimsOf_ok (m := m) (fun c hc => (hmc c hc).1)
  refine dof_c (hm.mono hF2) hml hmc (fun udv F3 N3 hw3 hF3 hN3 hd => ?_)
  generalize dimsOf m = l at *
  have hl4 := hgd.2.1
  have hds := goodDims_sz hgd
  refine pnew_c hd (by omega) (fun h => absurd h (by rw [hok]; decide)) (fun _ p g mb dv F4 M4 N4 hF4 P4 hM4 hN4 hm4 hw4 => ?_)
  refine ptr_ne ?_
  try simp only [sS]
  have F24 := hF3.trans hF4
  refine facts_c (hd.mono hF4) ((hk.mono hF2).mono F24) ((hv.mono hF2).mono F24) (by omega) hds hkc hkl hcl (fun fv F5 N5 hw5 hF5 hN5 hf => ?_)
  have hfit := facts_fit hgd ks c
  generalize factsOf l ks c = fs at *
  obtain ⟨f1, f2⟩ := fitsF_of hfit
  have hinr : ∀ f ∈ fs, inR 0 10000 f = true := fun f hf => inR_all hgd (f2 f hf)
  have hlf : lenV fv = some (.int .i64 (fs.length : Nat)) := by obtain ⟨a, c, e⟩ := hf.form; rw [e]; rfl
  obtain ⟨af, cf, ef⟩ := hf.form
  have N34 : N3 ≤ N4 := hN4
  refine pv_r (v := .agg #[.int .u8 1, .int .u32 id, .int .u32 0, .slice none 0 0, fv, .int .u32 0, .slice none 0 0, .int .i64 0, .int .i64 0, .slice none 0 0]) (by rw [ef]; kernel_rfl) ?_
  have hr1 : recD F5 [.int .u8 1, .int .u32 id, .int .u32 0, .slice none 0 0, fv, .int .u32 0, .slice none 0 0, .int .i64 0, .int .i64 0, .slice none 0 0] ⟨1, id, 0, [], fs, 0, 0, []⟩ :=
    ⟨_, _, _, _, _, rfl, sF.nil _ _ _, hf, entsD.nil, rfl, rfl⟩
  refine papply_c (P4.keep (M' := M4) hF5 (fun _ _ => rfl)) (by omega) (okH.nil _ _ _) (by omega) hr1 ⟨hid, by simp, by simp, by simp only; omega, by simp, by simp⟩ (by simp [getB, Bt.no]) (fun hv6 F6 M6 N6 rows6 hF6 P6 hM6 hN6 hm6 hw6 => ?_)
  have p1 : ppE l [] ⟨1, id, 0, [], fs, 0, 0, []⟩ = 0 := by unfold ppE; rw [if_neg (by simp [getB, Bt.no]), if_neg (by rw [hfit]; decide)]
  have a1 : apE l [] [] 0 ⟨1, id, 0, [], fs, 0, 0, []⟩ = 0 := by unfold apE; rw [if_pos rfl, p1]
  have a2 : apH l [] [] 0 ⟨1, id, 0, [], fs, 0, 0, []⟩ = [] := by unfold apH; rw [if_neg (by simp), if_neg (by simp)]
  have a3 : apS l [] [] ⟨1, id, 0, [], fs, 0, 0, []⟩ = setB [] id ⟨1, 0, [], fs⟩ := by unfold apS; rw [if_pos rfl]; unfold ppS; rw [if_pos p1]
  have a4 : apT l [] 0 ⟨1, id, 0, [], fs, 0, 0, []⟩ = 0 := by unfold apT; rw [if_neg (by simp)]
  rw [a1]
  rw [a2, a3, a4] at P6
  try simp only [sS]
  refine ldM (v := .pointer (some ⟨g, 0, none⟩)) ?_ P6.pp
  refine centries_c (a := 0) (b := 10000) P6.cc (okH.nil _ _ _) (by omega) (fun v7 F7 N7 hw7 hF7 hN7 he7 => ?_)
  obtain ⟨a7, c7, e7⟩ := he7.form
  subst e7
  try simp only [sS]
  have P7 := P6.keep (M' := M6) hF7 (fun _ _ => rfl)
  refine pv_r (v := .agg #[.int .u8 2, .int .u32 id, .int .u32 t, .slice none 0 0, .slice none 0 0, .int .u32 0, .slice none 0 0, .int .i64 0, .int .i64 0, .slice none 0 0]) (by kernel_rfl) ?_
  have hr2 : ∀ {F : Nat → Option (List Value)} {t : Int}, recD F [.int .u8 2, .int .u32 id, .int .u32 t, .slice none 0 0, .slice none 0 0, .int .u32 0, .slice none 0 0, .int .i64 0, .int .i64 0, .slice none 0 0] ⟨2, id, t, [], [], 0, 0, []⟩ :=
    ⟨_, _, _, _, _, rfl, sF.nil _ _ _, fctsD.nil, entsD.nil, rfl, rfl⟩
  refine papply_c P7 (by omega) (okH.nil _ _ _) (by omega) hr2 ⟨hid, ht.1, by simp, by simp, by simp, by simp⟩ (by simp only; rw [get_one]; simp only; omega) (fun hv8 F8 M8 N8 rows8 hF8 P8 hM8 hN8 hm8 hw8 => ?_)
  have eA : ∀ t' : Int, addE l [] t' fs = if t' = 0 then 130 else 0 := fun t' => by
    unfold addE
    rw [hfit, if_neg (by decide)]
    by_cases h0 : t' = 0
    · rw [if_pos (.inl h0), if_pos h0]
    · rw [if_neg (by rintro (q | q); exact h0 q; rw [there_out (by simp [place])] at q; cases q), if_neg h0]; rfl
  have c1 : ∀ t' : Int, cmE l [] (setB [] id ⟨1, 0, [], fs⟩) ⟨2, id, t', [], [], 0, 0, []⟩ = if t' = 0 then 130 else 0 := fun t' => by
    unfold cmE
    simp only [get_one, if_true]
    rw [eA]
  have b1 : apE l [] (setB [] id ⟨1, 0, [], fs⟩) 0 ⟨2, id, t, [], [], 0, 0, []⟩ = if t = 0 then 130 else 0 := by unfold apE; rw [if_neg (by simp), if_pos rfl, c1]
  have hwr := u32wrap (t + 1)
  refine pv_r (v := .int .u32 (IntKind.u32.wrap (t + 1))) rfl ?_
  generalize IntKind.u32.wrap (t + 1) = t1 at *
  refine pv_r (v := .agg #[.int .u8 2, .int .u32 id, .int .u32 t1, .slice none 0 0, .slice none 0 0, .int .u32 0, .slice none 0 0, .int .i64 0, .int .i64 0, .slice none 0 0]) (by kernel_rfl) ?_
  by_cases h0 : t = 0
  · have b2 : apH l [] (setB [] id ⟨1, 0, [], fs⟩) 0 ⟨2, id, t, [], [], 0, 0, []⟩ = [] := by
      unfold apH; rw [if_pos rfl]; unfold cmH; simp only [get_one, if_true]; unfold addH; rw [eA, if_pos h0]; rfl
    have b3 : apS l [] (setB [] id ⟨1, 0, [], fs⟩) ⟨2, id, t, [], [], 0, 0, []⟩ = setB [] id ⟨1, 0, [], fs⟩ := by
      unfold apS; rw [if_neg (by simp), if_pos rfl]; unfold cmS; rw [c1, if_pos h0, if_neg (by simp)]
    have b4 : apT l [] 0 ⟨2, id, t, [], [], 0, 0, []⟩ = 0 := by unfold apT; rw [if_neg (by simp)]
    rw [b2, b3, b4] at P8
    rw [b1, if_pos h0]
    refine papply_c P8 (by omega) (okH.nil _ _ _) (by omega) hr2 ⟨hid, hwr.1, by simp, by simp, by simp, by simp⟩ (by simp only; rw [get_one]; simp only; omega) (fun hv9 F9 M9 N9 rows9 hF9 P9 hM9 hN9 hm9 hw9 => ?_)
    have d3 : (getB (apS l [] (setB [] id ⟨1, 0, [], fs⟩) ⟨2, id, t1, [], [], 0, 0, []⟩) id).st ≠ 3 := by
      unfold apS; rw [if_neg (by simp), if_pos rfl]; unfold cmS
      split
      · simp [set_one, get_one]
      · rw [get_one]; simp
    refine eql_t h0 ?_
    try simp only [sS]
    refine eql_t rfl ?_
    try simp only [sS]
    refine eql_t rfl ?_
    try simp only [sS]
    refine pstatus_c (id := id) P9 (fun N10 hN10 hw10 => ?_)
    refine pv_r (v := .int .u8 _) rfl ?_
    refine neq_t d3 ?_
    try simp only [sS]
    exact fun hc => ⟨_, wk_refl hc, fun _ => k _⟩
  · have b2 : apH l [] (setB [] id ⟨1, 0, [], fs⟩) 0 ⟨2, id, t, [], [], 0, 0, []⟩ = [(t, fs)] := by
      unfold apH; rw [if_pos rfl]; unfold cmH; simp only [get_one, if_true]; unfold addH; rw [eA, if_neg h0]; rfl
    have b3 : apS l [] (setB [] id ⟨1, 0, [], fs⟩) ⟨2, id, t, [], [], 0, 0, []⟩ = setB [] id ⟨2, t, [], []⟩ := by
      unfold apS; rw [if_neg (by simp), if_pos rfl]; unfold cmS; rw [c1, if_neg h0, if_pos rfl]; simp only [set_one]
    have b4 : apT l [] 0 ⟨2, id, t, [], [], 0, 0, []⟩ = 0 := by unfold apT; rw [if_neg (by simp)]
    rw [b2, b3, b4] at P8
    rw [b1, if_neg h0]
    have o8 : okH l 5000 200 [(t, fs)] := by
      have := (okH.nil l 5000 200).add ht.1 fs
      unfold addH at this; rw [eA, if_neg h0] at this; exact this
    refine papply_c P8 (by omega) o8 (by omega) hr2 ⟨hid, hwr.1, by simp, by simp, by simp, by simp⟩ (by simp only; rw [get_one]; simp) (fun hv9 F9 M9 N9 rows9 hF9 P9 hM9 hN9 hm9 hw9 => ?_)
    have e9 : cmE l [(t, fs)] (setB [] id ⟨2, t, [], []⟩) ⟨2, id, t1, [], [], 0, 0, []⟩ = 140 := by unfold cmE; simp [get_one]
    have g1 : apE l [(t, fs)] (setB [] id ⟨2, t, [], []⟩) 0 ⟨2, id, t1, [], [], 0, 0, []⟩ = 140 := by unfold apE; rw [if_neg (by simp), if_pos rfl, e9]
    have g2 : apH l [(t, fs)] (setB [] id ⟨2, t, [], []⟩) 0 ⟨2, id, t1, [], [], 0, 0, []⟩ = [(t, fs)] := by unfold apH; rw [if_pos rfl]; unfold cmH; simp [get_one]
    rw [g1]
    rw [g2] at P9
    refine eql_f h0 ?_
    try simp only [sS]
    refine ldM (v := .pointer (some ⟨g, 0, none⟩)) ?_ P9.pp
    refine centries_c (a := 0) (b := 10000) P9.cc o8 (by omega) (fun v10 F10 N10 hw10 hF10 hN10 he10 => ?_)
    rw [entOne hinr] at he10
    refine eql_t rfl ?_
    try simp only [sS]
    refine eql_t rfl ?_
    try simp only [sS]
    refine eql_t rfl ?_
    try simp only [sS]
    refine eql_t rfl ?_
    try simp only [sS]
    have hfN : fs.length ≤ 200 := f1
    by_cases hz : fs.length = 0
    · rw [if_pos hz] at he10
      obtain ⟨a10, c10, e10⟩ := he10.form
      subst e10
      try simp only [sS]
      refine pv_r hlf ?_
      refine pv_r mm_min ?_
      refine eql_t (by rw [hz]; rfl) ?_
      try simp only [sS]
      refine pv_r hlf ?_
      refine eql_t (by rw [hz]; rfl) ?_
      try simp only [sS]
      exact fun hc => ⟨_, wk_refl hc, fun _ => k _⟩
    · rw [if_neg hz] at he10
      have hl10 : lenV v10 = some (.int .i64 1) := by obtain ⟨a, c, e⟩ := he10.form; rw [e]; rfl
      obtain ⟨yrows, hy1, hy2⟩ := he10
      refine pv_r hl10 ?_
      refine pv_r hlf ?_
      refine pv_r mm_min ?_
      refine eql_t (by rw [Int.min_def]; split <;> omega) ?_
      try simp only [sS]
      refine pv_r hlf ?_
      refine eql_f (by omega) ?_
      try simp only [sS]
      refine fld_r (l := [(t, fs)]) hy1 hy2 (by decide) (i := 0) (by simp) (off := 0) (by decide) fun p q r x hR _ hx => ?_
      obtain ⟨u, rfl, _, _⟩ := hR
      simp only [List.getElem?_cons_zero, Option.some.injEq] at hx
      subst hx
      refine eql_t rfl ?_
      try simp only [sS]
      refine fld_r (l := [(t, fs)]) hy1 hy2 (by decide) (i := 0) (by simp) (off := 1) (by decide) fun p q r x hR _ hx => ?_
      obtain ⟨u, rfl, hu, _⟩ := hR
      simp only [List.getElem?_cons_zero, List.getElem?_cons_succ, Option.some.injEq] at hx
      subst hx
      have hlu : lenV u = some (.int .i64 (fs.length : Nat)) := by obtain ⟨a, c, e⟩ := hu.form; rw [e]; rfl
      refine pv_r hlu ?_
      refine pv_r hlf ?_
      refine eql_t rfl ?_
      try simp only [sS]
      exact fun hc => ⟨_, wk_refl hc, fun _ => k _⟩
end Go.Proofs.YtgcmbkoejjcjlaaGreatDoor.A
open Go Go.RowKit Go.Proofs.YtgcmbkoejjcjlaaGreatDoor.K Go.Proofs.YtgcmbkoejjcjlaaGreatDoor.T
set_option linter.unusedVariables false
set_option linter.unusedSimpArgs false
namespace Go.Proofs.YtgcmbkoejjcjlaaGreatDoor.A
variable {F F' : Nat → Option (List Value)} {M M' : Nat → Option Chunk} {N N' : Nat} {K : Kont} {E : PanK}
theorem wf_u32 {x : Int} (h : (Lit.int .u32 x).wf = true) : 0 ≤ x ∧ x < 4294967296 := by
  simp [Lit.wf, IntKind.min, IntKind.max, IntKind.bits, IntKind.signed] at h
  omega
theorem fin_trueL {f : FuncId} {args : Array Value} {W : World} (h : call Tryz.prog f args (fun v _ => v = .bool true) (fun _ h => h = badH) (h0 W)) : Calls Tryz.prog f args W fun e w' => e = .returned (.bool true) ∧ Below W.heap.size W w' :=
  (calls0L (K := fun v => v = .bool true) h).mono fun e w' ⟨⟨v, he, hv⟩, hb⟩ => ⟨by rw [he, hv], hb⟩
theorem PartLays_true (v0 : Value) (a1 a2 : Int) (v3 v4 : Value) {y0 : List (Int × List Int)} {y3 : List (List Int)} {y4 : List Int} (W : World) (h0 : rS 2 rCut (F0 W) [v0] y0) (w1 : (Lit.int .u32 a1).wf = true) (w2 : (Lit.int .u32 a2).wf = true) (h3 : rS 1 (rS 1 (rI .u16)) (F0 W) [v3] y3) (h4 : rS 1 (rI .i64) (F0 W) [v4] y4) :
    Calls Tryz.prog 7 #[v0, .int .u32 a1, .int .u32 a2, v3, v4] W fun e w' => e = .returned (.bool true) ∧ Below W.heap.size W w' :=
  have b := cuts_of h0
  have d := lists_of h3
  have c := list_of h4
  fin_trueL (partLays_c rfl b.1 b.2.1 b.2.2 (wf_u32 w1) (wf_u32 w2) d.1 d.2.1 (fun k hk x hx => wf_u16 (d.2.2 k hk x hx)) c.1 c.2.2 fun _ => rfl)
end Go.Proofs.YtgcmbkoejjcjlaaGreatDoor.A
