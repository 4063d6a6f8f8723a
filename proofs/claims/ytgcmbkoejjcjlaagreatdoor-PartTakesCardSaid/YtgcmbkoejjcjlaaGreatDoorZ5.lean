import Derived.Test.YtgcmbkoejjcjlaaGreatDoorZ4
import Derived.Test.YtgcmbkoejjcjlaaGreatDoorProg
import Derived.Test.YtgcmbkoejjcjlaaGreatDoorZ1
import Derived.Test.YtgcmbkoejjcjlaaGreatDoorZ3
set_option maxHeartbeats 4000000
open Go Go.RowKit Go.Proofs.YtgcmbkoejjcjlaaGreatDoor.K Go.Proofs.YtgcmbkoejjcjlaaGreatDoor.T
set_option linter.unusedVariables false
set_option linter.unusedSimpArgs false
namespace Go.Proofs.YtgcmbkoejjcjlaaGreatDoor.A
variable {F F' : Nat → Option (List Value)} {M M' : Nat → Option Chunk} {N N' : Nat} {K : Kont} {E : PanK}
theorem mkeys_c {mb : Nat} (k : ∀ bm F' N', (Hp.mk F' M N').wf → subF F F' → N ≤ N' → F' bm = some [.map (some mb)] → K (.func (.func 71) #[] #[.pointer (some ⟨bm, 0, none⟩)]) ⟨F', M, N'⟩) :
    callv Tryz.prog (.func (.func 39) #[] #[]) #[.map (some mb)] K E ⟨F, M, N⟩ := by
  refine callv_of_text mixed Tryz.func39 (by kernel_rfl) (t39 _ E _) (fun hw => ?_)
  have hm : clean M N := hw.m
  refine nw_r (cs := [.map (some mb)]) (fun b1 hb1 => ?_)
  exact fun hc => ⟨_, frz_wf hm (fun q hq => upd_ne _ _ (by omega)) hc, fun hw' => k b1 _ _ hw' (subF_frzAll hc) (by omega) (frz_at (by omega) (upd_same _ _ _))⟩
section
variable {B p g mb : Nat} {hv dv : Value} {rows : List (List Value)} {l : List Dm} {h : List En} {bs : Bts} {tk : Int}
theorem mapD.mem {es : Array MapEntry} (hd : mapD F es bs) (x : Int) : (∃ e ∈ es.toList, e.key = .int .u32 x) ↔ hasB bs x = true := by
  have h1 : (∃ e ∈ es.toList, e.key = .int .u32 x) ↔ Value.int .u32 x ∈ es.toList.map (·.key) := by rw [List.mem_map]
  rw [h1, hd.keys, List.mem_map, hasB_iff]
  constructor
  · rintro ⟨y, hy, e⟩; exact ⟨y, hy, by simpa using e⟩
  · rintro ⟨y, hy, e⟩; exact ⟨y, hy, by rw [e]⟩
def isOpen (bs : Bts) (x : Int) : Bool := decide ((getB bs x).st = 1)
def waits (bs : Bts) (ws : List Int) : Prop := rises ws ∧ ∀ x, x ∈ ws ↔ hasB bs x = true ∧ isOpen bs x = true
set_option maxRecDepth 10000 in
theorem pwait_c (hE : E [] badH) (P : isPart F M B p g mb hv dv rows l h bs tk) (h12 : bs.length ≤ 12)
    (k : ∀ v' (ws : List Int) F' N', (Hp.mk F' M N').wf → subF F F' → N ≤ N' → waits bs ws → sF F' 1 v' ws.length (ick .u32 ws) → K v' ⟨F', M, N'⟩) :
    callv Tryz.prog (.func (.func 18) #[] #[]) #[.pointer (some ⟨p, 0, none⟩)] K E ⟨F, M, N⟩ := by
  refine callv_of_text mixed Tryz.func18 (by kernel_rfl) (t18 _ E _) (fun hw => ?_)
  have hm : clean M N := hw.m
  refine nw_r (cs := [.pointer (some ⟨p, 0, none⟩)]) (fun b1 hb1 => ?_)
  generalize hM1e : upd M b1 _ = M1
  have hb : ∃ e, M1 b1 = some (.cells e [.pointer (some ⟨p, 0, none⟩)] 1) := ⟨_, by rw [← hM1e]; exact upd_same _ _ _⟩
  have P1 : isPart F M1 B p g mb hv dv rows l h bs tk := by rw [← hM1e]; exact P.box hm hb1 _
  have hm1 : clean M1 (b1 + 1) := by rw [← hM1e]; exact hm.new hb1 _
  have hM1 : ∀ q, q < N → M1 q = M q := fun q hq => by rw [← hM1e]; exact upd_ne _ _ (by omega)
  clear hM1e
  obtain ⟨ty, hb⟩ := hb
  refine ldM (v := .pointer (some ⟨p, 0, none⟩)) ?_ hb
  try simp only [sS]
  refine ldM (v := .map (some mb)) ?_ P1.pp
  refine mkeys_c (fun bm F2 N2 hw2 hF2 hN2 hbm => ?_)
  obtain ⟨es, h2, h3⟩ := P1.mm
  refine sortedK_c hE hbm h2 (h3.k (by omega)) (by rw [h3.len]; exact h12) (fun v3 l3 M3 N3 hr3 hmem3 ho3 hM3 hN3 hm3 hw3 => ?_)
  have hpl := P1.lt hm1
  have P3 : isPart F2 M3 B p g mb hv dv rows l h bs tk := P1.keep hF2 (fun q hq => hM3 q (by have := (hpl q hq).2; omega))
  have hlen3 : l3.length ≤ 1000000 := by
    have n3 : l3.Nodup := hr3.imp (fun {x y} h => by omega)
    have := nodup_le (b := bs.map (·.1)) n3 (fun x hx => by
      obtain ⟨y, hy, e⟩ := hasB_iff.1 ((h3.mem x).1 ((hmem3 x).1 hx))
      exact List.mem_map.2 ⟨y, hy, e⟩)
    rw [List.length_map] at this; omega
  have hb3 := (hM3 b1 (by omega)).trans hb
  have hvge : ∀ q, v3.ownBlock = some q → N2 ≤ q := fun q e => (ho3.ge q e).1
  refine delU_c (p := isOpen bs) ho3 (by omega) (fun {K'} M4 N4 x hN4 hM4 hm4 kk => ?_) (fun v5 M5 N5 ho5 hM5 hN5 hm5 hw5 => ⟨_, wk_refl hw5, fun hw6 => ?_⟩)
  · refine callv_of_text mixed Tryz.func40 (by kernel_rfl) (t40 _ E _ _) (fun hw => ?_)
    have hb4 := (hM4 b1 (fun e => by have := hvge b1 e; omega) (by omega)).trans hb3
    refine ldM (v := .pointer (some ⟨p, 0, none⟩)) ?_ hb4
    have P4 : isPart F2 M4 B p g mb hv dv rows l h bs tk := P3.keep (subF.refl _) (fun q hq => hM4 q (fun e => by have := hvge q e; have := (hpl q hq).2; omega) (by have := (hpl q hq).2; omega))
    refine popen_c P4 (fun hw7 => ?_)
    try simp only [sS]
    exact fun hc => ⟨_, wk_refl hc, fun hw8 => kk N4 (Nat.le_refl _) hw8⟩
  · have hX : ∀ q, q < N → M5 q = M q := fun q hq => ((hM5 q (fun e => by have := hvge q e; omega) (by omega)).1).trans ((hM3 q (by omega)).trans (hM1 q hq))
    refine fun hc => ⟨_, frz_wf hm hX hc, fun hw' => k v5 _ _ _ hw' (hF2.trans (subF_frzAll hc)) (by omega) ⟨hr3.filter _, fun x => ?_⟩ (ho5.rd.frz hc (fun b e => .inl (by have := (ho5.ge b e).1; omega)))⟩
    rw [List.mem_filter, hmem3, h3.mem]
def apE (l : List Dm) (h : List En) (bs : Bts) (tk : Int) (r : RecA) : Nat := if r.kind = 1 then ppE l bs r else if r.kind = 2 then cmE l h bs r else if r.kind = 3 then abE bs r else if r.kind = 7 then tkE l h tk r else 1
def apH (l : List Dm) (h : List En) (bs : Bts) (tk : Int) (r : RecA) : List En := if r.kind = 2 then cmH l h bs r else if r.kind = 7 then tkH l h tk r else h
def apS (l : List Dm) (h : List En) (bs : Bts) (r : RecA) : Bts := if r.kind = 1 then ppS l bs r else if r.kind = 2 then cmS l h bs r else if r.kind = 3 then abS bs r else bs
def apT (l : List Dm) (h : List En) (tk : Int) (r : RecA) : Int := if r.kind = 7 then tkT l h tk r else tk
structure RecA.ok (r : RecA) : Prop where
  i0 : 0 ≤ r.id ∧ r.id < 4294967296
  t0 : 0 ≤ r.tm
  nl : r.ns.length ≤ 1000000000
  fl : r.fs.length ≤ 140737488351232
  el : r.es.length ≤ 140737488351232
  eT : ∀ e ∈ r.es, e.1 < 4294967296
set_option maxRecDepth 10000 in
theorem papply_c {cs : List Value} {r : RecA} (P : isPart F M B p g mb hv dv rows l h bs tk) (hB : B ≤ N) (o : okH l 5000 200 h) (hdl : l.length ≤ 1000) (hr : recD F cs r) (ok : r.ok) (hfb : (getB bs r.id).fs.length ≤ 140737488351232)
    (k : ∀ hv' F' M' N' rows', subF F F' → isPart F' M' B p g mb hv' dv rows' l (apH l h bs tk r) (apS l h bs r) (apT l h tk r) → pfr M M' N p g mb hv hv' → N ≤ N' → clean M' N' → (Hp.mk F' M' N').wf → K (.int .u16 ((apE l h bs tk r : Nat) : Int)) ⟨F', M', N'⟩) :
    callv Tryz.prog (.func (.func 14) #[] #[]) #[.pointer (some ⟨p, 0, none⟩), .agg cs.toArray] K E ⟨F, M, N⟩ := by
  refine callv_of_text mixed Tryz.func14 (by kernel_rfl) (t14 _ E _ _) (fun hw => ?_)
  have hm : clean M N := hw.m
  have hr0 := hr
  refine nw_r (cs := cs) (fun b1 hb1 => ?_) rfl
  obtain ⟨nv, fv, ep, sv, ev, e, _⟩ := hr
  have hb := upd_same M b1 (some (.cells 44 cs cs.length))
  have P1 := P.box hm hb1 (some (.cells 44 cs cs.length))
  have hm1 := hm.new hb1 (some (.cells 44 cs cs.length))
  have hM1 : ∀ q, q < N → upd M b1 (some (.cells 44 cs cs.length)) q = M q := fun q hq => upd_ne _ _ (by omega)
  generalize upd M b1 _ = M1 at *
  have hb' := hb
  subst e
  have trp : ∀ {M' : Nat → Option Chunk} {hv' : Value}, pfr M1 M' (b1 + 1) p g mb hv hv' → pfr M M' N p g mb hv hv' := fun f q q1 q2 q3 q4 q5 => ⟨((f q q1 q2 q3 q4 (by omega)).1).trans (hM1 q q5), (f q q1 q2 q3 q4 (by omega)).2⟩
  have trq : ∀ {M' : Nat → Option Chunk}, (∀ q, q ≠ mb → q < b1 + 1 → M' q = M1 q) → pfr M M' N p g mb hv hv := fun f q q1 _ q3 _ q5 => ⟨(f q q3 (by omega)).trans (hM1 q q5), q1⟩
  try simp only [sS]
  refine ldM (v := .int .u8 r.kind) ?_ hb
  refine eql_r (fun h1 => ?_) (fun h1 => ?_)
  · have eE : apE l h bs tk r = ppE l bs r := by unfold apE; rw [if_pos h1]
    have eS : apS l h bs r = ppS l bs r := by unfold apS; rw [if_pos h1]
    have eH : apH l h bs tk r = h := by unfold apH; rw [if_neg (by omega), if_neg (by omega)]
    have eT : apT l h tk r = tk := by unfold apT; rw [if_neg (by omega)]
    rw [eE, eS, eH, eT] at k
    try simp only [sS]
    refine ldMa ?_ hb
    refine pprep_c P1 hdl hr0 ok.i0.1 ok.i0.2 ok.nl ok.fl (fun F2 M2 N2 hF2 P2 hM2 hN2 hm2 hw2 => ?_)
    exact fun hc => ⟨_, wk_refl hc, fun hw' => k hv F2 M2 N2 rows hF2 P2 (trq hM2) (by omega) hm2 hw'⟩
  try simp only [sS]
  refine eql_r (fun h2 => ?_) (fun h2 => ?_)
  · have eE : apE l h bs tk r = cmE l h bs r := by unfold apE; rw [if_neg h1, if_pos h2]
    have eS : apS l h bs r = cmS l h bs r := by unfold apS; rw [if_neg h1, if_pos h2]
    have eH : apH l h bs tk r = cmH l h bs r := by unfold apH; rw [if_pos h2]
    have eT : apT l h tk r = tk := by unfold apT; rw [if_neg (by omega)]
    rw [eE, eS, eH, eT] at k
    try simp only [sS]
    refine ldMa ?_ hb
    refine pcommit_c P1 (by omega) hdl o.le hr0 ok.i0.1 ok.i0.2 ok.t0 hfb (fun hv2 F2 M2 N2 rows2 hF2 P2 hM2 hN2 hm2 hw2 => ?_)
    exact fun hc => ⟨_, wk_refl hc, fun hw' => k hv2 F2 M2 N2 rows2 hF2 P2 (trp hM2) (by omega) hm2 hw'⟩
  try simp only [sS]
  refine eql_r (fun h3 => ?_) (fun h3 => ?_)
  · have eE : apE l h bs tk r = abE bs r := by unfold apE; rw [if_neg h1, if_neg h2, if_pos h3]
    have eS : apS l h bs r = abS bs r := by unfold apS; rw [if_neg h1, if_neg h2, if_pos h3]
    have eH : apH l h bs tk r = h := by unfold apH; rw [if_neg h2, if_neg (by omega)]
    have eT : apT l h tk r = tk := by unfold apT; rw [if_neg (by omega)]
    rw [eE, eS, eH, eT] at k
    try simp only [sS]
    refine ldMa ?_ hb
    refine pabort_c P1 hr0 ok.i0.1 ok.i0.2 (fun M2 N2 P2 hM2 hN2 hm2 hw2 => ?_)
    exact fun hc => ⟨_, wk_refl hc, fun hw' => k hv F M2 N2 rows (subF.refl _) P2 (trq hM2) (by omega) hm2 hw'⟩
  try simp only [sS]
  refine eql_r (fun h4 => ?_) (fun h4 => ?_)
  · have eE : apE l h bs tk r = tkE l h tk r := by unfold apE; rw [if_neg h1, if_neg h2, if_neg h3, if_pos h4]
    have eS : apS l h bs r = bs := by unfold apS; rw [if_neg h1, if_neg h2, if_neg h3]
    have eH : apH l h bs tk r = tkH l h tk r := by unfold apH; rw [if_neg h2, if_pos h4]
    have eT : apT l h tk r = tkT l h tk r := by unfold apT; rw [if_pos h4]
    rw [eE, eS, eH, eT] at k
    try simp only [sS]
    refine ldMa ?_ hb
    refine ptake_c P1 (by omega) o hdl hr0 ok.el ok.eT (fun hv2 F2 M2 N2 rows2 hF2 P2 hM2 hN2 hm2 hw2 => ?_)
    exact fun hc => ⟨_, wk_refl hc, fun hw' => k hv2 F2 M2 N2 rows2 hF2 P2 (trp hM2) (by omega) hm2 hw'⟩
  · have eE : apE l h bs tk r = 1 := by unfold apE; rw [if_neg h1, if_neg h2, if_neg h3, if_neg h4]
    have eS : apS l h bs r = bs := by unfold apS; rw [if_neg h1, if_neg h2, if_neg h3]
    have eH : apH l h bs tk r = h := by unfold apH; rw [if_neg h2, if_neg h4]
    have eT : apT l h tk r = tk := by unfold apT; rw [if_neg h4]
    rw [eE, eS, eH, eT] at k
    try simp only [sS]
    exact fun hc => ⟨_, wk_refl hc, fun hw' => k hv F M1 (b1 + 1) rows (subF.refl _) P1 (fun q q1 _ _ _ q5 => ⟨hM1 q q5, q1⟩) (by omega) hm1 hw'⟩
set_option maxRecDepth 10000 in
theorem pquery_c {cs : List Value} {t : Int} {m lo hi : List Int} (hE : E [] badH) (P : isPart F M B p g mb hv dv rows l h bs tk) (h12 : bs.length ≤ 12) (hdl : l.length ≤ 140737488351232) (hl : h.length ≤ 5000) (hT : ((h.map (·.2)).flatten).length ≤ 1000000) (hk : ∀ e ∈ h, ∀ f ∈ e.2, okK f.1) (hq : queryD F cs m lo hi) (hmi : ∀ x ∈ m, i64 x) (hok : ∀ r ∈ tab ((allI h (upTo h t)).map fr1), okK r.1)
    (k1 : ∀ ws F' N', 0 < ws.length → waits bs ws → (Hp.mk F' M N').wf → subF F F' → N ≤ N' → K (.tuple #[.slice none 0 0, .int .u16 141]) ⟨F', M, N'⟩)
    (k2 : waits bs [] → ∀ v' F' N', (Hp.mk F' M N').wf → subF F F' → N ≤ N' → tblD F' v' (runT l (tab ((allI h (upTo h t)).map fr1)) m lo hi) → K (.tuple #[v', .int .u16 ((runE l (tab ((allI h (upTo h t)).map fr1)) m lo hi : Nat) : Int)]) ⟨F', M, N'⟩) :
    callv Tryz.prog (.func (.func 19) #[] #[]) #[.pointer (some ⟨p, 0, none⟩), .agg cs.toArray, .int .u32 t] K E ⟨F, M, N⟩ := by
  refine callv_of_text mixed Tryz.func19 (by kernel_rfl) (t19 _ E _ _ _) (fun hw => ?_)
  have hm : clean M N := hw.m
  refine nw_r (cs := cs) (fun b1 hb1 => ?_) rfl
  have hb := upd_same M b1 (some (.cells 55 cs cs.length))
  have P1 := P.box hm hb1 (some (.cells 55 cs cs.length))
  have hm1 := hm.new hb1 (some (.cells 55 cs cs.length))
  have hsub : ∀ {F' : Nat → Option (List Value)} {N' : Nat}, (Hp.mk F' (upd M b1 (some (.cells 55 cs cs.length))) N').wf → (Hp.mk F' (upd M b1 (some (.cells 55 cs cs.length))) N').wk ⟨F', M, N'⟩ := fun hc => wk_drop hc (subM_drop (subM_refl _) (hm _ hb1))
  generalize upd M b1 _ = M1 at *
  refine pwait_c hE P1 h12 (fun v2 ws F2 N2 hw2 hF2 hN2 hws hsw => ?_)
  refine lenF_r hsw ?_
  refine gtr_r (fun h0 => ?_) (fun h0 => ?_)
  · try simp only [sS]
    exact fun hc => ⟨_, hsub hc, fun hw' => k1 ws F2 N2 (by omega) hws hw' hF2 (by omega)⟩
  · have e0 : ws = [] := List.eq_nil_of_length_eq_zero (by omega)
    subst e0
    try simp only [sS]
    refine ldM (v := .pointer (some ⟨g, 0, none⟩)) ?_ P1.pp
    have hq2 := hq
    obtain ⟨a, b, c, e, _⟩ := hq2
    subst e
    refine ldMa ?_ hb
    refine cquery_c (P1.cc.keep hF2 (fun _ _ => rfl)) hdl hl hT hk (hq.mono hF2) hmi hok (fun v3 F3 N3 hw3 hF3 hN3 ht => ?_)
    try simp only [sS]
    exact fun hc => ⟨_, hsub hc, fun hw' => k2 hws v3 F3 N3 hw' (hF2.trans hF3) (by omega) ht⟩
end
end Go.Proofs.YtgcmbkoejjcjlaaGreatDoor.A
open Go Go.RowKit Go.Proofs.YtgcmbkoejjcjlaaGreatDoor.K
set_option linter.unusedVariables false
set_option maxRecDepth 100000
namespace Go.Proofs.YtgcmbkoejjcjlaaGreatDoor.T
section
variable (K : Kont) (E : PanK) (k1 k2 k3 k4 k5 : Env → Hp → Prop) (x0 x1 x2 x3 x4 x5 x6 x7 x8 x9 x10 x11 x12 x13 x14 x15 x16 x17 x18 x19 x20 x21 x22 x23 x24 x25 x26 x27 x28 x29 x30 x31 x32 x33 x34 x35 x36 x37 x38 x39 x40 x41 x42 x43 x44 x45 x46 x47 x48 x49 x50 x51 x52 x53 x54 x55 x56 x57 x58 x59 x60 x61 x62 x63 x64 x65 x66 x67 x68 x69 x70 x71 x72 x73 x74 x75 x76 v0 v1 v2 v3 v4 v5 v6 v7 v8 v9 v10 v11 v12 v13 v14 v15 v16 v17 v18 v19 v20 v21 v22 v23 v24 v25 v26 v27 v28 v29 v30 v31 v32 v33 v34 v35 v36 v37 v38 v39 v40 v41 v42 v43 v44 v45 v46 v47 v48 v49 v50 v51 v52 v53 v54 v55 v56 v57 v58 v59 v60 v61 v62 v63 v64 v65 v66 v67 v68 v69 v70 v71 v72 v73 v74 v75 v76 : Value) (j : Nat → Value)
abbrev q10 : QD := bodyQ Tryz.prog Tryz.f10.results.toList K E
abbrev d10 (p : List Nat) : QD → Env → Hp → Prop := den Tryz.prog (sel (bodyOf Tryz.f10) p)
abbrev q11 : QD := bodyQ Tryz.prog Tryz.f11.results.toList K E
abbrev d11 (p : List Nat) : QD → Env → Hp → Prop := den Tryz.prog (sel (bodyOf Tryz.f11) p)
theorem t11 : d11 [] (q11 K E) #[U, U, U, U, U, U, U, U, U, U, U, U, U, U, U, U, U, U, U, U, U, U, U, U, U, U, U, U, U, U, U, U, U, U, U, U, U, U, U, U, U, U, U, U, U, U, U, U, U, U, U, U, U, U, U, U, U, U, U, U, U, U, U, U, U, U, U, U, U, U, U, U, U, U, U, U, U] =
  pv (bdC #[(.int .i64 0), (.slice none 0 0)] [(0, 1), (1, 1)] #[(0, (.int .i64 5))]) fun t1 =>
  nws 88 1 (bsC #[(.int .i64 0), (.slice none 0 0)] 2 1 #[(0, t1)]) fun t2 =>
  callv Tryz.prog (.func (.func 13) #[] #[]) #[t2] (fun t3 =>
  pv (binV .ptr .eql t3 (.pointer none)) fun t4 =>
  cnd t4 (
   K (.bool false)) (
   nws 3 1 (bsC #[(.int .i64 0)] 1 1 #[(0, (.int .i64 0))]) fun t5 =>
   nws 3 1 (bsC #[(.int .i64 0)] 1 1 #[(0, (.int .i64 1))]) fun t6 =>
   pv (bdC #[(.slice none 0 0), (.int .i64 0)] [(0, 1), (1, 1)] #[(0, t6), (1, (.int .i64 4))]) fun t7 =>
   nws 90 1 (bsC #[(.slice none 0 0), (.int .i64 0)] 2 1 #[(0, t7)]) fun t8 =>
   pv (bdC #[(.int .u8 0), (.int .u32 0), (.int .u32 0), (.slice none 0 0), (.slice none 0 0), (.int .u32 0), (.slice none 0 0), (.int .i64 0), (.int .i64 0), (.slice none 0 0)] [(0, 1), (1, 1), (2, 1), (3, 1), (4, 1), (5, 2), (7, 1), (8, 1), (9, 1)] #[(0, (.int .u8 1)), (1, (.int .u32 7)), (3, t5), (4, t8)]) fun t9 =>
   callv Tryz.prog (.func (.func 14) #[] #[]) #[t3, t9] (fun t10 =>
   nws 3 1 (bsC #[(.int .i64 0)] 1 1 #[(0, (.int .i64 0))]) fun t11 =>
   nws 3 1 (bsC #[(.int .i64 0)] 1 1 #[(0, (.int .i64 0))]) fun t12 =>
   nws 3 1 (bsC #[(.int .i64 0)] 1 1 #[(0, (.int .i64 5))]) fun t13 =>
   pv (bdC #[(.slice none 0 0), (.slice none 0 0), (.slice none 0 0)] [(0, 1), (1, 1), (2, 1)] #[(0, t11), (1, t12), (2, t13)]) fun t14 =>
   nw 55 [(.slice none 0 0), (.slice none 0 0), (.slice none 0 0)] fun t15 =>
   st 3 t15 t14 fun _ =>
   ld true 3 t15 fun t16 =>
   callv Tryz.prog (.func (.func 19) #[] #[]) #[t3, t16, (.int .u32 3)] (fun t17 =>
   pv (exV 0 t17) fun t18 =>
   pv (exV 1 t17) fun t19 =>
   callv Tryz.prog (.func (.func 18) #[] #[]) #[t3] (fun t20 =>
   pv (lenV t20) fun t21 =>
   pv (bdC #[(.int .u8 0), (.int .u32 0), (.int .u32 0), (.slice none 0 0), (.slice none 0 0), (.int .u32 0), (.slice none 0 0), (.int .i64 0), (.int .i64 0), (.slice none 0 0)] [(0, 1), (1, 1), (2, 1), (3, 1), (4, 1), (5, 2), (7, 1), (8, 1), (9, 1)] #[(0, (.int .u8 2)), (1, (.int .u32 7)), (2, (.int .u32 3))]) fun t22 =>
   callv Tryz.prog (.func (.func 14) #[] #[]) #[t3, t22] (fun t23 =>
   ld true 3 t15 fun t24 =>
   callv Tryz.prog (.func (.func 19) #[] #[]) #[t3, t24, (.int .u32 3)] (fun t25 =>
   pv (exV 0 t25) fun t26 =>
   pv (exV 1 t25) fun t27 =>
   pv (binV .none .eql t10 (.int .u16 0)) fun t28 =>
   gdK t28 true (fun k => k t19) fun t29 =>
   gdK t28 true (fun k => pv (binV .none .eql t29 (.int .u16 141)) k) fun t30 =>
   pv (pickV t28 t30 (.bool false)) fun t31 =>
   gdK t31 true (fun k => k t21) fun t32 =>
   gdK t31 true (fun k => pv (binV .none .eql t32 (.int .i64 1)) k) fun t33 =>
   pv (pickV t31 t33 (.bool false)) fun t34 =>
   gdK t34 true (fun k => k t23) fun t35 =>
   gdK t34 true (fun k => pv (binV .none .eql t35 (.int .u16 0)) k) fun t36 =>
   pv (pickV t34 t36 (.bool false)) fun t37 =>
   gdK t37 true (fun k => k t27) fun t38 =>
   gdK t37 true (fun k => pv (binV .none .eql t38 (.int .u16 0)) k) fun t39 =>
   pv (pickV t37 t39 (.bool false)) fun t40 =>
   gdK t40 true (fun k => k t26) fun t41 =>
   gdK t40 true (fun k => pv (lenV t41) k) fun t42 =>
   gdK t40 true (fun k => pv (binV .none .eql t42 (.int .i64 1)) k) fun t43 =>
   pv (pickV t40 t43 (.bool false)) fun t44 =>
   gdK t44 true (fun k => k t3) fun t45 =>
   gdK t44 true (fun k => callv Tryz.prog (.func (.func 16) #[] #[]) #[t45, (.int .u32 7)] k E) fun t46 =>
   gdK t44 true (fun k => pv (bdC #[(.int .u8 0), (.int .u32 0)] [(0, 1), (1, 1)] #[(0, (.int .u8 2)), (1, (.int .u32 3))]) k) fun t47 =>
   gdK t44 true (fun k => pv (eqCells .eql [0, 0] t46 t47) k) fun t48 =>
   pv (pickV t44 t48 (.bool false)) fun t49 =>
   gdK t49 true (fun k => callv Tryz.prog (.func (.func 13) #[] #[]) #[(.slice none 0 0)] k E) fun t50 =>
   gdK t49 true (fun k => pv (binV .ptr .eql t50 (.pointer none)) k) fun t51 =>
   pv (pickV t49 t51 (.bool false)) fun t52 =>
   K t52) E) E) E) E) E)) E := by kernel_rfl
abbrev q15 : QD := bodyQ Tryz.prog Tryz.f15.results.toList K E
abbrev d15 (p : List Nat) : QD → Env → Hp → Prop := den Tryz.prog (sel (bodyOf Tryz.f15) p)
abbrev q22 : QD := bodyQ Tryz.prog Tryz.f22.results.toList K E
abbrev d22 (p : List Nat) : QD → Env → Hp → Prop := den Tryz.prog (sel (bodyOf Tryz.f22) p)
end
section
variable {K : Kont} {E : PanK} {k1 k2 k3 k4 k5 : Env → Hp → Prop} {σ : Type} {x0 x1 x2 x3 x4 x5 x6 x7 x8 x9 x10 x11 x12 x13 x14 x15 x16 x17 x18 x19 x20 x21 x22 x23 x24 x25 x26 x27 x28 x29 x30 x31 x32 x33 x34 x35 x36 x37 x38 x39 x40 x41 x42 x43 x44 x45 x46 x47 x48 x49 x50 x51 x52 x53 x54 x55 x56 x57 x58 x59 x60 x61 x62 x63 x64 x65 x66 x67 x68 x69 x70 x71 x72 x73 x74 x75 x76 v0 v1 v2 v3 v4 v5 v6 v7 v8 v9 v10 v11 v12 v13 v14 v15 v16 v17 v18 v19 v20 v21 v22 v23 v24 v25 v26 v27 v28 v29 v30 v31 v32 v33 v34 v35 v36 v37 v38 v39 v40 v41 v42 v43 v44 v45 v46 v47 v48 v49 v50 v51 v52 v53 v54 v55 v56 v57 v58 v59 v60 v61 v62 v63 v64 v65 v66 v67 v68 v69 v70 v71 v72 v73 v74 v75 v76 : Value} {h : Hp} {j : Nat → Value}
end
end Go.Proofs.YtgcmbkoejjcjlaaGreatDoor.T
open Go Go.RowKit Go.Proofs.YtgcmbkoejjcjlaaGreatDoor.K Go.Proofs.YtgcmbkoejjcjlaaGreatDoor.T
set_option linter.unusedVariables false
set_option linter.unusedSimpArgs false
namespace Go.Proofs.YtgcmbkoejjcjlaaGreatDoor.A
variable {F F' : Nat → Option (List Value)} {M M' : Nat → Option Chunk} {N N' : Nat} {K : Kont} {E : PanK}
def r14a : RecA := ⟨1, 7, 0, [0], [([1], 4)], 0, 0, []⟩
def r14b : RecA := ⟨2, 7, 3, [], [], 0, 0, []⟩
def b14a : Bts := [(7, ⟨1, 0, [0], [([1], 4)]⟩)]
def b14b : Bts := [(7, ⟨2, 3, [], []⟩)]
def l14 : List Dm := [(5, [])]
def h14 : List En := [(3, [([1], 4)])]
theorem k14a : apE l14 [] [] 0 r14a = 0 ∧ apH l14 [] [] 0 r14a = [] ∧ apS l14 [] [] r14a = b14a ∧ apT l14 [] 0 r14a = 0 := ⟨by kernel_rfl, by kernel_rfl, by kernel_rfl, by kernel_rfl⟩
theorem k14b : apE l14 [] b14a 0 r14b = 0 ∧ apH l14 [] b14a 0 r14b = h14 ∧ apS l14 [] b14a r14b = b14b ∧ apT l14 [] 0 r14b = 0 := ⟨by kernel_rfl, by kernel_rfl, by kernel_rfl, by kernel_rfl⟩
theorem k14q : allI h14 (upTo h14 3) = [([1], 4)] ∧ tab ([([1], 4)].map fr1) = [([1], ⟨1, 4, 4, 4⟩)] ∧ runE l14 [([1], ⟨1, 4, 4, 4⟩)] [0] [0] [5] = 0 ∧ runT l14 [([1], ⟨1, 4, 4, 4⟩)] [0] [0] [5] = [([1], ⟨1, 4, 4, 4⟩)] := by decide +kernel
theorem ok14a : RecA.ok r14a := ⟨by decide, by decide, by decide, by decide, by decide, by simp [r14a]⟩
theorem ok14b : RecA.ok r14b := ⟨by decide, by decide, by decide, by decide, by decide, by simp [r14b]⟩
theorem waits_a {ws : List Int} (h : waits b14a ws) : ws = [7] := by
  refine rises_ext h.1 (List.pairwise_singleton _ _) fun x => ?_
  rw [h.2, List.mem_singleton, hasB_iff]
  constructor
  · rintro ⟨⟨y, hy, e⟩, _⟩
    rw [← e]
    simp [b14a] at hy
    rw [hy]
  · rintro rfl
    exact ⟨⟨_, List.mem_cons_self, rfl⟩, by decide⟩
theorem waits_b {ws : List Int} (h : waits b14b ws) : ws = [] := by
  refine List.eq_nil_iff_forall_not_mem.2 fun x hx => ?_
  obtain ⟨h1, h2⟩ := (h.2 x).1 hx
  obtain ⟨y, hy, e⟩ := hasB_iff.1 h1
  simp [b14b] at hy
  rw [hy] at e
  simp only at e
  subst e
  exact absurd h2 (by decide)
set_option maxRecDepth 10000 in
set_option maxHeartbeats 8000000 in
theorem known14_c (hE : E [] badH) (k : ∀ F' N', subF F F' → N ≤ N' → (Hp.mk F' M N').wf → K (.bool true) ⟨F', M, N'⟩) : callv Tryz.prog (.func (.func 11) #[] #[]) #[] K E ⟨F, M, N⟩ := by
  refine callv_of_text mixed Tryz.func11 (by kernel_rfl) (t11 _ E) (fun hw => ?_)
  have hm : clean M N := hw.m
  refine pv_r (v := .agg #[.int .i64 5, .slice none 0 0]) (by kernel_rfl) ?_
  refine nws_r (cs := [.int .i64 5, .slice none 0 0]) (by kernel_rfl) (fun b2 hb2 => ?_)
  refine callv_go (fun hc => ⟨_, frz_wf hm (fun q hq => upd_ne _ _ (by omega)) hc, ?_⟩)
  have hs0 := subF_frzAll (N := N) hc
  have f2 := frz_at (F := F) (N := N) (b := b2) (by omega) (upd_same M b2 (some (.cells 88 [.int .i64 5, .slice none 0 0] [Value.int .i64 5, .slice none 0 0].length)))
  generalize frzAll F _ N = F0 at *
  clear hc
  have hd1 : dimD F0 [.int .i64 5, .slice none 0 0] (5, []) := ⟨_, rfl, sF.nil _ _ _, by decide⟩
  have hd : dimsD F0 (.slice (some ⟨b2, 0, none⟩) 1 1) l14 := ⟨[[.int .i64 5, .slice none 0 0]], sF_lit f2 rfl (by decide), rowsF_snoc1 (rowsF.nil (dimD F0) 2) hd1.one hd1⟩
  refine pnew_c hd (by decide) (fun h => absurd h (by decide)) (fun _ p g mb dv F1 M1 N1 hF1 P1 hM1 hN1 hm1 hw1 => ?_)
  refine ptr_ne ?_
  try simp only [sS]
  refine nws_r (cs := [.int .i64 0]) (by kernel_rfl) (fun b5 hb5 => ?_)
  refine nws_r (cs := [.int .i64 1]) (by kernel_rfl) (fun b6 hb6 => ?_)
  refine pv_r (v := .agg #[.slice (some ⟨b6, 0, none⟩) 1 1, .int .i64 4]) (by kernel_rfl) ?_
  refine nws_r (cs := [.slice (some ⟨b6, 0, none⟩) 1 1, .int .i64 4]) (by kernel_rfl) (fun b8 hb8 => ?_)
  refine pv_r (v := .agg #[.int .u8 1, .int .u32 7, .int .u32 0, .slice (some ⟨b5, 0, none⟩) 1 1, .slice (some ⟨b8, 0, none⟩) 1 1, .int .u32 0, .slice none 0 0, .int .i64 0, .int .i64 0, .slice none 0 0]) (by kernel_rfl) ?_
  generalize hMx : upd (upd (upd M1 b5 _) b6 _) b8 _ = Mx
  have x5 : Mx b5 = some (.cells 3 [.int .i64 0] 1) := by rw [← hMx]; exact (upd_ne _ _ (by omega)).trans ((upd_ne _ _ (by omega)).trans (upd_same _ _ _))
  have x6 : Mx b6 = some (.cells 3 [.int .i64 1] 1) := by rw [← hMx]; exact (upd_ne _ _ (by omega)).trans (upd_same _ _ _)
  have x8 : Mx b8 = some (.cells 90 [.slice (some ⟨b6, 0, none⟩) 1 1, .int .i64 4] 2) := by rw [← hMx]; exact upd_same _ _ _
  have hMx1 : ∀ q, q < N1 → Mx q = M1 q := fun q hq => by rw [← hMx]; exact (upd_ne _ _ (by omega)).trans ((upd_ne _ _ (by omega)).trans (upd_ne _ _ (by omega)))
  clear hMx
  refine callv_go (fun hc => ⟨_, frz_wf hm1 hMx1 hc, ?_⟩)
  have hs2 := subF_frzAll (N := N1) hc
  have y5 := frz_at (F := F1) (N := N1) (b := b5) (by omega) x5
  have y6 := frz_at (F := F1) (N := N1) (b := b6) (by omega) x6
  have y8 := frz_at (F := F1) (N := N1) (b := b8) (by omega) x8
  generalize frzAll F1 Mx N1 = F2 at *
  clear hc x5 x6 x8 hMx1 Mx
  have hr1 : recD F2 [.int .u8 1, .int .u32 7, .int .u32 0, .slice (some ⟨b5, 0, none⟩) 1 1, .slice (some ⟨b8, 0, none⟩) 1 1, .int .u32 0, .slice none 0 0, .int .i64 0, .int .i64 0, .slice none 0 0] r14a :=
    ⟨_, _, _, _, _, rfl, int1 y5, one_fact y6 y8, entsD.nil, rfl, rfl⟩
  obtain ⟨a1, a2, a3, a4⟩ := k14a
  refine papply_c (P1.keep (M' := M1) hs2 (fun _ _ => rfl)) (by omega) (okH.nil _ _ _) (by decide) hr1 ok14a (by decide) (fun hv3 F3 M3 N3 rows3 hF3 P3 hM3 hN3 hm3 hw3 => ?_)
  rw [a1]
  rw [a2, a3, a4] at P3
  refine nws_r (cs := [.int .i64 0]) (by kernel_rfl) (fun b13 hb13 => ?_)
  refine nws_r (cs := [.int .i64 0]) (by kernel_rfl) (fun b14 hb14 => ?_)
  refine nws_r (cs := [.int .i64 5]) (by kernel_rfl) (fun b15 hb15 => ?_)
  refine pv_r (v := .agg #[.slice (some ⟨b13, 0, none⟩) 1 1, .slice (some ⟨b14, 0, none⟩) 1 1, .slice (some ⟨b15, 0, none⟩) 1 1]) (by kernel_rfl) ?_
  refine nw_r (fun b17 hb17 => ?_)
  refine stM (cs' := [.slice (some ⟨b13, 0, none⟩) 1 1, .slice (some ⟨b14, 0, none⟩) 1 1, .slice (some ⟨b15, 0, none⟩) 1 1]) ?_
  rw [upd_upd]
  refine ldMa (vs := [.slice (some ⟨b13, 0, none⟩) 1 1, .slice (some ⟨b14, 0, none⟩) 1 1, .slice (some ⟨b15, 0, none⟩) 1 1]) ?_
  generalize hM7 : upd (upd (upd (upd M3 b13 _) b14 _) b15 _) b17 _ = M7
  have g17 : M7 b17 = some (.cells 55 [.slice (some ⟨b13, 0, none⟩) 1 1, .slice (some ⟨b14, 0, none⟩) 1 1, .slice (some ⟨b15, 0, none⟩) 1 1] 3) := by rw [← hM7]; exact upd_same _ _ _
  have g15 : M7 b15 = some (.cells 3 [.int .i64 5] 1) := by rw [← hM7]; exact (upd_ne _ _ (by omega)).trans (upd_same _ _ _)
  have g14 : M7 b14 = some (.cells 3 [.int .i64 0] 1) := by rw [← hM7]; exact (upd_ne _ _ (by omega)).trans ((upd_ne _ _ (by omega)).trans (upd_same _ _ _))
  have g13 : M7 b13 = some (.cells 3 [.int .i64 0] 1) := by rw [← hM7]; exact (upd_ne _ _ (by omega)).trans ((upd_ne _ _ (by omega)).trans ((upd_ne _ _ (by omega)).trans (upd_same _ _ _)))
  have hM75 : ∀ q, q < N3 → M7 q = M3 q := fun q hq => by rw [← hM7]; exact (upd_ne _ _ (by omega)).trans ((upd_ne _ _ (by omega)).trans ((upd_ne _ _ (by omega)).trans (upd_ne _ _ (by omega))))
  have hm7 : clean M7 (b17 + 1) := by rw [← hM7]; exact (((hm3.new hb13 _).new hb14 _).new hb15 _).new hb17 _
  clear hM7
  obtain ⟨N7, hN7⟩ : ∃ n, n = b17 + 1 := ⟨_, rfl⟩
  rw [← hN7] at hm7 ⊢
  refine callv_go (fun hc => ⟨_, wk_P (p := fun q => q = b13 ∨ q = b14 ∨ q = b15) hc, ?_⟩)
  have hs8 := subF_frzP (p := fun q => q = b13 ∨ q = b14 ∨ q = b15) hc
  have f13 := frzP_at (F := F3) (p := fun q => q = b13 ∨ q = b14 ∨ q = b15) (.inl rfl) g13
  have f14 := frzP_at (F := F3) (p := fun q => q = b13 ∨ q = b14 ∨ q = b15) (.inr (.inl rfl)) g14
  have f15 := frzP_at (F := F3) (p := fun q => q = b13 ∨ q = b14 ∨ q = b15) (.inr (.inr rfl)) g15
  have g17' : keepM M7 (fun q => ¬ (q = b13 ∨ q = b14 ∨ q = b15)) b17 = _ := (keepM_in (by omega)).trans g17
  have hM85 : ∀ q, q < N3 → keepM M7 (fun q => ¬ (q = b13 ∨ q = b14 ∨ q = b15)) q = M3 q := fun q hq => (keepM_in (by omega)).trans (hM75 q hq)
  have hm8 := keepM_clean (p := fun q => ¬ (q = b13 ∨ q = b14 ∨ q = b15)) hm7
  generalize frzP F3 M7 _ = F8 at *
  generalize keepM M7 _ = M8 at *
  have hq : queryD F8 [.slice (some ⟨b13, 0, none⟩) 1 1, .slice (some ⟨b14, 0, none⟩) 1 1, .slice (some ⟨b15, 0, none⟩) 1 1] [0] [0] [5] := ⟨_, _, _, rfl, int1 f13, int1 f14, int1 f15, by decide, by decide, by decide⟩
  have P8 := P3.up (M' := M8) hm3 hs8 hM85
  obtain ⟨q1, q2, q3, q4⟩ := k14q
  refine pquery_c hE P8 (by decide) (by decide) (by decide) (by decide) (by simp) hq (by simp [i64]) (by simp [allI, tab]) (fun ws F9 N9 h0 hws hw9 hF9 hN9 => ?_) (fun h0 => absurd (waits_a h0) (by simp))
  try simp only [sS]
  refine pwait_c hE (P8.keep (M' := M8) hF9 (fun _ _ => rfl)) (by decide) (fun u10 ws2 F10 N10 hw10 hF10 hN10 hws2 hs10 => ?_)
  rw [waits_a hws2] at hs10
  refine lenF_r hs10 ?_
  refine pv_r (v := .agg #[.int .u8 2, .int .u32 7, .int .u32 3, .slice none 0 0, .slice none 0 0, .int .u32 0, .slice none 0 0, .int .i64 0, .int .i64 0, .slice none 0 0]) (by kernel_rfl) ?_
  have hr2 : recD F10 [.int .u8 2, .int .u32 7, .int .u32 3, .slice none 0 0, .slice none 0 0, .int .u32 0, .slice none 0 0, .int .i64 0, .int .i64 0, .slice none 0 0] r14b :=
    ⟨_, _, _, _, _, rfl, sF.nil _ _ _, fctsD.nil, entsD.nil, rfl, rfl⟩
  obtain ⟨c1, c2, c3, c4⟩ := k14b
  have hF810 := hF9.trans hF10
  refine papply_c (P8.keep (M' := M8) hF810 (fun _ _ => rfl)) (by omega) (okH.nil _ _ _) (by decide) hr2 ok14b (by decide) (fun hv11 F11 M11 N11 rows11 hF11 P11 hM11 hN11 hm11 hw11 => ?_)
  rw [c1]
  rw [c2, c3, c4] at P11
  have hpl3 := P3.lt hm3
  have g17b := (hM11 b17 (fun e => by have := (hpl3 b17 (.inr (.inr (.inr e)))).2; omega) (fun e => by have := (hpl3 g (.inr (.inr (.inl rfl)))).2; omega) (fun e => by have := (hpl3 mb (.inr (.inl rfl))).2; omega) (fun e => by have := (hpl3 p (.inl rfl)).2; omega) (by omega)).1.trans g17'
  refine ldMa (vs := [.slice (some ⟨b13, 0, none⟩) 1 1, .slice (some ⟨b14, 0, none⟩) 1 1, .slice (some ⟨b15, 0, none⟩) 1 1]) ?_ g17b
  refine pquery_c hE P11 (by decide) (by decide) (by decide) (by decide) (by simp [h14, okK, i64]) (hq.mono (hF810.trans hF11)) (by simp [i64]) (by rw [q1, q2]; simp [okK, i64]) (fun ws F12 N12 h0 hws => by rw [waits_b hws] at h0; simp at h0) (fun _ u12 F12 N12 hw12 hF12 hN12 h12 => ?_)
  rw [q1, q2, q3]
  rw [q1, q2, q4] at h12
  obtain ⟨p12, h12a, h12b⟩ := h12
  try simp only [sS]
  refine eql_t rfl ?_
  try simp only [sS]
  refine eql_t rfl ?_
  try simp only [sS]
  refine eql_t rfl ?_
  try simp only [sS]
  refine eql_t rfl ?_
  try simp only [sS]
  refine eql_t rfl ?_
  try simp only [sS]
  refine lenF_r h12a (eql_t rfl ?_)
  try simp only [sS]
  refine pstatus_c (id := 7) (P11.keep (M' := M11) hF12 (fun _ _ => rfl)) (fun N13 hN13 hw13 => ?_)
  refine pv_r (v := .agg #[.int .u8 2, .int .u32 3]) (by kernel_rfl) ?_
  refine pv_r (v := .bool true) (by kernel_rfl) ?_
  try simp only [sS]
  refine pnew_c (l := []) ⟨[], sF.nil _ _ _, rowsF.nil _ _⟩ (by decide) (fun _ N14 hN14 hw14 => ?_) (fun h => absurd h (by decide))
  refine pv_r (v := .bool true) rfl ?_
  try simp only [sS]
  have hpl1 := P1.lt hm1
  have hge1 : ∀ q, q = p ∨ q = mb ∨ q = g → N ≤ q := fun q hq => by have := (hpl1 q (by rcases hq with h | h | h; exact .inl h; exact .inr (.inl h); exact .inr (.inr (.inl h)))).1; omega
  have hX : ∀ q, q < N → M11 q = M q := fun q hq => by
    have np : q ≠ p := fun e => by have := hge1 p (.inl rfl); omega
    have nmb : q ≠ mb := fun e => by have := hge1 mb (.inr (.inl rfl)); omega
    have ng : q ≠ g := fun e => by have := hge1 g (.inr (.inr rfl)); omega
    have n3 : hv3.ownBlock ≠ some q := fun e => by have := (hpl3 q (.inr (.inr (.inr e)))).1; omega
    rw [(hM11 q n3 ng nmb np (by omega)).1, hM85 q (by omega), (hM3 q (by simp [Value.ownBlock]) ng nmb np (by omega)).1, hM1 q (by omega)]
  exact fun hc => ⟨_, frz_wf hm hX hc, fun hw' => k _ _ ((((((hs0.trans hF1).trans hs2).trans hF3).trans hs8).trans hF810).trans ((hF11.trans hF12).trans (subF_frzAll hc))) (by omega) hw'⟩
end Go.Proofs.YtgcmbkoejjcjlaaGreatDoor.A
open Go Go.RowKit Go.Proofs.YtgcmbkoejjcjlaaGreatDoor.K
set_option linter.unusedVariables false
set_option maxRecDepth 100000
namespace Go.Proofs.YtgcmbkoejjcjlaaGreatDoor.T
section
variable (K : Kont) (E : PanK) (k1 k2 k3 k4 k5 : Env → Hp → Prop) (x0 x1 x2 x3 x4 x5 x6 x7 x8 x9 x10 x11 x12 x13 x14 x15 x16 x17 x18 x19 x20 x21 x22 x23 x24 x25 x26 x27 x28 x29 x30 x31 x32 x33 x34 x35 x36 x37 x38 x39 x40 x41 x42 x43 x44 x45 x46 x47 x48 x49 x50 x51 x52 x53 x54 x55 x56 x57 x58 x59 x60 x61 x62 x63 x64 x65 x66 x67 x68 x69 x70 x71 x72 x73 x74 x75 x76 x77 x78 x79 x80 x81 x82 x83 x84 x85 x86 x87 x88 x89 x90 x91 x92 x93 x94 x95 x96 x97 x98 x99 x100 x101 x102 x103 x104 x105 x106 x107 x108 x109 x110 x111 x112 x113 x114 x115 x116 x117 x118 x119 x120 x121 x122 x123 v0 v1 v2 v3 v4 v5 v6 v7 v8 v9 v10 v11 v12 v13 v14 v15 v16 v17 v18 v19 v20 v21 v22 v23 v24 v25 v26 v27 v28 v29 v30 v31 v32 v33 v34 v35 v36 v37 v38 v39 v40 v41 v42 v43 v44 v45 v46 v47 v48 v49 v50 v51 v52 v53 v54 v55 v56 v57 v58 v59 v60 v61 v62 v63 v64 v65 v66 v67 v68 v69 v70 v71 v72 v73 v74 v75 v76 v77 v78 v79 v80 v81 v82 v83 v84 v85 v86 v87 v88 v89 v90 v91 v92 v93 v94 v95 v96 v97 v98 v99 v100 v101 v102 v103 v104 v105 v106 v107 v108 v109 v110 v111 v112 v113 v114 v115 v116 v117 v118 v119 v120 v121 v122 v123 : Value) (j : Nat → Value)
abbrev q7 : QD := bodyQ Tryz.prog Tryz.f7.results.toList K E
abbrev d7 (p : List Nat) : QD → Env → Hp → Prop := den Tryz.prog (sel (bodyOf Tryz.f7) p)
end
section
variable {K : Kont} {E : PanK} {k1 k2 k3 k4 k5 : Env → Hp → Prop} {σ : Type} {x0 x1 x2 x3 x4 x5 x6 x7 x8 x9 x10 x11 x12 x13 x14 x15 x16 x17 x18 x19 x20 x21 x22 x23 x24 x25 x26 x27 x28 x29 x30 x31 x32 x33 x34 x35 x36 x37 x38 x39 x40 x41 x42 x43 x44 x45 x46 x47 x48 x49 x50 x51 x52 x53 x54 x55 x56 x57 x58 x59 x60 x61 x62 x63 x64 x65 x66 x67 x68 x69 x70 x71 x72 x73 x74 x75 x76 x77 x78 x79 x80 x81 x82 x83 x84 x85 x86 x87 x88 x89 x90 x91 x92 x93 x94 x95 x96 x97 x98 x99 x100 x101 x102 x103 x104 x105 x106 x107 x108 x109 x110 x111 x112 x113 x114 x115 x116 x117 x118 x119 x120 x121 x122 x123 v0 v1 v2 v3 v4 v5 v6 v7 v8 v9 v10 v11 v12 v13 v14 v15 v16 v17 v18 v19 v20 v21 v22 v23 v24 v25 v26 v27 v28 v29 v30 v31 v32 v33 v34 v35 v36 v37 v38 v39 v40 v41 v42 v43 v44 v45 v46 v47 v48 v49 v50 v51 v52 v53 v54 v55 v56 v57 v58 v59 v60 v61 v62 v63 v64 v65 v66 v67 v68 v69 v70 v71 v72 v73 v74 v75 v76 v77 v78 v79 v80 v81 v82 v83 v84 v85 v86 v87 v88 v89 v90 v91 v92 v93 v94 v95 v96 v97 v98 v99 v100 v101 v102 v103 v104 v105 v106 v107 v108 v109 v110 v111 v112 v113 v114 v115 v116 v117 v118 v119 v120 v121 v122 v123 : Value} {h : Hp} {j : Nat → Value}
end
end Go.Proofs.YtgcmbkoejjcjlaaGreatDoor.T
open Go Go.RowKit Go.Proofs.YtgcmbkoejjcjlaaGreatDoor.K Go.Proofs.YtgcmbkoejjcjlaaGreatDoor.T
set_option linter.unusedVariables false
set_option linter.unusedSimpArgs false
namespace Go.Proofs.YtgcmbkoejjcjlaaGreatDoor.A
variable {F F' : Nat → Option (List Value)} {M M' : Nat → Option Chunk} {N N' : Nat} {K : Kont} {E : PanK}
theorem inR_all {l : List Dm} (hl : goodDims l) {f : Fc} (h : inF l f.1 = true) : inR 0 10000 f = true := by
  have hlen := inF_len h
  have h0 := hl.1
  have hk0 : 0 < f.1.length := by omega
  unfold inF at h
  rw [Bool.and_eq_true, List.all_eq_true] at h
  have := h.2 0 (List.mem_range.2 h0)
  unfold inP at this
  rw [getD_at hk0, getD_at h0] at this
  have h1 := of_decide_eq_true this
  have h2 := hl.2.2 _ (List.getElem_mem h0)
  unfold inR
  rw [getD_at hk0]
  exact decide_eq_true ⟨hk0, h1.1, by omega⟩
end Go.Proofs.YtgcmbkoejjcjlaaGreatDoor.A
open Go Go.RowKit Go.Proofs.YtgcmbkoejjcjlaaGreatDoor.K Go.Proofs.YtgcmbkoejjcjlaaGreatDoor.T
set_option linter.unusedVariables false
set_option linter.unusedSimpArgs false
namespace Go.Proofs.YtgcmbkoejjcjlaaGreatDoor.A
variable {F F' : Nat → Option (List Value)} {M M' : Nat → Option Chunk} {N N' : Nat} {K : Kont} {E : PanK}
theorem entOne {t : Int} {fs : List Fc} (hp : ∀ f ∈ fs, inR 0 10000 f = true) : entF 0 10000 [(t, fs)] = if fs.length = 0 then [] else [(t, fs)] := by
  have hf : fs.filter (inR 0 10000) = fs := List.filter_eq_self.2 hp
  unfold entF
  simp only [List.filterMap_cons, List.filterMap_nil]
  unfold entE
  try simp only [hf]
  by_cases h : fs.length = 0
  · rw [if_pos h, if_neg (by omega)]
  · rw [if_neg h, if_pos (by omega)]
end Go.Proofs.YtgcmbkoejjcjlaaGreatDoor.A
open Go Go.RowKit Go.Proofs.YtgcmbkoejjcjlaaGreatDoor.K
set_option linter.unusedVariables false
set_option maxRecDepth 100000
namespace Go.Proofs.YtgcmbkoejjcjlaaGreatDoor.T
section
variable (K : Kont) (E : PanK) (k1 k2 k3 k4 k5 : Env → Hp → Prop) (x0 x1 x2 x3 x4 x5 x6 x7 x8 x9 x10 x11 x12 x13 x14 x15 x16 x17 x18 x19 x20 x21 x22 x23 x24 x25 x26 x27 x28 x29 x30 x31 x32 x33 x34 x35 x36 x37 x38 x39 x40 x41 x42 x43 x44 x45 x46 x47 x48 x49 x50 x51 x52 x53 x54 x55 x56 x57 x58 x59 x60 x61 x62 x63 x64 x65 x66 x67 x68 x69 x70 x71 x72 x73 x74 x75 x76 x77 x78 x79 x80 x81 x82 x83 x84 x85 x86 x87 x88 x89 x90 x91 x92 x93 x94 x95 x96 x97 x98 x99 x100 x101 x102 x103 x104 x105 x106 x107 x108 x109 x110 x111 x112 x113 x114 x115 x116 x117 x118 x119 x120 x121 x122 x123 v0 v1 v2 v3 v4 v5 v6 v7 v8 v9 v10 v11 v12 v13 v14 v15 v16 v17 v18 v19 v20 v21 v22 v23 v24 v25 v26 v27 v28 v29 v30 v31 v32 v33 v34 v35 v36 v37 v38 v39 v40 v41 v42 v43 v44 v45 v46 v47 v48 v49 v50 v51 v52 v53 v54 v55 v56 v57 v58 v59 v60 v61 v62 v63 v64 v65 v66 v67 v68 v69 v70 v71 v72 v73 v74 v75 v76 v77 v78 v79 v80 v81 v82 v83 v84 v85 v86 v87 v88 v89 v90 v91 v92 v93 v94 v95 v96 v97 v98 v99 v100 v101 v102 v103 v104 v105 v106 v107 v108 v109 v110 v111 v112 v113 v114 v115 v116 v117 v118 v119 v120 v121 v122 v123 : Value) (j : Nat → Value)
abbrev q8 : QD := bodyQ Tryz.prog Tryz.f8.results.toList K E
abbrev d8 (p : List Nat) : QD → Env → Hp → Prop := den Tryz.prog (sel (bodyOf Tryz.f8) p)
def m8_1_1_1_1_1_1_1_0_1_0_0 (j : Nat → Value) : Env := #[x0, x1, x2, x3, x4, x5, x6, x7, (j 8), x9, x10, v11, x12, v13, (j 14), (j 15), (j 16), (j 17), x18, x19, x20, x21, x22, x23, x24, x25, x26, x27, x28, x29, x30, x31, x32, x33, x34, x35, x36, x37, x38, x39, x40, (j 41), (j 42), (j 43), (j 44), (j 45), (j 46), (j 47), (j 48), (j 49), (j 50), (j 51), (j 52), (j 53), (j 54), (j 55), (j 56), (j 57), (j 58), (j 59), (j 60), (j 61), (j 62), (j 63), (j 64), (j 65), (j 66), (j 67), (j 68), (j 69), (j 70), (j 71), (j 72), (j 73), (j 74), (j 75), (j 76), (j 77), (j 78), (j 79), (j 80), (j 81), (j 82), (j 83), (j 84), (j 85), (j 86), (j 87), (j 88), (j 89), (j 90), (j 91), (j 92), (j 93), (j 94), (j 95), (j 96), (j 97), (j 98), (j 99), (j 100), (j 101), (j 102), (j 103), (j 104), (j 105), (j 106), (j 107), (j 108), (j 109), (j 110), (j 111), (j 112), (j 113), (j 114), (j 115), (j 116), (j 117), (j 118), (j 119), (j 120), (j 121), (j 122), (j 123)]
theorem t8 : d8 [] (q8 K E) #[x0, x1, x2, x3, U, U, U, U, U, U, U, U, U, U, U, U, U, U, U, U, U, U, U, U, U, U, U, U, U, U, U, U, U, U, U, U, U, U, U, U, U, U, U, U, U, U, U, U, U, U, U, U, U, U, U, U, U, U, U, U, U, U, U, U, U, U, U, U, U, U, U, U, U, U, U, U, U, U, U, U, U, U, U, U, U, U, U, U, U, U, U, U, U, U, U, U, U, U, U, U, U, U, U, U, U, U, U, U, U, U, U, U, U, U, U, U, U, U, U, U, U, U, U, U] =
  pv (lenV x1) fun t1 =>
  pv (binV .none .gtr t1 (.int .i64 30)) fun t2 =>
  gdK t2 false (fun k => k x2) fun t3 =>
  gdK t2 false (fun k => pv (lenV t3) k) fun t4 =>
  gdK t2 false (fun k => pv (binV .none .gtr t4 (.int .i64 60)) k) fun t5 =>
  pv (pickV t2 (.bool true) t5) fun t6 =>
  gdK t6 false (fun k => callv Tryz.prog (.func (.func 11) #[] #[]) #[] k E) fun t7 =>
  gdK t6 false (fun k => pv (unV .not t7) k) fun t8 =>
  pv (pickV t6 (.bool true) t8) fun t9 =>
  cnd t9 (
   callv Tryz.prog (.func (.func 11) #[] #[]) #[] (fun t10 =>
   K t10) E) (
   callv Tryz.prog (.func (.func 12) #[] #[]) #[x0] (fun t11 =>
   callv Tryz.prog (.func (.func 13) #[] #[]) #[t11] (fun t12 =>
   pv (binV .ptr .eql t12 (.pointer none)) fun t13 =>
   cnd t13 (
    K (.bool false)) (
    callv Tryz.prog (.func (.func 20) #[] #[]) #[t11, x2, x3] (fun t14 =>
    lp (fun k1 => d8 [1, 1, 1, 1, 1, 1, 1, 0, 1, 0, 0] (thenD k1 (blk 0 (thenD (d8 [1, 1, 1, 1, 1, 1, 1, 1] (q8 K E)) (q8 K E))))) (m8_1_1_1_1_1_1_1_0_1_0_0 x0 x1 x2 x3 U U U U t11 t12 t14 x1 t1 t2 t2 t3 t4 t5 t6 t6 t7 t8 t9 U x0 t11 t11 t12 t12 t13 t11 x2 x3 t14 (.int .u32 0) (.int .i64 0) (jf #[U, U, U, U, U, U, U, U, (.bool false)]))) E)) E) E) := by kernel_rfl
theorem t8_1_1_1_1_1_1_1_0_1_0_0 : d8 [1, 1, 1, 1, 1, 1, 1, 0, 1, 0, 0] (thenD k1 (blk 0 (thenD (d8 [1, 1, 1, 1, 1, 1, 1, 1] (q8 K E)) (q8 K E)))) (m8_1_1_1_1_1_1_1_0_1_0_0 x0 x1 x2 x3 x4 x5 x6 x7 x9 x10 x12 x18 x19 x20 x21 x22 x23 x24 x25 x26 x27 x28 x29 x30 x31 x32 x33 x34 x35 x36 x37 x38 x39 x40 v11 v13 j) =
  pv (lenV x1) fun t1 =>
  pv (binV .none .lss v13 t1) fun t2 =>
  cnd t2 (
   pv (iaV none 1 x1 v13) fun t3 =>
   ld false 1 t3 fun t4 =>
   pv (cvV .u32 t4) fun t5 =>
   pv (lenV x12) fun t6 =>
   pv (mm false v13 t6) fun t7 =>
   pv (binV .none .add (.int .u32 1) t5) fun t8 =>
   pv (slV 2 x12 none (some t7) none) fun t9 =>
   pv (bdC #[(.int .u32 0), (.slice none 0 0)] [(0, 1), (1, 1)] #[(0, t8), (1, t9)]) fun t10 =>
   nws 74 1 (bsC #[(.int .u32 0), (.slice none 0 0)] 2 1 #[(0, t10)]) fun t11 =>
   pv (bdC #[(.int .u8 0), (.int .u32 0), (.int .u32 0), (.slice none 0 0), (.slice none 0 0), (.int .u32 0), (.slice none 0 0), (.int .i64 0), (.int .i64 0), (.slice none 0 0)] [(0, 1), (1, 1), (2, 1), (3, 1), (4, 1), (5, 2), (7, 1), (8, 1), (9, 1)] #[(0, (.int .u8 7)), (1, t5), (7, (.int .i64 10000)), (8, t11)]) fun t12 =>
   callv Tryz.prog (.func (.func 14) #[] #[]) #[x10, t12] (fun t13 =>
   pv (binV .none .eql t13 (.int .u16 0)) fun t14 =>
   pv (binV .none .gtr t5 v11) fun t15 =>
   pv (binV .bool .neq t14 t15) fun t16 =>
   gdK t16 false (fun k => k t13) fun t17 =>
   gdK t16 false (fun k => pv (binV .none .neq t17 (.int .u16 0)) k) fun t18 =>
   gdK t16 false (fun k => k t18) fun t19 =>
   gdK t19 true (fun k => k t13) fun t20 =>
   gdK t19 true (fun k => pv (binV .none .neq t20 (.int .u16 140)) k) fun t21 =>
   gdK t16 false (fun k => pv (pickV t19 t21 (.bool false)) k) fun t22 =>
   pv (pickV t16 (.bool true) t22) fun t23 =>
   cnd t23 (
    K (.bool false)) (
    pv (mm true v11 t5) fun t24 =>
    callv Tryz.prog (.func (.func 23) #[] #[]) #[x10] (fun t25 =>
    pv (binV .none .neq t25 t24) fun t26 =>
    cnd t26 (
     K (.bool false)) (
     pv (nilV x10) fun t27 =>
     pv (faV 0 t27) fun t28 =>
     ld false 1 t28 fun t29 =>
     callv Tryz.prog (.func (.func 24) #[] #[]) #[t29, (.int .i64 0), (.int .i64 10000)] (fun t30 =>
     pv (binV .none .eql t13 (.int .u16 0)) fun t31 =>
     gdK t31 true (fun k => k t30) fun t32 =>
     gdK t31 true (fun k => pv (lenV t32) k) fun t33 =>
     gdK t31 true (fun k => k t7) fun t34 =>
     gdK t31 true (fun k => pv (mm false t34 (.int .i64 1)) k) fun t35 =>
     gdK t31 true (fun k => pv (binV .none .neq t33 t35) k) fun t36 =>
     gdK t31 true (fun k => k t36) fun t37 =>
     gdK t37 false (fun k => k t7) fun t38 =>
     gdK t37 false (fun k => pv (binV .none .gtr t38 (.int .i64 0)) k) fun t39 =>
     gdK t37 false (fun k => k t39) fun t40 =>
     gdK t40 true (fun k => k t30) fun t41 =>
     gdK t40 true (fun k => pv (iaV none 2 t41 (.int .i64 0)) k) fun t42 =>
     gdK t40 true (fun k => pv (faV 0 t42) k) fun t43 =>
     gdK t40 true (fun k => ld false 1 t43 k) fun t44 =>
     gdK t40 true (fun k => k t5) fun t45 =>
     gdK t40 true (fun k => pv (binV .none .add (.int .u32 1) t45) k) fun t46 =>
     gdK t40 true (fun k => pv (binV .none .neq t44 t46) k) fun t47 =>
     gdK t40 true (fun k => k t47) fun t48 =>
     gdK t48 false (fun k => k t30) fun t49 =>
     gdK t48 false (fun k => pv (iaV none 2 t49 (.int .i64 0)) k) fun t50 =>
     gdK t48 false (fun k => pv (faV 1 t50) k) fun t51 =>
     gdK t48 false (fun k => ld false 1 t51 k) fun t52 =>
     gdK t48 false (fun k => pv (lenV t52) k) fun t53 =>
     gdK t48 false (fun k => k t7) fun t54 =>
     gdK t48 false (fun k => pv (binV .none .neq t53 t54) k) fun t55 =>
     gdK t40 true (fun k => pv (pickV t48 (.bool true) t55) k) fun t56 =>
     gdK t37 false (fun k => pv (pickV t40 t56 (.bool false)) k) fun t57 =>
     gdK t31 true (fun k => pv (pickV t37 (.bool true) t57) k) fun t58 =>
     pv (pickV t31 t58 (.bool false)) fun t59 =>
     cnd t59 (
      K (.bool false)) (
      pv (binV .none .add v13 (.int .i64 1)) fun t60 =>
      k1 (m8_1_1_1_1_1_1_1_0_1_0_0 x0 x1 x2 x3 x4 x5 x6 x7 x9 x10 x12 x18 x19 x20 x21 x22 x23 x24 x25 x26 x27 x28 x29 x30 x31 x32 x33 x34 x35 x36 x37 x38 x39 x40 t24 t60 (jf #[U, U, U, U, U, U, U, U, (j 8), U, U, U, U, U, t5, t7, t13, t30, U, U, U, U, U, U, U, U, U, U, U, U, U, U, U, U, U, U, U, U, U, U, U, v13, x1, t1, t2, v13, t60, x1, v13, t3, t4, t5, v13, x12, t6, t7, x10, t5, t5, t8, x12, t7, t9, t10, t11, t12, t13, t13, t14, t5, v11, t15, t16, t16, t17, t18, t19, t20, t21, t22, t23, v11, t5, t24, x10, t25, t24, t26, x10, t27, t28, t29, t30, t13, t31, t31, t32, t33, t34, t35, t36, t37, t38, t39, t40, t41, t42, t43, t44, t45, t46, t47, t48, t49, t50, t51, t52, t53, t54, t55, t56, t57, t58, t59])))) E)) E)) E) (
   K (.bool true)) := by kernel_rfl
end
section
variable {K : Kont} {E : PanK} {k1 k2 k3 k4 k5 : Env → Hp → Prop} {σ : Type} {x0 x1 x2 x3 x4 x5 x6 x7 x8 x9 x10 x11 x12 x13 x14 x15 x16 x17 x18 x19 x20 x21 x22 x23 x24 x25 x26 x27 x28 x29 x30 x31 x32 x33 x34 x35 x36 x37 x38 x39 x40 x41 x42 x43 x44 x45 x46 x47 x48 x49 x50 x51 x52 x53 x54 x55 x56 x57 x58 x59 x60 x61 x62 x63 x64 x65 x66 x67 x68 x69 x70 x71 x72 x73 x74 x75 x76 x77 x78 x79 x80 x81 x82 x83 x84 x85 x86 x87 x88 x89 x90 x91 x92 x93 x94 x95 x96 x97 x98 x99 x100 x101 x102 x103 x104 x105 x106 x107 x108 x109 x110 x111 x112 x113 x114 x115 x116 x117 x118 x119 x120 x121 x122 x123 v0 v1 v2 v3 v4 v5 v6 v7 v8 v9 v10 v11 v12 v13 v14 v15 v16 v17 v18 v19 v20 v21 v22 v23 v24 v25 v26 v27 v28 v29 v30 v31 v32 v33 v34 v35 v36 v37 v38 v39 v40 v41 v42 v43 v44 v45 v46 v47 v48 v49 v50 v51 v52 v53 v54 v55 v56 v57 v58 v59 v60 v61 v62 v63 v64 v65 v66 v67 v68 v69 v70 v71 v72 v73 v74 v75 v76 v77 v78 v79 v80 v81 v82 v83 v84 v85 v86 v87 v88 v89 v90 v91 v92 v93 v94 v95 v96 v97 v98 v99 v100 v101 v102 v103 v104 v105 v106 v107 v108 v109 v110 v111 v112 v113 v114 v115 v116 v117 v118 v119 v120 v121 v122 v123 : Value} {h : Hp} {j : Nat → Value}
theorem l8_1_1_1_1_1_1_1_0_1_0_0 (f11 f13 : σ → Value) (I : σ → Hp → Prop) (μ : σ → Nat) (s0 : σ) (e11 : v11 = f11 s0) (e13 : v13 = f13 s0) (h0 : h.wf → ∃ h', h.wk h' ∧ I s0 h')
 (round : ∀ (k1 : Env → Hp → Prop) (s : σ) (j : Nat → Value) (h : Hp), I s h → h.wf → (∀ s' j' h', μ s' < μ s → (h'.wf → ∃ h'', h'.wk h'' ∧ I s' h'') → k1 (m8_1_1_1_1_1_1_1_0_1_0_0 x0 x1 x2 x3 x4 x5 x6 x7 x9 x10 x12 x18 x19 x20 x21 x22 x23 x24 x25 x26 x27 x28 x29 x30 x31 x32 x33 x34 x35 x36 x37 x38 x39 x40 (f11 s') (f13 s') j') h') → d8 [1, 1, 1, 1, 1, 1, 1, 0, 1, 0, 0] (thenD k1 (blk 0 (thenD (d8 [1, 1, 1, 1, 1, 1, 1, 1] (q8 K E)) (q8 K E)))) (m8_1_1_1_1_1_1_1_0_1_0_0 x0 x1 x2 x3 x4 x5 x6 x7 x9 x10 x12 x18 x19 x20 x21 x22 x23 x24 x25 x26 x27 x28 x29 x30 x31 x32 x33 x34 x35 x36 x37 x38 x39 x40 (f11 s) (f13 s) j) h) :
 lp (fun k1 => d8 [1, 1, 1, 1, 1, 1, 1, 0, 1, 0, 0] (thenD k1 (blk 0 (thenD (d8 [1, 1, 1, 1, 1, 1, 1, 1] (q8 K E)) (q8 K E))))) (m8_1_1_1_1_1_1_1_0_1_0_0 x0 x1 x2 x3 x4 x5 x6 x7 x9 x10 x12 x18 x19 x20 x21 x22 x23 x24 x25 x26 x27 x28 x29 x30 x31 x32 x33 x34 x35 x36 x37 x38 x39 x40 v11 v13 j) h := by
 subst e11
 subst e13
 exact loop_r (fun s j => m8_1_1_1_1_1_1_1_0_1_0_0 x0 x1 x2 x3 x4 x5 x6 x7 x9 x10 x12 x18 x19 x20 x21 x22 x23 x24 x25 x26 x27 x28 x29 x30 x31 x32 x33 x34 x35 x36 x37 x38 x39 x40 (f11 s) (f13 s) j) I μ round s0 j h0
end
end Go.Proofs.YtgcmbkoejjcjlaaGreatDoor.T
open Go Go.RowKit Go.Proofs.YtgcmbkoejjcjlaaGreatDoor.K Go.Proofs.YtgcmbkoejjcjlaaGreatDoor.T
set_option linter.unusedVariables false
set_option linter.unusedSimpArgs false
namespace Go.Proofs.YtgcmbkoejjcjlaaGreatDoor.A
variable {F F' : Nat → Option (List Value)} {M M' : Nat → Option Chunk} {N N' : Nat} {K : Kont} {E : PanK}
theorem pre_r {v : Value} {fs : List Fc} {n : Nat} (hv : fctsD F v fs) (hn : n ≤ fs.length) (k : ∀ v', fctsD F v' (fs.take n) → K v' ⟨F, M, N⟩) : pv (slV 2 v none (some (.int .i64 (n : Nat))) none) K ⟨F, M, N⟩ := by
  obtain ⟨rows, h1, hr⟩ := hv
  obtain ⟨a, c, rfl, hlc⟩ := h1.form
  refine sl_r 0 n c (Nat.zero_le _) (by omega) (Nat.le_refl _) ?_
  have hrt := rows_take hr n
  refine k _ ⟨rows.take n, ⟨hrt.flen, ?_⟩, hrt⟩
  have hl : (fs.take n).length = n := by rw [List.length_take]; omega
  rw [hl, Nat.sub_zero, Nat.sub_zero]
  by_cases h0 : n = 0
  · exact .inl ⟨_, _, by rw [h0], h0⟩
  · rcases h1.2 with ⟨a', c', e1, e2⟩ | ⟨b, o, c', cs, e1, e2, e3, e4⟩
    · omega
    · injection e1 with e1 _ e1'
      subst e1; subst e1'
      rw [if_neg (by omega)]
      refine .inr ⟨b, o, c, cs, by simp [Addr.add_plain], by omega, e3, ?_⟩
      rw [← flatten_takeF rows n hr.len, ← e4, List.take_take, Nat.min_eq_left (Nat.mul_le_mul_right _ hn)]
theorem rest_one {t : Int} {fs : List Fc} (hp : ∀ f ∈ fs, inR 0 10000 f = true) (h0 : fs.length ≠ 0) : restH 0 10000 [(t, fs)] = [] := by
  have hf : fs.filter (outR 0 10000) = [] := List.filter_eq_nil_iff.2 fun f hf => by unfold outR; rw [hp f hf]; decide
  unfold restH restE
  simp only [List.filterMap_cons, List.filterMap_nil, hf]
  rw [if_neg (by simp; intro e; rw [e] at h0; exact h0 rfl)]
theorem fits_take {l : List Dm} {fs : List Fc} (h : fitsF l fs = true) (n : Nat) : fitsF l (fs.take n) = true := by
  obtain ⟨f1, f2⟩ := fitsF_of h
  exact of_fitsF (by rw [List.length_take]; omega) fun f hf => f2 f (List.mem_of_mem_take hf)
theorem repl_one {l : List Dm} {h : List En} {t : Int} {fs : List Fc} (hr : restH 0 10000 h = []) (ht : 0 < t) (hf : fitsF l fs = true) (hp : ∀ f ∈ fs, inR 0 10000 f = true) :
    replE l 0 10000 h [(t, fs)] = 0 ∧ replF l 0 10000 h [(t, fs)] = if fs.length = 0 then [] else [(t, fs)] := by
  have e1 : rightF l 0 10000 0 [(t, fs)] = true := rightF_of (List.pairwise_singleton _ _) fun e he => by
    rw [List.mem_singleton.1 he]; exact ⟨ht, hf, hp⟩
  have e2 : replH 0 10000 h [(t, fs)] = if fs.length = 0 then [] else [(t, fs)] := by
    unfold replH layAll
    rw [hr]
    simp only [List.foldl_cons, List.foldl_nil]
    unfold lay1
    by_cases h0 : fs.length = 0
    · rw [if_pos h0, if_neg (by simp only; omega)]
    · rw [if_neg h0, if_pos (by simp only; omega)]; rfl
  have h200 := (fitsF_of hf).1
  have e3 : replE l 0 10000 h [(t, fs)] = 0 := by
    unfold replE
    rw [e1, e2, if_neg (by decide), if_neg]
    rintro (q | q)
    · split at q <;> simp at q
    · split at q
      · cases q
      · simp [longH] at q; omega
  exact ⟨e3, by unfold replF; rw [if_pos e3, e2]⟩
set_option maxRecDepth 10000 in
set_option maxHeartbeats 16000000 in
theorem partTakes_c {um ui uk uv : Value} {m : List (Int × List Int)} {ids : List Int} {ks : List (List Int)} {c : List Int} (hE : E [] badH) (hm : cutsD F um m) (hml : m.length ≤ 140737488351232) (hmc : ∀ c ∈ m, (0 ≤ c.1 ∧ c.1 < 65536) ∧ ∀ x ∈ c.2, 0 ≤ x ∧ x < 256)
    (hi : sF F 1 ui ids.length (ick .u8 ids)) (hic : ∀ x ∈ ids, 0 ≤ x ∧ x < 256) (hk : kksD .u16 F uk ks) (hkl : ks.length ≤ 140737488351232) (hkc : ∀ k ∈ ks, ∀ x ∈ k, 0 ≤ x ∧ x < 65536) (hv : sF F 1 uv c.length (ic c)) (hcl : c.length ≤ 140737488351232) (k : ∀ h, K (.bool true) h) :
    call Tryz.prog 8 #[um, ui, uk, uv] K E ⟨F, M, N⟩ := by
  refine call_text mixed Tryz.func8 (by kernel_rfl) (t8 _ E _ _ _ _) (fun hw => ?_)
  have hm0 : clean M N := hw.m
  have kn : ∀ {M : Nat → Option Chunk} {F : Nat → Option (List Value)} {N : Nat}, callv Tryz.prog (.func (.func 11) #[] #[]) #[] (fun v h => h.wf → ∃ h', h.wk h' ∧ (h'.wf → K v h')) E ⟨F, M, N⟩ := known14_c hE (fun F' N' _ _ _ hc => ⟨_, wk_refl hc, fun _ => k _⟩)
  have hlk : lenV uk = some (.int .i64 (ks.length : Nat)) := by obtain ⟨rows, h1, _⟩ := hk; obtain ⟨a, c, e, _⟩ := h1.form; rw [e]; rfl
  have hli : lenV ui = some (.int .i64 (ids.length : Nat)) := by obtain ⟨a, c, e, _⟩ := hi.form; rw [e]; rfl
  refine pv_r hli ?_
  refine gtr_r (fun h1 => ?_) (fun h1 => ?_)
  · try simp only [sS]; exact kn
  try simp only [sS]
  refine pv_r hlk ?_
  refine gtr_r (fun h2 => ?_) (fun h2 => ?_)
  · try simp only [sS]; exact kn
  try simp only [sS]
  refine known14_c hE (fun F2 N2 hF2 hN2 hw2 => ?_)
  try simp only [sS]
  have hgd := dimsOf_good m (fun c hc => (hmc c hc).1)
  have hok := dimsOf_ok (m := m) (fun c hc => (hmc c hc).1)
  refine dof_c (hm.mono hF2) hml hmc (fun udv F3 N3 hw3 hF3 hN3 hd => ?_)
  generalize dimsOf m = l at *
  have hl4 := hgd.2.1
  have hds := goodDims_sz hgd
  refine pnew_c hd (by omega) (fun h => absurd h (by rw [hok]; decide)) (fun _ p g mb dv F4 M4 N4 hF4 P4 hM4 hN4 hm4 hw4 => ?_)
  refine ptr_ne ?_
  try simp only [sS]
  have F24 := hF3.trans hF4
  refine facts_c (hd.mono hF4) ((hk.mono hF2).mono F24) ((hv.mono hF2).mono F24) (by omega) hds hkc hkl hcl (fun fv F5 N5 hw5 hF5 hN5 hf => ?_)
  have hfit := facts_fit hgd ks c
  generalize factsOf l ks c = fs at *
  obtain ⟨f1, f2⟩ := fitsF_of hfit
  have hinr : ∀ f ∈ fs, inR 0 10000 f = true := fun f hf => inR_all hgd (f2 f hf)
  have hlf : lenV fv = some (.int .i64 (fs.length : Nat)) := by obtain ⟨a, c, e⟩ := hf.form; rw [e]; rfl
  have N34 : N3 ≤ N4 := hN4
  have hi5 : sF F5 1 ui ids.length (ick .u8 ids) := ((hi.mono hF2).mono F24).mono hF5
  refine l8_1_1_1_1_1_1_1_0_1_0_0 (σ := Int × Nat) (fun s => .int .u32 s.1) (fun s => .int .i64 (s.2 : Nat))
    (fun s h' => ∃ F' M' N' hv' rows' hh, h' = ⟨F', M', N'⟩ ∧ subF F5 F' ∧ N5 ≤ N' ∧ clean M' N' ∧ s.2 ≤ ids.length ∧ 0 ≤ s.1 ∧ isPart F' M' N3 p g mb hv' dv rows' l hh [] s.1 ∧ okH l 5000 200 hh ∧ restH 0 10000 hh = []) (fun s => ids.length - s.2) (0, 0) rfl rfl
    (fun hw6 => ⟨_, wk_refl hw6, F5, M4, N5, _, _, [], rfl, subF.refl _, Nat.le_refl _, hw5.m, Nat.zero_le _, by decide, P4.keep hF5 (fun _ _ => rfl), okH.nil _ _ _, rfl⟩) (fun kk s j h0 hI hw6 next => ?_)
  rw [t8_1_1_1_1_1_1_1_0_1_0_0]
  obtain ⟨F6, M6, N6, hv6, rows6, hh, rfl, hF6, hN6, hm6, hi6, ht0, P6, o6, r6⟩ := hI
  refine pv_r hli ?_
  refine lss_r (fun hlt => ?_) (fun hge => ?_)
  · have i1 : s.2 < ids.length := by omega
    have hx := hic _ (List.getElem_mem i1)
    try simp only [sS]
    refine ixk_r (hi5.mono hF6) i1 (fun p7 => ?_)
    generalize ids[s.2] = id at *
    refine u32_cv (by omega) (by omega) ?_
    refine pv_r hlf ?_
    refine pv_r mm_min ?_
    rw [show min ((s.2 : Nat) : Int) (fs.length : Nat) = ((min s.2 fs.length : Nat) : Int) by omega]
    have hnf : min s.2 fs.length ≤ fs.length := Nat.min_le_right _ _
    generalize min s.2 fs.length = n at *
    refine u32_add (by omega) (by omega) ?_
    refine pre_r (hf.mono hF6) hnf (fun v7 h7 => ?_)
    have hft := fits_take hfit n
    have hpt : ∀ f ∈ fs.take n, inR 0 10000 f = true := fun f hf => hinr f (List.mem_of_mem_take hf)
    have hlt7 : (fs.take n).length = n := by rw [List.length_take]; omega
    generalize hgs : fs.take n = gs at *
    obtain ⟨a7, c7, e7⟩ := h7.form
    refine pv_r (v := .agg #[.int .u32 (1 + id), v7]) (by rw [e7]; kernel_rfl) ?_
    refine nws_r (cs := [.int .u32 (1 + id), v7]) (by rw [e7]; kernel_rfl) (fun b8 hb8 => ?_)
    refine pv_r (v := .agg #[.int .u8 7, .int .u32 id, .int .u32 0, .slice none 0 0, .slice none 0 0, .int .u32 0, .slice none 0 0, .int .i64 0, .int .i64 10000, .slice (some ⟨b8, 0, none⟩) 1 1]) (by kernel_rfl) ?_
    refine callv_go (fun hc => ⟨_, frz_wf hm6 (fun q hq => upd_ne _ _ (by omega)) hc, ?_⟩)
    have hF8 := subF_frzAll (N := N6) hc
    have g8 := frz_at (F := F6) hb8 (upd_same M6 b8 (some (.cells 74 [.int .u32 (1 + id), v7] 2)))
    have hm8 : clean M6 (b8 + 1) := fun q hq => hm6 q (by omega)
    generalize frzAll F6 _ N6 = F8 at *
    have hen : entsD F8 (.slice (some ⟨b8, 0, none⟩) 1 1) [(1 + id, gs)] := ⟨[[.int .u32 (1 + id), v7]], sF_lit g8 rfl (by decide), (rowsF.nil _ _).snoc rfl (by rw [e7]; exact List.all_eq_true.1 rfl) ⟨v7, rfl, h7.mono hF8, by show gs.length ≤ _; omega⟩⟩
    have hr8 : recD F8 [.int .u8 7, .int .u32 id, .int .u32 0, .slice none 0 0, .slice none 0 0, .int .u32 0, .slice none 0 0, .int .i64 0, .int .i64 10000, .slice (some ⟨b8, 0, none⟩) 1 1] ⟨7, id, 0, [], [], 0, 10000, [(1 + id, gs)]⟩ :=
      ⟨_, _, _, _, _, rfl, sF.nil _ _ _, fctsD.nil, hen, rfl, rfl⟩
    refine papply_c (P6.keep (M' := M6) hF8 (fun _ _ => rfl)) (by omega) o6 (by omega) hr8 ⟨⟨hx.1, by show id < _; omega⟩, by simp, by simp, by simp, by simp, by simp; omega⟩ (by simp [getB, Bt.no]) (fun hv9 F9 M9 N9 rows9 hF9 P9 hM9 hN9 hm9 hw9 => ?_)
    obtain ⟨q1, q2⟩ := repl_one (l := l) (h := hh) (t := 1 + id) r6 (by omega) hft hpt
    have a1 : apE l hh [] s.1 ⟨7, id, 0, [], [], 0, 10000, [(1 + id, gs)]⟩ = if id ≤ s.1 then 140 else 0 := by
      unfold apE tkE; rw [if_neg (by simp), if_neg (by simp), if_neg (by simp), if_pos rfl]; simp only; rw [q1]
    have a2 : apH l hh [] s.1 ⟨7, id, 0, [], [], 0, 10000, [(1 + id, gs)]⟩ = if id ≤ s.1 then hh else if gs.length = 0 then [] else [(1 + id, gs)] := by
      unfold apH tkH; rw [if_neg (by simp), if_pos rfl]; simp only; rw [q2]
    have a3 : apS l hh [] ⟨7, id, 0, [], [], 0, 10000, [(1 + id, gs)]⟩ = [] := by unfold apS; rw [if_neg (by simp), if_neg (by simp), if_neg (by simp)]
    have a4 : apT l hh s.1 ⟨7, id, 0, [], [], 0, 10000, [(1 + id, gs)]⟩ = if id ≤ s.1 then s.1 else id := by
      unfold apT tkT tkE; rw [if_pos rfl]; simp only; rw [q1]
      by_cases hh : id ≤ s.1
      · rw [if_pos hh, if_pos hh, if_neg (by decide)]
      · rw [if_neg hh, if_neg hh, if_pos rfl]
    rw [a1]
    rw [a2, a3, a4] at P9
    by_cases hle : id ≤ s.1
    · rw [if_pos hle, if_pos hle] at P9
      rw [if_pos hle]
      refine eql_f (by decide) ?_
      refine gtr_f (by omega) ?_
      refine pv_r (v := .bool false) rfl ?_
      try simp only [sS]
      refine neq_t (by decide) ?_
      try simp only [sS]
      refine neq_f (by decide) ?_
      try simp only [sS]
      refine pv_r mm_max ?_
      rw [show max s.1 id = s.1 by omega]
      refine ptaken_c P9 (fun hw10 => ?_)
      refine neq_f rfl ?_
      try simp only [sS]
      refine ldM (v := .pointer (some ⟨g, 0, none⟩)) ?_ P9.pp
      refine centries_c (a := 0) (b := 10000) P9.cc o6 (by omega) (fun v10 F10 N10 hw11 hF10 hN10 he10 => ?_)
      refine eql_f (by decide) ?_
      try simp only [sS]
      refine inc_r (by omega) ?_
      exact next (s.1, s.2 + 1) _ _ (by simp only; omega) (fun hw12 => ⟨_, wk_refl hw12, F10, M9, N10, _, _, hh, rfl, hF6.trans (hF8.trans (hF9.trans hF10)), by omega, hw12.m, i1, ht0, P9.keep hF10 (fun _ _ => rfl), o6, r6⟩)
    · rw [if_neg hle, if_neg hle] at P9
      rw [if_neg hle]
      have hr9 : restH 0 10000 (if gs.length = 0 then [] else [(1 + id, gs)]) = [] := by
        by_cases hz : gs.length = 0
        · rw [if_pos hz]; rfl
        · rw [if_neg hz]; exact rest_one hpt hz
      have o9 : okH l 5000 200 (if gs.length = 0 then [] else [(1 + id, gs)]) := by
        have := o6.repl 0 10000 [(1 + id, gs)]
        rw [q2] at this; exact this
      refine eql_t rfl ?_
      refine gtr_t (by omega) ?_
      refine pv_r (v := .bool false) rfl ?_
      try simp only [sS]
      refine neq_f rfl ?_
      try simp only [sS]
      refine pv_r mm_max ?_
      rw [show max s.1 id = id by omega]
      refine ptaken_c P9 (fun hw10 => ?_)
      refine neq_f rfl ?_
      try simp only [sS]
      refine ldM (v := .pointer (some ⟨g, 0, none⟩)) ?_ P9.pp
      refine centries_c (a := 0) (b := 10000) P9.cc o9 (by omega) (fun v10 F10 N10 hw11 hF10 hN10 he10 => ?_)
      have hnx := fun j' => next (id, s.2 + 1) j' ⟨F10, M9, N10⟩ (by simp only; omega) (fun hw12 => ⟨_, wk_refl hw12, F10, M9, N10, _, _, _, rfl, hF6.trans (hF8.trans (hF9.trans hF10)), by omega, hw12.m, i1, hx.1, P9.keep hF10 (fun _ _ => rfl), o9, hr9⟩)
      clear P9 o9
      by_cases hz : gs.length = 0
      · rw [if_pos hz] at he10
        have hl10 : lenV v10 = some (.int .i64 0) := by obtain ⟨a, c, e⟩ := he10.form; rw [e]; rfl
        refine eql_t rfl ?_
        try simp only [sS]
        refine pv_r hl10 ?_
        refine pv_r mm_min ?_
        refine neq_f (by omega) ?_
        try simp only [sS]
        refine gtr_f (by omega) ?_
        try simp only [sS]
        refine inc_r (by omega) ?_
        exact hnx _
      · rw [if_neg hz, entOne hpt, if_neg hz] at he10
        have hl10 : lenV v10 = some (.int .i64 1) := by obtain ⟨a, c, e⟩ := he10.form; rw [e]; rfl
        obtain ⟨yrows, hy1, hy2⟩ := he10
        refine eql_t rfl ?_
        try simp only [sS]
        refine pv_r hl10 ?_
        refine pv_r mm_min ?_
        refine neq_f (by omega) ?_
        try simp only [sS]
        refine gtr_t (by omega) ?_
        try simp only [sS]
        refine fld_r (l := [(1 + id, gs)]) hy1 hy2 (by decide) (i := 0) (by simp) (off := 0) (by decide) fun p q r x hR _ hx => ?_
        obtain ⟨u, rfl, _, _⟩ := hR
        simp only [List.getElem?_cons_zero, Option.some.injEq] at hx
        subst hx
        try simp only [sS]
        refine u32_add (by omega) (by omega) ?_
        refine neq_f rfl ?_
        try simp only [sS]
        refine fld_r (l := [(1 + id, gs)]) hy1 hy2 (by decide) (i := 0) (by simp) (off := 1) (by decide) fun p q r x hR _ hx => ?_
        obtain ⟨u, rfl, hu, _⟩ := hR
        simp only [List.getElem?_cons_zero, List.getElem?_cons_succ, Option.some.injEq] at hx
        subst hx
        have hlu : lenV u = some (.int .i64 (gs.length : Nat)) := by obtain ⟨a, c, e⟩ := hu.form; rw [e]; rfl
        refine pv_r hlu ?_
        try simp only [sS]
        refine neq_f (by omega) ?_
        try simp only [sS]
        refine inc_r (by omega) ?_
        exact hnx _
  · try simp only [sS]
    exact fun hc => ⟨_, wk_refl hc, fun _ => k _⟩
end Go.Proofs.YtgcmbkoejjcjlaaGreatDoor.A
open Go Go.RowKit Go.Proofs.YtgcmbkoejjcjlaaGreatDoor.K Go.Proofs.YtgcmbkoejjcjlaaGreatDoor.T
set_option linter.unusedVariables false
set_option linter.unusedSimpArgs false
namespace Go.Proofs.YtgcmbkoejjcjlaaGreatDoor.A
variable {F F' : Nat → Option (List Value)} {M M' : Nat → Option Chunk} {N N' : Nat} {K : Kont} {E : PanK}
theorem fin_trueL {f : FuncId} {args : Array Value} {W : World} (h : call Tryz.prog f args (fun v _ => v = .bool true) (fun _ h => h = badH) (h0 W)) : Calls Tryz.prog f args W fun e w' => e = .returned (.bool true) ∧ Below W.heap.size W w' :=
  (calls0L (K := fun v => v = .bool true) h).mono fun e w' ⟨⟨v, he, hv⟩, hb⟩ => ⟨by rw [he, hv], hb⟩
end Go.Proofs.YtgcmbkoejjcjlaaGreatDoor.A
open Go Go.RowKit Go.Proofs.YtgcmbkoejjcjlaaGreatDoor.K Go.Proofs.YtgcmbkoejjcjlaaGreatDoor.T
set_option linter.unusedVariables false
set_option linter.unusedSimpArgs false
namespace Go.Proofs.YtgcmbkoejjcjlaaGreatDoor.A
variable {F F' : Nat → Option (List Value)} {M M' : Nat → Option Chunk} {N N' : Nat} {K : Kont} {E : PanK}
theorem PartTakes_true (v0 v1 v2 v3 : Value) {y0 : List (Int × List Int)} {y1 : List Int} {y2 : List (List Int)} {y3 : List Int} (W : World) (h0 : rS 2 rCut (F0 W) [v0] y0) (h1 : rS 1 (rI .u8) (F0 W) [v1] y1) (h2 : rS 1 (rS 1 (rI .u16)) (F0 W) [v2] y2) (h3 : rS 1 (rI .i64) (F0 W) [v3] y3) :
    Calls Tryz.prog 8 #[v0, v1, v2, v3] W fun e w' => e = .returned (.bool true) ∧ Below W.heap.size W w' :=
  have b := cuts_of h0
  have i := list_of h1
  have d := lists_of h2
  have c := list_of h3
  fin_trueL (partTakes_c rfl b.1 b.2.1 b.2.2 i.1 (fun x hx => wf_u8 (i.2.1 x hx)) d.1 d.2.1 (fun k hk x hx => wf_u16 (d.2.2 k hk x hx)) c.1 c.2.2 fun _ => rfl)
end Go.Proofs.YtgcmbkoejjcjlaaGreatDoor.A
