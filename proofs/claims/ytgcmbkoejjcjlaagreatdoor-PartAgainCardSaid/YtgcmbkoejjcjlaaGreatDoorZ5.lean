import Derived.Test.YtgcmbkoejjcjlaaGreatDoorZ4
import Derived.Test.YtgcmbkoejjcjlaaGreatDoorProg
import Derived.Test.YtgcmbkoejjcjlaaGreatDoorZ1
import Derived.Test.YtgcmbkoejjcjlaaGreatDoorZ3
set_option maxHeartbeats 4000000
open Go Go.RowKit Go.Proofs.YtgcmbkoejjcjlaaGreatDoor.K Go.Proofs.YtgcmbkoejjcjlaaGreatDoor.T
set_option linter.unusedVariables false
set_option linter.unusedSimpArgs false
namespace Go.Proofs.YtgcmbkoejjcjlaaGreatDoor.A
variable {F F' : Nat → Option (List Value)} {M M' : Nat → Option Chunk} {N N' : Nat} {K : Kont} {E : PanK}
theorem own_cell {B : Nat} {e : TypeId} {sz n : Nat} {v : Value} {cs : List Value} (h : own M B e sz v n cs) : ∀ q, v.ownBlock = some q → ∃ cs tot, M q = some (.cells e cs tot) := fun q hq => by
  rcases h.2 with ⟨rfl, _⟩ | ⟨b, c, rest, rfl, _, _, _, h4⟩
  · simp [Value.ownBlock] at hq
  · simp [Value.ownBlock] at hq
    subst hq
    exact ⟨_, _, h4⟩
structure isPart (F : Nat → Option (List Value)) (M : Nat → Option Chunk) (B p g mb : Nat) (hv dv : Value) (rows : List (List Value)) (l : List Dm) (h : List En) (bs : Bts) (tk : Int) : Prop where
  pp : M p = some (.cells 72 [.pointer (some ⟨g, 0, none⟩), .map (some mb), .int .u32 tk] 3)
  pB : B ≤ p
  mB : B ≤ mb
  mm : ∃ es, M mb = some (.obj (.map es bs.length)) ∧ mapD F es bs
  cc : isCube F M B g hv dv rows l h
section
variable {B p g mb : Nat} {hv dv : Value} {rows : List (List Value)} {l : List Dm} {h : List En} {bs : Bts} {tk : Int}
theorem isPart.keep (P : isPart F M B p g mb hv dv rows l h bs tk) (hF : subF F F') (hM : ∀ q, q = p ∨ q = mb ∨ q = g ∨ hv.ownBlock = some q → M' q = M q) : isPart F' M' B p g mb hv dv rows l h bs tk :=
  ⟨(hM p (.inl rfl)).trans P.pp, P.pB, P.mB, let ⟨es, h1, h2⟩ := P.mm; ⟨es, (hM mb (.inr (.inl rfl))).trans h1, h2.mono hF⟩, P.cc.keep hF (fun q hq => hM q (.inr (.inr hq)))⟩
theorem isPart.lt (P : isPart F M B p g mb hv dv rows l h bs tk) (hm : clean M N) : ∀ q, q = p ∨ q = mb ∨ q = g ∨ hv.ownBlock = some q → B ≤ q ∧ q < N := fun q hq => by
  rcases hq with rfl | rfl | hq
  · exact ⟨P.pB, hm.lt P.pp⟩
  · obtain ⟨es, h1, _⟩ := P.mm; exact ⟨P.mB, hm.lt h1⟩
  · exact P.cc.lt hm q hq
theorem isPart.up (P : isPart F M B p g mb hv dv rows l h bs tk) (hm : clean M N) (hF : subF F F') (hM : ∀ q, q < N → M' q = M q) : isPart F' M' B p g mb hv dv rows l h bs tk := P.keep hF (fun q hq => hM q (P.lt hm q hq).2)
theorem isPart.box (P : isPart F M B p g mb hv dv rows l h bs tk) (hm : clean M N) {b : Nat} (hb : N ≤ b) (x : Option Chunk) : isPart F (upd M b x) B p g mb hv dv rows l h bs tk := P.up hm (subF.refl _) (fun q hq => upd_ne _ _ (by omega))
theorem isPart.pg (P : isPart F M B p g mb hv dv rows l h bs tk) : p ≠ g ∧ p ≠ mb ∧ mb ≠ g ∧ hv.ownBlock ≠ some p ∧ hv.ownBlock ≠ some mb := by
  obtain ⟨es, h1, _⟩ := P.mm
  refine ⟨fun e => ?_, fun e => ?_, fun e => ?_, fun e => ?_, fun e => ?_⟩
  · have := P.pp; rw [e, P.cc.gg] at this; cases this
  · have := P.pp; rw [e, h1] at this; cases this
  · have := P.cc.gg; rw [← e, h1] at this; cases this
  · obtain ⟨c, t, h2⟩ := own_cell P.cc.oo p e; rw [P.pp] at h2; cases h2
  · obtain ⟨c, t, h2⟩ := own_cell P.cc.oo mb e; rw [h1] at h2; cases h2
theorem pnew_c {v : Value} (hv : dimsD F v l) (hl : l.length ≤ 140737488351232) (k1 : okDims l = false → ∀ N', N ≤ N' → (Hp.mk F M N').wf → K (.pointer none) ⟨F, M, N'⟩)
    (k2 : okDims l = true → ∀ p g mb dv F' M' N', subF F F' → isPart F' M' N p g mb (.slice none 0 0) dv [] l [] [] 0 → (∀ q, q < N → M' q = M q) → N ≤ N' → clean M' N' → (Hp.mk F' M' N').wf → K (.pointer (some ⟨p, 0, none⟩)) ⟨F', M', N'⟩) :
    callv Tryz.prog (.func (.func 13) #[] #[]) #[v] K E ⟨F, M, N⟩ := by
  refine callv_of_text mixed Tryz.func13 (by kernel_rfl) (t13 _ E _) (fun hw => ?_)
  refine new_c hv hl (fun h0 N1 hN1 hw1 => ?_) (fun h0 g dv F1 M1 N1 hF hC hM1 hN1 hm1 hw1 => ?_)
  · refine pv_r (v := .bool true) rfl ?_
    try simp only [sS]
    exact fun hc => ⟨_, wk_refl hc, fun hw' => k1 h0 _ hN1 hw'⟩
  · refine ptr_ne ?_
    try simp only [sS]
    refine mkm_r (fun mb hmb => ?_)
    refine pv_r (v := .agg #[.pointer (some ⟨g, 0, none⟩), .map (some mb), .int .u32 0]) (by kernel_rfl) ?_
    refine nw_r (cs := [.pointer (some ⟨g, 0, none⟩), .map (some mb), .int .u32 0]) (fun p hp => ?_)
    have hgN := hC.lt hm1
    refine fun hc => ⟨_, wk_refl hc, fun hw' => k2 h0 p g mb dv F1 _ _ hF ⟨upd_same _ _ _, by omega, by omega, ⟨#[], (upd_ne _ _ (by omega)).trans (upd_same _ _ _), mapD.nil⟩, hC.keep (subF.refl _) (fun q hq => ?_)⟩ (fun q hq => ?_) (by omega) ((hm1.new hmb _).new hp _) hw'⟩
    · have := (hgN q hq).2
      exact (upd_ne _ _ (by omega)).trans (upd_ne _ _ (by omega))
    · exact ((upd_ne _ _ (by omega)).trans (upd_ne _ _ (by omega))).trans (hM1 q hq)
theorem pstatus_c {id : Int} (P : isPart F M B p g mb hv dv rows l h bs tk) (k : ∀ N', N ≤ N' → (Hp.mk F M N').wf → K (.agg #[.int .u8 (getB bs id).st, .int .u32 (getB bs id).tm]) ⟨F, M, N'⟩) :
    callv Tryz.prog (.func (.func 16) #[] #[]) #[.pointer (some ⟨p, 0, none⟩), .int .u32 id] K E ⟨F, M, N⟩ := by
  refine callv_of_text mixed Tryz.func16 (by kernel_rfl) (t16 _ E _ _) (fun hw => ?_)
  have hm : clean M N := hw.m
  refine nw_r (fun b1 hb1 => ?_)
  have P1 := P.box hm hb1 (some (.cells 32 [.int .u8 0, .int .u32 0] 2))
  obtain ⟨es, h1, h2⟩ := P1.mm
  try simp only [sS]
  refine ldM (v := .map (some mb)) ?_ P1.pp
  refine lkB_r (id := id) h1 h2 (fun v hv => ?_)
  obtain ⟨nv, fv, rfl, _⟩ := hv
  refine pv_r (v := .agg #[.int .u8 (getB bs id).st, .int .u32 (getB bs id).tm]) (by kernel_rfl) ?_
  refine stM (cs' := [.int .u8 (getB bs id).st, .int .u32 (getB bs id).tm]) ?_ (upd_same _ _ _) rfl rfl (List.all_eq_true.1 rfl)
  rw [upd_upd]
  refine ldMa (vs := [.int .u8 (getB bs id).st, .int .u32 (getB bs id).tm]) ?_ (upd_same _ _ _)
  exact fun hc => ⟨⟨F, M, b1 + 1⟩, wk_drop hc (subM_drop (subM_refl _) (hm _ hb1)), fun hw' => k _ (by omega) hw'⟩
theorem popen_c {id : Int} (P : isPart F M B p g mb hv dv rows l h bs tk) (k : (Hp.mk F M N).wf → K (.bool (decide ((getB bs id).st = 1))) ⟨F, M, N⟩) :
    callv Tryz.prog (.func (.func 41) #[] #[]) #[.pointer (some ⟨p, 0, none⟩), .int .u32 id] K E ⟨F, M, N⟩ := by
  refine callv_of_text mixed Tryz.func41 (by kernel_rfl) (t41 _ E _ _) (fun hw => ?_)
  obtain ⟨es, h1, h2⟩ := P.mm
  try simp only [sS]
  refine ldM (v := .map (some mb)) ?_ P.pp
  refine lkB_r (id := id) h1 h2 (fun v hv => ?_)
  obtain ⟨nv, fv, rfl, _⟩ := hv
  refine pv_r (v := .agg #[.int .u8 (getB bs id).st, .int .u32 (getB bs id).tm]) (by kernel_rfl) ?_
  refine pv_r (v := .int .u8 (getB bs id).st) (by kernel_rfl) ?_
  refine eql_r (fun h0 => ?_) (fun h0 => ?_)
  · rw [decide_eq_true h0] at k
    exact fun hc => ⟨_, wk_refl hc, k⟩
  · rw [decide_eq_false h0] at k
    exact fun hc => ⟨_, wk_refl hc, k⟩
theorem ptaken_c (P : isPart F M B p g mb hv dv rows l h bs tk) (k : (Hp.mk F M N).wf → K (.int .u32 tk) ⟨F, M, N⟩) :
    callv Tryz.prog (.func (.func 23) #[] #[]) #[.pointer (some ⟨p, 0, none⟩)] K E ⟨F, M, N⟩ := by
  refine callv_of_text mixed Tryz.func23 (by kernel_rfl) (t23 _ E _) (fun hw => ?_)
  try simp only [sS]
  refine ldM (v := .int .u32 tk) ?_ P.pp
  exact fun hc => ⟨_, wk_refl hc, k⟩
structure RecA where
  kind : Int
  id : Int
  tm : Int
  ns : List Int
  fs : List Fc
  lo : Int
  hi : Int
  es : List En
def recD (F : Nat → Option (List Value)) (cs : List Value) (r : RecA) : Prop := ∃ nv fv ep sv ev, cs = [.int .u8 r.kind, .int .u32 r.id, .int .u32 r.tm, nv, fv, ep, sv, .int .i64 r.lo, .int .i64 r.hi, ev] ∧ sF F 1 nv r.ns.length (ic r.ns) ∧ fctsD F fv r.fs ∧ entsD F ev r.es ∧ ep.oneCell' = true ∧ sv.oneCell' = true
theorem recD.mono {cs : List Value} {r : RecA} (h : recD F cs r) (hF : subF F F') : recD F' cs r :=
  let ⟨nv, fv, ep, sv, ev, e, h1, h2, h3, h4⟩ := h; ⟨nv, fv, ep, sv, ev, e, h1.mono hF, h2.mono hF, h3.mono hF, h4⟩
theorem recD.one {cs : List Value} {r : RecA} (h : recD F cs r) : cs.length = 10 ∧ ∀ c ∈ cs, c.oneCell' = true := by
  obtain ⟨nv, fv, ep, sv, ev, rfl, h1, h2, h3, h4, h5⟩ := h
  obtain ⟨a1, c1, rfl, _⟩ := h1.form
  obtain ⟨a2, c2, rfl⟩ := h2.form
  obtain ⟨a3, c3, rfl⟩ := h3.form
  refine ⟨rfl, fun c hc => ?_⟩
  simp only [List.mem_cons, List.not_mem_nil, or_false] at hc
  rcases hc with rfl | rfl | rfl | rfl | rfl | rfl | rfl | rfl | rfl | rfl <;> first | rfl | assumption
def abE (bs : Bts) (r : RecA) : Nat := if (getB bs r.id).st > 1 then 140 else 0
def abS (bs : Bts) (r : RecA) : Bts := if (getB bs r.id).st > 1 then bs else setB bs r.id ⟨3, 0, [], []⟩
theorem pabort_c {cs : List Value} {r : RecA} (P : isPart F M B p g mb hv dv rows l h bs tk) (hr : recD F cs r) (h0 : 0 ≤ r.id) (h1 : r.id < 4294967296)
    (k : ∀ M' N', isPart F M' B p g mb hv dv rows l h (abS bs r) tk → (∀ q, q ≠ mb → q < N → M' q = M q) → N ≤ N' → clean M' N' → (Hp.mk F M' N').wf → K (.int .u16 ((abE bs r : Nat) : Int)) ⟨F, M', N'⟩) :
    callv Tryz.prog (.func (.func 33) #[] #[]) #[.pointer (some ⟨p, 0, none⟩), .agg cs.toArray] K E ⟨F, M, N⟩ := by
  refine callv_of_text mixed Tryz.func33 (by kernel_rfl) (t33 _ E _ _) (fun hw => ?_)
  have hm : clean M N := hw.m
  have hone := hr.one
  refine nw_r (cs := cs) (fun b1 hb1 => ?_) rfl
  obtain ⟨nv, fv, ep, sv, ev, e, hn, hf, he, _⟩ := hr
  have hb := upd_same M b1 (some (.cells 44 cs cs.length))
  have P1 := P.box hm hb1 (some (.cells 44 cs cs.length))
  have hm1 := hm.new hb1 (some (.cells 44 cs cs.length))
  have hM1 : ∀ q, q < N → upd M b1 (some (.cells 44 cs cs.length)) q = M q := fun q hq => upd_ne _ _ (by omega)
  subst e
  generalize upd M b1 _ = M1 at *
  obtain ⟨es, h2, h3⟩ := P1.mm
  have hpn := P1.pg
  have hmbN := (P.lt hm mb (.inr (.inl rfl))).2
  try simp only [sS]
  refine ldM (v := .map (some mb)) ?_ P1.pp
  refine ldM (v := .int .u32 r.id) ?_ hb
  refine lkB_r (id := r.id) h2 h3 (fun v hv => ?_)
  obtain ⟨nv', fv', rfl, _⟩ := hv
  refine pv_r (v := .agg #[.int .u8 (getB bs r.id).st, .int .u32 (getB bs r.id).tm]) (by kernel_rfl) ?_
  refine pv_r (v := .int .u8 (getB bs r.id).st) (by kernel_rfl) ?_
  refine gtr_r (fun hg => ?_) (fun hg => ?_)
  · try simp only [sS]
    refine fun hc => ⟨_, wk_refl hc, fun hw' => ?_⟩
    have := k M1 (b1 + 1) (by unfold abS; rw [if_pos hg]; exact P1) (fun q _ hq => hM1 q hq) (by omega) hm1 hw'
    unfold abE at this; rw [if_pos hg] at this; exact this
  · try simp only [sS]
    refine ldM (v := .map (some mb)) ?_ P1.pp
    refine ldM (v := .int .u32 r.id) ?_ hb
    refine pv_r (v := .agg #[.int .u8 3, .int .u32 0]) (by kernel_rfl) ?_
    refine pv_r (v := .agg #[.int .u8 3, .int .u32 0, .slice none 0 0, .slice none 0 0]) (by kernel_rfl) ?_
    refine muB_r (b := ⟨3, 0, [], []⟩) h2 h3 ⟨_, _, rfl, sF.nil _ _ _, fctsD.nil⟩ h0 h1 (fun es' hes' => ?_)
    refine fun hc => ⟨_, wk_refl hc, fun hw' => ?_⟩
    have := k _ (b1 + 1) (by unfold abS; rw [if_neg hg]; exact ⟨(upd_ne _ _ hpn.2.1).trans P1.pp, P.pB, P.mB, ⟨es', upd_same _ _ _, hes'⟩, P1.cc.keep (subF.refl _) (fun q hq => upd_ne _ _ (fun e => by subst e; rcases hq with hq | hq; exact hpn.2.2.1 hq; exact hpn.2.2.2.2 hq))⟩) (fun q hq hqN => (upd_ne _ _ hq).trans (hM1 q hqN)) (by omega) (hm1.set (by omega) _) hw'
    unfold abE at this; rw [if_neg hg] at this; exact this
end
end Go.Proofs.YtgcmbkoejjcjlaaGreatDoor.A
open Go Go.RowKit Go.Proofs.YtgcmbkoejjcjlaaGreatDoor.K Go.Proofs.YtgcmbkoejjcjlaaGreatDoor.T
set_option linter.unusedVariables false
set_option linter.unusedSimpArgs false
namespace Go.Proofs.YtgcmbkoejjcjlaaGreatDoor.A
variable {F F' : Nat → Option (List Value)} {M M' : Nat → Option Chunk} {N N' : Nat} {K : Kont} {E : PanK}
section
variable {B p g mb : Nat} {hv dv : Value} {rows : List (List Value)} {l : List Dm} {h : List En} {bs : Bts} {tk : Int}
def pfr (M M' : Nat → Option Chunk) (N p g mb : Nat) (hv hv' : Value) : Prop := ∀ q, hv.ownBlock ≠ some q → q ≠ g → q ≠ mb → q ≠ p → q < N → M' q = M q ∧ hv'.ownBlock ≠ some q
def cmE (l : List Dm) (h : List En) (bs : Bts) (r : RecA) : Nat := if (getB bs r.id).st = 1 then addE l h r.tm (getB bs r.id).fs else 140
def cmH (l : List Dm) (h : List En) (bs : Bts) (r : RecA) : List En := if (getB bs r.id).st = 1 then addH l h r.tm (getB bs r.id).fs else h
def cmS (l : List Dm) (h : List En) (bs : Bts) (r : RecA) : Bts := if cmE l h bs r = 0 then setB bs r.id ⟨2, r.tm, [], []⟩ else bs
set_option maxRecDepth 10000 in
theorem pcommit_c {cs : List Value} {r : RecA} (P : isPart F M B p g mb hv dv rows l h bs tk) (hB : B ≤ N) (hdl : l.length ≤ 1000) (hl : h.length ≤ 5000) (hr : recD F cs r) (h0 : 0 ≤ r.id) (h1 : r.id < 4294967296) (ht : 0 ≤ r.tm) (hfl : (getB bs r.id).fs.length ≤ 140737488351232)
    (k : ∀ hv' F' M' N' rows', subF F F' → isPart F' M' B p g mb hv' dv rows' l (cmH l h bs r) (cmS l h bs r) tk → pfr M M' N p g mb hv hv' → N ≤ N' → clean M' N' → (Hp.mk F' M' N').wf → K (.int .u16 ((cmE l h bs r : Nat) : Int)) ⟨F', M', N'⟩) :
    callv Tryz.prog (.func (.func 32) #[] #[]) #[.pointer (some ⟨p, 0, none⟩), .agg cs.toArray] K E ⟨F, M, N⟩ := by
  refine callv_of_text mixed Tryz.func32 (by kernel_rfl) (t32 _ E _ _) (fun hw => ?_)
  have hm : clean M N := hw.m
  have hone := hr.one
  refine nw_r (cs := cs) (fun b1 hb1 => ?_) rfl
  obtain ⟨nv, fv, ep, sv, ev, e, hn, hf, he, _⟩ := hr
  have hb := upd_same M b1 (some (.cells 44 cs cs.length))
  have P1 := P.box hm hb1 (some (.cells 44 cs cs.length))
  have hm1 := hm.new hb1 (some (.cells 44 cs cs.length))
  have hM1 : ∀ q, q < N → upd M b1 (some (.cells 44 cs cs.length)) q = M q := fun q hq => upd_ne _ _ (by omega)
  subst e
  generalize upd M b1 _ = M1 at *
  obtain ⟨es, h2, h3⟩ := P1.mm
  have hpn := P1.pg
  have hpl := P.lt hm
  have hvb : hv.ownBlock ≠ some b1 := fun e => by have := (hpl b1 (.inr (.inr (.inr e)))).2; omega
  have hbg : b1 ≠ g := fun e => by have := (hpl g (.inr (.inr (.inl rfl)))).2; omega
  try simp only [sS]
  refine ldM (v := .int .u32 r.id) ?_ hb
  refine popen_c P1 (fun hw1 => ?_)
  by_cases hs : (getB bs r.id).st = 1
  · have eE : cmE l h bs r = addE l h r.tm (getB bs r.id).fs := by unfold cmE; rw [if_pos hs]
    have eH : cmH l h bs r = addH l h r.tm (getB bs r.id).fs := by unfold cmH; rw [if_pos hs]
    rw [decide_eq_true hs]
    try simp only [sS]
    refine ldM (v := .pointer (some ⟨g, 0, none⟩)) ?_ P1.pp
    refine ldM (v := .int .u32 r.tm) ?_ hb
    try simp only [sS]
    refine ldM (v := .map (some mb)) ?_ P1.pp
    refine ldM (v := .int .u32 r.id) ?_ hb
    refine lkB_r (id := r.id) h2 h3 (fun v hv' => ?_)
    obtain ⟨nv', fv', rfl, _, hf'⟩ := hv'
    refine ⟨ldV_c (row_M hb) rfl, ldV_c (row_M P1.pp) rfl, ?_⟩
    refine pv_r (v := fv') (by kernel_rfl) ?_
    refine add_to_c P1.cc (by omega) hdl hl ht hf' hfl (fun hv2 F2 M2 N2 rows2 hF2 hC2 hM2 hN2 hm2 hw2 => ?_)
    have hMp := hM2 p hpn.2.2.2.1 hpn.1 (by have := (hpl p (.inl rfl)).2; omega)
    have hMm := hM2 mb hpn.2.2.2.2 hpn.2.2.1 (by have := (hpl mb (.inr (.inl rfl))).2; omega)
    have hMb := hM2 b1 hvb hbg (by omega)
    have hb2 := hMb.1.trans hb
    have P2 : isPart F2 M2 B p g mb hv2 dv rows2 l (addH l h r.tm (getB bs r.id).fs) bs tk := ⟨hMp.1.trans P1.pp, P.pB, P.mB, ⟨es, hMm.1.trans h2, h3.mono hF2⟩, hC2⟩
    refine neq_r (fun hne => ?_) (fun hne => ?_)
    · try simp only [sS]
      refine fun hc => ⟨_, wk_refl hc, fun hw' => ?_⟩
      rw [← eE]
      refine k hv2 F2 M2 N2 rows2 hF2 ?_ (fun q q1 q2 _ _ q3 => ?_) (by omega) hm2 hw'
      · rw [eH]; unfold cmS; rw [if_neg (by rw [eE]; omega)]; exact P2
      · obtain ⟨x1, x2⟩ := hM2 q q1 q2 (by omega)
        exact ⟨x1.trans (hM1 q q3), x2⟩
    · have e0 : addE l h r.tm (getB bs r.id).fs = 0 := by omega
      try simp only [sS]
      refine ldM (v := .map (some mb)) ?_ P2.pp
      refine ldM (v := .int .u32 r.id) ?_ hb2
      refine ldM (v := .int .u32 r.tm) ?_ hb2
      refine pv_r (v := .agg #[.int .u8 2, .int .u32 r.tm]) (by kernel_rfl) ?_
      refine pv_r (v := .agg #[.int .u8 2, .int .u32 r.tm, .slice none 0 0, .slice none 0 0]) (by kernel_rfl) ?_
      refine muB_r (b := ⟨2, r.tm, [], []⟩) (hMm.1.trans h2) (h3.mono hF2) ⟨_, _, rfl, sF.nil _ _ _, fctsD.nil⟩ h0 h1 (fun es' hes' => ?_)
      have hpn2 := P2.pg
      refine fun hc => ⟨_, wk_refl hc, fun hw' => ?_⟩
      have := k hv2 F2 _ N2 rows2 hF2 (by
        rw [eH]; unfold cmS; rw [if_pos (by rw [eE, e0])]
        exact ⟨(upd_ne _ _ hpn2.2.1).trans P2.pp, P.pB, P.mB, ⟨es', upd_same _ _ _, hes'⟩, hC2.keep (subF.refl _) (fun q hq => upd_ne _ _ (fun e => by subst e; rcases hq with hq | hq; exact hpn2.2.2.1 hq; exact hpn2.2.2.2.2 hq))⟩) (fun q q1 q2 q4 _ q3 => by
          obtain ⟨x1, x2⟩ := hM2 q q1 q2 (by omega)
          exact ⟨(upd_ne _ _ q4).trans (x1.trans (hM1 q q3)), x2⟩) (by omega) (hm2.set (hm2.lt (hMm.1.trans h2)) _) hw'
      rw [eE, e0] at this; exact this
  · rw [decide_eq_false hs]
    try simp only [sS]
    refine fun hc => ⟨_, wk_refl hc, fun hw' => ?_⟩
    have eE : cmE l h bs r = 140 := by unfold cmE; rw [if_neg hs]
    have := k hv F M1 (b1 + 1) rows (subF.refl _) (by unfold cmH cmS; rw [if_neg hs, if_neg (by rw [eE]; decide)]; exact P1) (fun q q1 _ _ _ q3 => ⟨hM1 q q3, q1⟩) (by omega) hm1 hw'
    rw [eE] at this; exact this
def tkE (l : List Dm) (h : List En) (tk : Int) (r : RecA) : Nat := if r.id ≤ tk then 140 else replE l r.lo r.hi h r.es
def tkH (l : List Dm) (h : List En) (tk : Int) (r : RecA) : List En := if r.id ≤ tk then h else replF l r.lo r.hi h r.es
def tkT (l : List Dm) (h : List En) (tk : Int) (r : RecA) : Int := if tkE l h tk r = 0 then r.id else tk
set_option maxRecDepth 10000 in
theorem ptake_c {cs : List Value} {r : RecA} (P : isPart F M B p g mb hv dv rows l h bs tk) (hB : B ≤ N) (o : okH l 5000 200 h) (hdl : l.length ≤ 1000) (hr : recD F cs r) (hel : r.es.length ≤ 140737488351232) (heT : ∀ e ∈ r.es, e.1 < 4294967296)
    (k : ∀ hv' F' M' N' rows', subF F F' → isPart F' M' B p g mb hv' dv rows' l (tkH l h tk r) bs (tkT l h tk r) → pfr M M' N p g mb hv hv' → N ≤ N' → clean M' N' → (Hp.mk F' M' N').wf → K (.int .u16 ((tkE l h tk r : Nat) : Int)) ⟨F', M', N'⟩) :
    callv Tryz.prog (.func (.func 34) #[] #[]) #[.pointer (some ⟨p, 0, none⟩), .agg cs.toArray] K E ⟨F, M, N⟩ := by
  refine callv_of_text mixed Tryz.func34 (by kernel_rfl) (t34 _ E _ _) (fun hw => ?_)
  have hm : clean M N := hw.m
  refine nw_r (cs := cs) (fun b1 hb1 => ?_) rfl
  obtain ⟨nv, fv, ep, sv, ev, e, hn, hf, he, _⟩ := hr
  have hb := upd_same M b1 (some (.cells 44 cs cs.length))
  have P1 := P.box hm hb1 (some (.cells 44 cs cs.length))
  have hm1 := hm.new hb1 (some (.cells 44 cs cs.length))
  have hM1 : ∀ q, q < N → upd M b1 (some (.cells 44 cs cs.length)) q = M q := fun q hq => upd_ne _ _ (by omega)
  subst e
  generalize upd M b1 _ = M1 at *
  obtain ⟨es, h2, h3⟩ := P1.mm
  have hpn := P1.pg
  have hpl := P.lt hm
  have hvb : hv.ownBlock ≠ some b1 := fun e => by have := (hpl b1 (.inr (.inr (.inr e)))).2; omega
  have hbg : b1 ≠ g := fun e => by have := (hpl g (.inr (.inr (.inl rfl)))).2; omega
  try simp only [sS]
  refine ldM (v := .int .u32 r.id) ?_ hb
  refine ldM (v := .int .u32 tk) ?_ P1.pp
  refine leq_r (fun hle => ?_) (fun hle => ?_)
  · have eE : tkE l h tk r = 140 := by unfold tkE; rw [if_pos hle]
    try simp only [sS]
    refine fun hc => ⟨_, wk_refl hc, fun hw' => ?_⟩
    have := k hv F M1 (b1 + 1) rows (subF.refl _) (by unfold tkH tkT; rw [if_pos hle, if_neg (by rw [eE]; decide)]; exact P1) (fun q q1 _ _ _ q3 => ⟨hM1 q q3, q1⟩) (by omega) hm1 hw'
    rw [eE] at this; exact this
  · have eE : tkE l h tk r = replE l r.lo r.hi h r.es := by unfold tkE; rw [if_neg hle]
    have eH : tkH l h tk r = replF l r.lo r.hi h r.es := by unfold tkH; rw [if_neg hle]
    try simp only [sS]
    refine ldM (v := .pointer (some ⟨g, 0, none⟩)) ?_ P1.pp
    refine ldM (v := .int .i64 r.lo) ?_ hb
    refine ldM (v := .int .i64 r.hi) ?_ hb
    refine ldM (v := ev) ?_ hb
    refine creplace_c P1.cc (by omega) o hdl he hel heT (fun hv2 F2 M2 N2 rows2 hF2 hC2 hM2 hN2 hm2 hw2 => ?_)
    have hMp := hM2 p hpn.2.2.2.1 hpn.1 (by have := (hpl p (.inl rfl)).2; omega)
    have hMm := hM2 mb hpn.2.2.2.2 hpn.2.2.1 (by have := (hpl mb (.inr (.inl rfl))).2; omega)
    have hMb := hM2 b1 hvb hbg (by omega)
    have hb2 := hMb.1.trans hb
    have P2 : isPart F2 M2 B p g mb hv2 dv rows2 l (replF l r.lo r.hi h r.es) bs tk := ⟨hMp.1.trans P1.pp, P.pB, P.mB, ⟨es, hMm.1.trans h2, h3.mono hF2⟩, hC2⟩
    refine eql_r (fun heq => ?_) (fun heq => ?_)
    · have e0 : tkE l h tk r = 0 := by rw [eE]; omega
      try simp only [sS]
      refine ldM (v := .int .u32 r.id) ?_ hb2
      refine stM (cs' := [.pointer (some ⟨g, 0, none⟩), .map (some mb), .int .u32 r.id]) ?_ P2.pp rfl rfl (List.all_eq_true.1 rfl)
      rw [t34_1_1_1_1]
      have hpn2 := P2.pg
      refine fun hc => ⟨_, wk_refl hc, fun hw' => ?_⟩
      rw [← eE]
      refine k hv2 F2 _ N2 rows2 hF2 ?_ (fun q q1 q2 _ q5 q3 => ?_) (by omega) (hm2.set (hm2.lt P2.pp) _) hw'
      · rw [eH]; unfold tkT; rw [if_pos e0]
        exact ⟨upd_same _ _ _, P.pB, P.mB, ⟨es, (upd_ne _ _ (fun e => hpn.2.1 e.symm)).trans (hMm.1.trans h2), h3.mono hF2⟩, hC2.keep (subF.refl _) (fun q hq => upd_ne _ _ (fun e => by subst e; rcases hq with hq | hq; exact hpn2.1 hq; exact hpn2.2.2.2.1 hq))⟩
      · obtain ⟨x1, x2⟩ := hM2 q q1 q2 (by omega)
        exact ⟨(upd_ne _ _ q5).trans (x1.trans (hM1 q q3)), x2⟩
    · have e0 : tkE l h tk r ≠ 0 := by rw [eE]; omega
      try simp only [sS]
      rw [t34_1_1_1_1]
      refine fun hc => ⟨_, wk_refl hc, fun hw' => ?_⟩
      rw [← eE]
      refine k hv2 F2 M2 N2 rows2 hF2 ?_ (fun q q1 q2 _ _ q3 => ?_) (by omega) hm2 hw'
      · rw [eH]; unfold tkT; rw [if_neg e0]; exact P2
      · obtain ⟨x1, x2⟩ := hM2 q q1 q2 (by omega)
        exact ⟨x1.trans (hM1 q q3), x2⟩
end
end Go.Proofs.YtgcmbkoejjcjlaaGreatDoor.A
open Go Go.RowKit Go.Proofs.YtgcmbkoejjcjlaaGreatDoor.K Go.Proofs.YtgcmbkoejjcjlaaGreatDoor.T
set_option linter.unusedVariables false
set_option linter.unusedSimpArgs false
namespace Go.Proofs.YtgcmbkoejjcjlaaGreatDoor.A
variable {F F' : Nat → Option (List Value)} {M M' : Nat → Option Chunk} {N N' : Nat} {K : Kont} {E : PanK}
theorem clone_b {v : Value} {l : List Int} (hm0 : ∀ q, N ≤ q → M q = none) (hv : sR F M 1 v l.length (ic l)) (hl : l.length ≤ 17592186043904)
    (k : ∀ v' F' N', (Hp.mk F' M N').wf → subF F F' → N ≤ N' → sF F' 1 v' l.length (ic l) → K v' ⟨F', M, N'⟩) : callv Tryz.prog (.func (.func 65) #[] #[]) #[v] K E ⟨F, M, N⟩ := by
  refine callv_of_text mixed Tryz.func65 (by kernel_rfl) (t65 _ E _) (fun hw => ?_)
  obtain ⟨a, c, rfl, hc⟩ := hv.form
  cases a with
  | none =>
    have h0 : l.length = 0 := by rcases hv.2 with ⟨a', c', h1, h2⟩ | ⟨b, o, c', cs, h1, _⟩; exact h2; simp at h1
    have hl0 : l = [] := List.eq_nil_of_length_eq_zero h0
    refine pv_r rfl (cnd_t fun hc => ⟨_, wk_refl hc, fun hw' => k _ F N hw' (subF.refl _) (Nat.le_refl _) ?_⟩)
    rw [hl0]; exact sF.nil _ _ _
  | some ad =>
    refine pv_r rfl (cnd_f ?_)
    refine nws_r (cs := []) (by kernel_rfl) (fun b0 hb0 => ?_)
    refine app_r0 (n := 0) (cs := []) (m := l.length) (news := ic l) (ownS_new (upd_same _ _ _) rfl) (hv.new hw.m hb0).read (ints_one _) (by omega) (by simp [maxLen]; omega) (fun h => by cases h) (fun _ b c' hb hmc hcm hc => ?_)
    have hb' : N ≤ b := by rcases hb with h | h; omega; simp [Value.ownBlock] at h; omega
    rw [Nat.zero_add] at hmc
    refine ⟨⟨upd F b (some (ic l)), M, max (b0 + 1) (b + 1)⟩, wk_frz (M0 := M) hc ?_ (hm0 b hb') (upd_same _ _ _), fun hw' => k _ _ _ hw' (subF.upd (hw.f b hb')) (by omega) ?_⟩
    · intro q c hq
      have hqN : q < N := by
        rcases Nat.lt_or_ge q N with h | h
        · exact h
        · rw [hm0 q h] at hq; cases hq
      exact (upd_ne _ _ (by omega)).trans ((forget_ne _ (by simp [Value.ownBlock]; omega)).trans ((upd_ne _ _ (by omega)).trans hq))
    · rw [Nat.zero_add]
      exact sF_fresh (by simp [ic]) hmc
section
variable {B p g mb : Nat} {hv dv : Value} {rows : List (List Value)} {l : List Dm} {h : List En} {bs : Bts} {tk : Int}
def ppE (l : List Dm) (bs : Bts) (r : RecA) : Nat := if (getB bs r.id).st ≠ 0 then 140 else if fitsF l r.fs = false then 1 else 0
def ppS (l : List Dm) (bs : Bts) (r : RecA) : Bts := if ppE l bs r = 0 then setB bs r.id ⟨1, 0, r.ns, r.fs⟩ else bs
set_option maxRecDepth 10000 in
set_option maxHeartbeats 4000000 in
theorem pprep_c {cs : List Value} {r : RecA} (P : isPart F M B p g mb hv dv rows l h bs tk) (hdl : l.length ≤ 1000) (hr : recD F cs r) (h0 : 0 ≤ r.id) (h1 : r.id < 4294967296) (hnl : r.ns.length ≤ 17592186043904) (hfl : r.fs.length ≤ 140737488351232)
    (k : ∀ F' M' N', subF F F' → isPart F' M' B p g mb hv dv rows l h (ppS l bs r) tk → (∀ q, q ≠ mb → q < N → M' q = M q) → N ≤ N' → clean M' N' → (Hp.mk F' M' N').wf → K (.int .u16 ((ppE l bs r : Nat) : Int)) ⟨F', M', N'⟩) :
    callv Tryz.prog (.func (.func 31) #[] #[]) #[.pointer (some ⟨p, 0, none⟩), .agg cs.toArray] K E ⟨F, M, N⟩ := by
  refine callv_of_text mixed Tryz.func31 (by kernel_rfl) (t31 _ E _ _) (fun hw => ?_)
  have hm : clean M N := hw.m
  refine nw_r (cs := cs) (fun b1 hb1 => ?_) rfl
  obtain ⟨nv, fv, ep, sv, ev, e, hn, hf, he, _⟩ := hr
  have hb := upd_same M b1 (some (.cells 44 cs cs.length))
  have P1 := P.box hm hb1 (some (.cells 44 cs cs.length))
  have hm1 := hm.new hb1 (some (.cells 44 cs cs.length))
  have hM1 : ∀ q, q < N → upd M b1 (some (.cells 44 cs cs.length)) q = M q := fun q hq => upd_ne _ _ (by omega)
  subst e
  generalize upd M b1 _ = M1 at *
  obtain ⟨es, h2, h3⟩ := P1.mm
  have hpl := P.lt hm
  try simp only [sS]
  refine ldM (v := .map (some mb)) ?_ P1.pp
  refine ldM (v := .int .u32 r.id) ?_ hb
  refine lkB_r (id := r.id) h2 h3 (fun v hv => ?_)
  obtain ⟨nv', fv', rfl, _⟩ := hv
  refine pv_r (v := .agg #[.int .u8 (getB bs r.id).st, .int .u32 (getB bs r.id).tm]) (by kernel_rfl) ?_
  refine pv_r (v := .int .u8 (getB bs r.id).st) (by kernel_rfl) ?_
  refine neq_r (fun hg => ?_) (fun hg => ?_)
  · have eE : ppE l bs r = 140 := by unfold ppE; rw [if_pos hg]
    try simp only [sS]
    refine fun hc => ⟨_, wk_refl hc, fun hw' => ?_⟩
    have := k F M1 (b1 + 1) (subF.refl _) (by unfold ppS; rw [if_neg (by rw [eE]; decide)]; exact P1) (fun q _ hq => hM1 q hq) (by omega) hm1 hw'
    rw [eE] at this; exact this
  try simp only [sS]
  refine ldM (v := .pointer (some ⟨g, 0, none⟩)) ?_ P1.pp
  refine ldM (v := fv) ?_ hb
  refine fits_c P1.cc.gg P1.cc.dd (by omega) hf hfl (fun N2 hN2 hw2 => ?_)
  cases hfit : fitsF l r.fs
  · have eE : ppE l bs r = 1 := by unfold ppE; rw [if_neg hg, if_pos hfit]
    try simp only [sS]
    refine fun hc => ⟨_, wk_refl hc, fun hw' => ?_⟩
    have := k F M1 N2 (subF.refl _) (by unfold ppS; rw [if_neg (by rw [eE]; decide)]; exact P1) (fun q _ hq => hM1 q hq) (by omega) hw'.m hw'
    rw [eE] at this; exact this
  have eE : ppE l bs r = 0 := by unfold ppE; rw [if_neg hg, if_neg (by rw [hfit]; decide)]
  obtain ⟨f1, f2⟩ := fitsF_of hfit
  try simp only [sS]
  refine pv_r (v := .agg #[.int .u8 1, .int .u32 0]) (by kernel_rfl) ?_
  refine ldM (v := nv) ?_ hb
  refine clone_b hw2.m hn.sR (by omega) (fun nv2 F3 N3 hw3 hF3 hN3 hn2 => ?_)
  obtain ⟨a3, c3, e3, _⟩ := hn2.form
  refine pv_r (v := .agg #[.int .u8 1, .int .u32 0, nv2, .slice none 0 0]) (by rw [e3]; kernel_rfl) ?_
  refine nw_r (fun b3 hb3 => ?_)
  refine stM (cs' := [.int .u8 1, .int .u32 0, nv2, .slice none 0 0]) ?_ (upd_same _ _ _) rfl rfl (by rw [e3]; exact List.all_eq_true.1 rfl)
  rw [upd_upd]
  obtain ⟨M3, hM3⟩ : ∃ M3, M3 = upd M1 b3 (some (.cells 95 [.int .u8 1, .int .u32 0, nv2, .slice none 0 0] [Value.int .u8 0, Value.int .u32 0, Value.slice none 0 0, Value.slice none 0 0].length)) := ⟨_, rfl⟩
  rw [← hM3]
  have hbx : M3 b3 = some (.cells 95 [.int .u8 1, .int .u32 0, nv2, .slice none 0 0] 4) := by rw [hM3]; exact upd_same _ _ _
  have hM31 : ∀ q, q < b3 → M3 q = M1 q := fun q hq => by rw [hM3]; exact upd_ne _ _ (by omega)
  have hm3 : clean M3 (b3 + 1) := by rw [hM3]; exact (show clean M1 N3 from hw3.m).new hb3 _
  clear hM3
  have hb13 : b1 < b3 := by omega
  refine ldM (v := fv) ?_ ((hM31 b1 hb13).trans hb)
  have hf3 := hf.mono hF3
  have hlf : lenV fv = some (.int .i64 (r.fs.length : Nat)) := by obtain ⟨a, c, e⟩ := hf3.form; rw [e]; rfl
  refine pv_r hlf ?_
  obtain ⟨frows, hf4, hf5⟩ := hf3
  refine l31_1_1_1_0_1_0_0 (σ := Nat) (fun i => .int .i64 (i : Nat))
    (fun i h' => ∃ F' M' N' fv', h' = ⟨F', M', N'⟩ ∧ subF F3 F' ∧ b3 + 1 ≤ N' ∧ (∀ q, q < b3 → M' q = M3 q) ∧ clean M' N' ∧ i ≤ r.fs.length ∧ M' b3 = some (.cells 95 [.int .u8 1, .int .u32 0, nv2, fv'] 4) ∧
      ((i < r.fs.length ∧ ∃ rows', own M' (b3 + 1) 90 2 fv' i rows'.flatten ∧ rowsF (fctD F') 2 rows' (r.fs.take i)) ∨ (i = r.fs.length ∧ fctsD F' fv' r.fs))) (fun i => r.fs.length - i) 0 rfl
    (fun hw4 => ⟨_, wk_refl hw4, F3, M3, b3 + 1, .slice none 0 0, rfl, subF.refl _, Nat.le_refl _, fun _ _ => rfl, hm3, Nat.zero_le _, hbx, by
      by_cases hz : 0 < r.fs.length
      · exact .inl ⟨hz, [], own.nil, rowsF.nil _ _⟩
      · have e0 : r.fs = [] := List.eq_nil_of_length_eq_zero (by omega)
        refine .inr ⟨by omega, ?_⟩
        rw [e0]; exact fctsD.nil⟩) (fun kk i j h' hI hw4 next => ?_)
  rw [t31_1_1_1_0_1_0_0]
  obtain ⟨F4, M4, N4, fv', rfl, hF4, hN4, hM4, hm4, hi, hbx4, hst⟩ := hI
  refine lss_r (fun hlt => ?_) (fun hge => ?_)
  · have i1 : i < r.fs.length := by omega
    rcases hst with ⟨_, rows', ho, hrr⟩ | ⟨hz, _⟩
    rotate_left
    · omega
    try simp only [sS]
    refine row_r (hf4.mono hF4) (hf5.mono fun _ _ h => h.mono hF4) (by decide) i1 (fun q rw _ hR hrl hr1 => ?_)
    obtain ⟨kv, hre, hkv, hkl⟩ := hR
    subst hre
    refine nw_r (fun b4 hb4 => ?_)
    refine stM (cs' := [kv, .int .i64 r.fs[i].2]) ?_ (upd_same _ _ _) rfl rfl hr1
    rw [upd_upd]
    obtain ⟨M5, hM5⟩ : ∃ M5, M5 = upd M4 b4 (some (.cells 90 [kv, .int .i64 r.fs[i].2] [Value.slice none 0 0, Value.int .i64 0].length)) := ⟨_, rfl⟩
    rw [← hM5]
    have hb5 : M5 b4 = some (.cells 90 [kv, .int .i64 r.fs[i].2] 2) := by rw [hM5]; exact upd_same _ _ _
    have hM54 : ∀ q, q < N4 → M5 q = M4 q := fun q hq => by rw [hM5]; exact upd_ne _ _ (by omega)
    have hm5 : clean M5 (b4 + 1) := by rw [hM5]; exact hm4.new hb4 _
    have ho5 : own M5 (b3 + 1) 90 2 fv' i rows'.flatten := ho.keep (fun q hq => hM54 q (ho.lt hm4 q hq)) (Nat.le_refl _)
    have hbx5 := (hM54 b3 (by omega)).trans hbx4
    clear hM5
    try simp only [sS]
    refine ldM (v := fv') ?_ hbx5
    try simp only [sS]
    refine ldM (v := kv) ?_ hb5
    try simp only [sS]
    refine ldM (v := .int .i64 r.fs[i].2) ?_ hb5
    have hki := inF_len (f2 r.fs[i] (List.getElem_mem i1))
    refine clone_f hm5 hkv.sR (by omega) (fun kv' F6 N6 hw6 hF6 hN6 hkv' => ?_)
    refine ⟨ldV_c (row_M hb5) rfl, ldV_c (row_M hbx5) rfl, ?_⟩
    have h1f : fctD F6 [kv', .int .i64 r.fs[i].2] r.fs[i] := ⟨kv', rfl, hkv', hkl⟩
    obtain ⟨ak, ck, hkf, hck⟩ := hkv'.form
    refine pv_r (v := .agg #[kv', .int .i64 r.fs[i].2]) (by rw [hkf]; kernel_rfl) ?_
    refine nws_r (cs := [kv', .int .i64 r.fs[i].2]) (by rw [hkf]; kernel_rfl) (fun b6 hb6 => ?_)
    have hm6 : clean M5 N6 := hw6.m
    refine ⟨ldV_c (row_M ((upd_ne _ _ (by omega)).trans hbx5)) rfl, ?_⟩
    have ho6 := ho5.box hm6 hb6 (some (.cells 90 [kv', .int .i64 r.fs[i].2] [kv', Value.int .i64 r.fs[i].2].length))
    refine ho6.app (m := 1) (news := [kv', .int .i64 r.fs[i].2]) (hm6.new hb6 _) (by omega) ⟨rfl, .inr ⟨b6, 0, 1, _, rfl, Nat.le_refl _, .inr ⟨_, _, upd_same _ _ _⟩, rfl⟩⟩ h1f.one.2 (by omega) (by unfold maxLen; omega) (fun v7 M7 N7 g1 g2 g3 g4 => ?_)
    have hvb3 : fv'.ownBlock ≠ some b3 := fun e => by have := (ho.ge b3 e).1; omega
    have hb37 := g2 b3 hvb3 (by omega)
    have hbx7 : M7 b3 = some (.cells 95 [.int .u8 1, .int .u32 0, nv2, fv'] 4) := hb37.1.trans ((upd_ne _ _ (by omega)).trans hbx5)
    obtain ⟨a7, c7, e7, _⟩ := g1.form
    try simp only [sS]
    refine stM (cs' := [.int .u8 1, .int .u32 0, nv2, v7]) ?_ hbx7 (by rw [e7]; rfl) (by rw [e7]; rfl) (by rw [e7]; exact List.all_eq_true.1 rfl)
    refine inc_r (by omega) ?_
    have hfl7 : (rows'.flatten ++ [kv', .int .i64 r.fs[i].2]) = (rows' ++ [[kv', .int .i64 r.fs[i].2]]).flatten := by simp
    have ho8 : own (upd M7 b3 (some (.cells 95 [.int .u8 1, .int .u32 0, nv2, v7] 4))) (b3 + 1) 90 2 v7 (i + 1) (rows' ++ [[kv', .int .i64 r.fs[i].2]]).flatten := by
      rw [← hfl7]; exact g1.keep (fun q hq => upd_ne _ _ (fun e => by have := (g1.ge q hq).1; omega)) (Nat.le_refl _)
    have hrr8 : rowsF (fctD F6) 2 (rows' ++ [[kv', .int .i64 r.fs[i].2]]) (r.fs.take (i + 1)) := by
      rw [List.take_add_one, List.getElem?_eq_getElem i1, Option.toList_some]
      exact rowsF_snoc1 (hrr.mono fun _ _ h => h.mono hF6) h1f.one h1f
    have hM8 : ∀ q, q < b3 → upd M7 b3 (some (.cells 95 [.int .u8 1, .int .u32 0, nv2, v7] 4)) q = M3 q := fun q hq => by
      have hq2 : fv'.ownBlock ≠ some q := fun e => by have := (ho.ge q e).1; omega
      exact (upd_ne _ _ (by omega)).trans ((g2 q hq2 (by omega)).1.trans ((upd_ne _ _ (by omega)).trans ((hM54 q (by omega)).trans (hM4 q hq))))
    have hm8 := g4.set (g4.lt hbx7) (some (.cells 95 [.int .u8 1, .int .u32 0, nv2, v7] 4))
    have hbx8 := upd_same M7 b3 (some (.cells 95 [.int .u8 1, .int .u32 0, nv2, v7] 4))
    generalize upd M7 b3 _ = M8 at *
    by_cases hlast : i + 1 < r.fs.length
    · exact next (i + 1) _ _ (by omega) (fun hw8 => ⟨_, wk_refl hw8, F6, M8, N7, v7, rfl, hF4.trans hF6, by omega, hM8, hm8, by omega, hbx8, .inl ⟨hlast, _, ho8, hrr8⟩⟩)
    · refine next (i + 1) _ _ (by omega) (fun hw8 => ⟨⟨frzP F6 M8 (fun q => v7.ownBlock = some q), keepM M8 (fun q => ¬ v7.ownBlock = some q), N7⟩, wk_P hw8, _, _, N7, v7, rfl, (hF4.trans hF6).trans (subF_frzP hw8), by omega, fun q hq => ?_, keepM_clean hm8, by omega, ?_, .inr ⟨by omega, ?_⟩⟩)
      · exact (keepM_in (fun e => by have := (ho8.ge q e).1; omega)).trans (hM8 q hq)
      · exact (keepM_in (fun e => by have := (ho8.ge b3 e).1; omega)).trans hbx8
      · have e9 : r.fs.take (i + 1) = r.fs := List.take_of_length_le (by omega)
        rw [e9] at hrr8
        refine fcts_frz (M := M8) (N := b3 + 1) (N' := N7) ?_ hrr8 hw8 (fun q hq => hq)
        rw [show r.fs.length = i + 1 by omega]; exact ho8
  · rcases hst with ⟨hz, _⟩ | ⟨_, hfv'⟩
    · omega
    have P4 : isPart F4 M4 B p g mb hv dv rows l h bs tk := P1.keep (hF3.trans hF4) (fun q hq => (hM4 q (by have := (hpl q hq).2; omega)).trans (hM31 q (by have := (hpl q hq).2; omega)))
    have hb4 := ((hM4 b1 hb13).trans (hM31 b1 hb13)).trans hb
    obtain ⟨es4, h24, h34⟩ := P4.mm
    have hpn := P4.pg
    try simp only [sS]
    refine ldM (v := .map (some mb)) ?_ P4.pp
    refine ldM (v := .int .u32 r.id) ?_ hb4
    refine ldMa (vs := [.int .u8 1, .int .u32 0, nv2, fv']) ?_ hbx4
    refine muB_r (b := ⟨1, 0, r.ns, r.fs⟩) h24 h34 ⟨nv2, fv', rfl, hn2.mono hF4, hfv'⟩ h0 h1 (fun es' hes' => ?_)
    refine fun hc => ⟨_, wk_refl hc, fun hw' => ?_⟩
    have := k F4 _ N4 (hF3.trans hF4) (by
      unfold ppS; rw [if_pos eE]
      exact ⟨(upd_ne _ _ hpn.2.1).trans P4.pp, P.pB, P.mB, ⟨es', upd_same _ _ _, hes'⟩, P4.cc.keep (subF.refl _) (fun q hq => upd_ne _ _ (fun e => by subst e; rcases hq with hq | hq; exact hpn.2.2.1 hq; exact hpn.2.2.2.2 hq))⟩) (fun q hq hqN => (upd_ne _ _ hq).trans (((hM4 q (by omega)).trans (hM31 q (by omega))).trans (hM1 q hqN))) (by omega) (hm4.set (hm4.lt h24) _) hw'
    rw [eE] at this; exact this
end
end Go.Proofs.YtgcmbkoejjcjlaaGreatDoor.A
open Go Go.RowKit Go.Proofs.YtgcmbkoejjcjlaaGreatDoor.K Go.Proofs.YtgcmbkoejjcjlaaGreatDoor.T
set_option linter.unusedVariables false
set_option linter.unusedSimpArgs false
namespace Go.Proofs.YtgcmbkoejjcjlaaGreatDoor.A
variable {F F' : Nat → Option (List Value)} {M M' : Nat → Option Chunk} {N N' : Nat} {K : Kont} {E : PanK}
section
theorem uidx_c {B : Nat} {v d : Value} {l : List Int} {p : Int → Bool} (hv : own M B 30 1 v l.length (ick .u32 l)) (hl : l.length ≤ 1000000000)
    (hd : ∀ {K : Kont} (N1 : Nat) (x : Int), N ≤ N1 → (∀ N', N1 ≤ N' → (Hp.mk F M N').wf → K (.bool (!p x)) ⟨F, M, N'⟩) → callv Tryz.prog d #[.int .u32 x] K E ⟨F, M, N1⟩)
    (k1 : ∀ i (hi : i < l.length), (∀ x ∈ l.take i, p x = true) → p l[i] = false → ∀ N', N ≤ N' → (Hp.mk F M N').wf → K (.int .i64 (i : Nat)) ⟨F, M, N'⟩)
    (k2 : (∀ x ∈ l, p x = true) → ∀ N', N ≤ N' → (Hp.mk F M N').wf → K (.int .i64 (-1)) ⟨F, M, N'⟩) :
    callv Tryz.prog (.func (.func 68) #[] #[]) #[v, d] K E ⟨F, M, N⟩ := by
  refine callv_of_text mixed Tryz.func68 (by kernel_rfl) (t68 _ E _ _) (fun hw => ?_)
  have hlv : lenV v = some (.int .i64 (l.length : Nat)) := by obtain ⟨a, c, e, _⟩ := hv.form; rw [e]; rfl
  refine pv_r hlv ?_
  refine l68_1_0_1_0_0 (σ := Nat) (fun i => .int .i64 (i : Nat)) (fun i h => ∃ N', h = ⟨F, M, N'⟩ ∧ N ≤ N' ∧ i ≤ l.length ∧ ∀ x ∈ l.take i, p x = true) (fun i => l.length - i) 0 rfl
    (fun hw1 => ⟨_, wk_refl hw1, N, rfl, Nat.le_refl _, Nat.zero_le _, by simp⟩) (fun kk i j h1 hI hw1 next => ?_)
  rw [t68_1_0_1_0_0]
  obtain ⟨N1, rfl, hN1, hi, he⟩ := hI
  refine lss_r (fun hlt => ?_) (fun hge => ?_)
  · have i1 : i < l.length := by omega
    try simp only [sS]
    refine getk_r hv i1 fun _ => hd _ _ hN1 (fun N2 hN2 hw2 => ?_)
    cases hp : p l[i]
    · refine cnd_t ?_
      exact fun hc => ⟨_, wk_refl hc, fun hw' => k1 i i1 he hp _ (by omega) hw'⟩
    · refine cnd_f ?_
      refine inc_r (by omega) ?_
      refine next (i + 1) _ _ (by omega) (fun hw3 => ⟨_, wk_refl hw3, N2, rfl, by omega, i1, fun x hx => ?_⟩)
      rw [List.take_add_one, List.getElem?_eq_getElem i1, Option.toList_some] at hx
      rcases List.mem_append.1 hx with hx | hx
      · exact he x hx
      · rw [List.mem_singleton.1 hx]; exact hp
  · try simp only [sS]
    refine fun hc => ⟨_, wk_refl hc, fun hw' => k2 (fun x hx => he x ?_) _ hN1 hw'⟩
    rw [List.take_of_length_le (by omega)]; exact hx
theorem ick_take {k : IntKind} (l : List Int) (i : Nat) : (ick k l).take i = ick k (l.take i) := by unfold ick; rw [List.map_take]
set_option maxRecDepth 10000 in
set_option maxHeartbeats 4000000 in
theorem delU_c {B : Nat} {v d : Value} {l : List Int} {p : Int → Bool} (hv : own M B 30 1 v l.length (ick .u32 l)) (hl : l.length ≤ 1000000000)
    (hd : ∀ {K : Kont} (M1 : Nat → Option Chunk) (N1 : Nat) (x : Int), N ≤ N1 → (∀ q, v.ownBlock ≠ some q → q < N → M1 q = M q) → clean M1 N1 → (∀ N', N1 ≤ N' → (Hp.mk F M1 N').wf → K (.bool (!p x)) ⟨F, M1, N'⟩) → callv Tryz.prog d #[.int .u32 x] K E ⟨F, M1, N1⟩)
    (k : ∀ v' M' N', own M' B 30 1 v' (l.filter p).length (ick .u32 (l.filter p)) → (∀ x, v.ownBlock ≠ some x → x < N → M' x = M x ∧ v'.ownBlock ≠ some x) → N ≤ N' → clean M' N' → (Hp.mk F M' N').wf → ∃ h', (Hp.mk F M' N').wk h' ∧ (h'.wf → K v' h')) :
    callv Tryz.prog (.func (.func 37) #[] #[]) #[v, d] K E ⟨F, M, N⟩ := by
  refine callv_of_text mixed Tryz.func37 (by kernel_rfl) (t37 _ E _ _) (fun hw => ?_)
  have hm : clean M N := hw.m
  have hlv : lenV v = some (.int .i64 (l.length : Nat)) := by obtain ⟨a, c, e, _⟩ := hv.form; rw [e]; rfl
  refine uidx_c hv hl (fun N1 x hN kk => hd M N1 x hN (fun _ _ _ => rfl) (hm.up hN) kk) (fun i hi he hpi N1 hN1 hw1 => ?_) (fun he N1 hN1 hw1 => ?_)
  rotate_left
  · refine eql_t rfl ?_
    try simp only [sS]
    have e : l.filter p = l := List.filter_eq_self.2 he
    rw [e] at k
    exact fun hc => k v M N1 hv (fun x hx _ => ⟨rfl, hx⟩) hN1 (hm.up hN1) hc
  refine eql_f (by omega) ?_
  try simp only [sS]
  refine inc_r (by omega) ?_
  refine l37_1_1_1_0_1_0_0 (σ := Nat × Nat) (fun s => .int .i64 (s.1 : Nat)) (fun s => .int .i64 (s.2 : Nat))
    (fun s h => ∃ M' N' l', h = ⟨F, M', N'⟩ ∧ N ≤ N' ∧ own M' B 30 1 v l'.length (ick .u32 l') ∧ l'.length = l.length ∧ s.1 < s.2 ∧ s.2 ≤ l.length ∧ l'.take s.1 = (l.take s.2).filter p ∧ l'.drop s.2 = l.drop s.2 ∧ (∀ x, v.ownBlock ≠ some x → x < N → M' x = M x) ∧ clean M' N') (fun s => l.length - s.2) (i, i + 1) rfl rfl
    (fun hw2 => ⟨_, wk_refl hw2, M, N1, l, rfl, hN1, hv, rfl, Nat.lt_succ_self _, hi, ?_, rfl, fun _ _ _ => rfl, hm.up hN1⟩) (fun kk s j h1 hI hw2 next => ?_)
  · simp only
    rw [List.take_add_one, List.getElem?_eq_getElem hi, Option.toList_some, List.filter_append, List.filter_eq_self.2 he]
    simp [hpi]
  rw [t37_1_1_1_0_1_0_0]
  obtain ⟨M2, N2, l2, rfl, hN2, ho, hl2, hs, hs2, ht, hdr, hM2, hm2⟩ := hI
  refine pv_r hlv ?_
  refine lss_r (fun hlt => ?_) (fun hge => ?_)
  · have j1 : s.2 < l.length := by omega
    have j2 : s.2 < l2.length := by omega
    have ej : l2[s.2] = l[s.2] := by
      have h := congrArg (fun x : List Int => x[0]?) hdr
      simp only [List.getElem?_drop, Nat.add_zero, List.getElem?_eq_getElem j1, List.getElem?_eq_getElem j2] at h
      exact Option.some.inj h
    have hdr' : l2.drop (s.2 + 1) = l.drop (s.2 + 1) := by rw [← List.drop_drop, ← List.drop_drop, hdr]
    try simp only [sS]
    refine getk_r ho j2 fun _ => ?_
    rw [ej]
    refine hd M2 N2 _ hN2 hM2 hm2 (fun N3 hN3 hw3 => ?_)
    cases hp : p l[s.2]
    · rw [Bool.not_false]
      try simp only [sS]
      rw [t37_1_1_1_0_1_0_0_1_1]
      refine inc_r (by omega) ?_
      refine next (s.1, s.2 + 1) _ _ (by simp only; omega) (fun hw4 => ⟨_, wk_refl hw4, M2, N3, l2, rfl, by omega, ho, hl2, by simp only; omega, j1, ?_, hdr', hM2, hm2.up hN3⟩)
      simp only
      rw [ht, List.take_add_one, List.getElem?_eq_getElem j1, Option.toList_some, List.filter_append]
      simp [hp]
    · rw [Bool.not_true]
      try simp only [sS]
      have i1 : s.1 < l2.length := by omega
      refine putk_r ho i1 fun _ M4 g1 g3 g4 => ?_
      refine inc_r (by omega) ?_
      rw [t37_1_1_1_0_1_0_0_1_1]
      refine inc_r (by omega) ?_
      refine next (s.1 + 1, s.2 + 1) _ _ (by simp only; omega) (fun hw4 => ⟨_, wk_refl hw4, M4, N3, _, rfl, by omega, g1, by rw [List.length_set]; exact hl2, by simp only; omega, j1, ?_, ?_, fun x hx hxN => (g3 x hx).trans (hM2 x hx hxN), g4 _ (hm2.up hN3)⟩)
      · simp only
        rw [take_set_same _ _ _ i1, ht, List.take_add_one, List.getElem?_eq_getElem j1, Option.toList_some, List.filter_append]
        simp [hp]
      · simp only
        rw [List.drop_set_of_lt (by omega)]
        exact hdr'
  · try simp only [sS]
    have es : s.2 = l.length := by omega
    rw [es, List.take_length] at ht
    have i1 : s.1 < l.length := by omega
    have hn : (l.filter p).length = s.1 := by rw [← ht, List.length_take]; omega
    rcases ho.2 with ⟨hv0, h0⟩ | ⟨b, c, rest, hvf, g1, g2, g3, g4⟩
    · omega
    rw [hvf, hl2]
    refine sl_suf s.1 (by omega) (by omega) ?_
    rw [if_neg (by omega)]
    refine .inr ⟨b, 0 + s.1 * 1, l.length - s.1, c - s.1, _, _, _, rfl, by omega, g4, by exact List.all_eq_true.1 rfl, by rw [List.length_append, ick_len, hl2]; omega, ?_⟩
    refine sl_pre s.1 (by omega) ?_
    obtain ⟨Z, hcs⟩ : ∃ Z, splice (ick .u32 l2 ++ rest) (0 + s.1 * 1) (List.replicate (l.length - s.1) [Value.int .u32 0]).flatten = ick .u32 (l2.take s.1) ++ Z := ⟨_, by
      unfold splice
      rw [Nat.zero_add, Nat.mul_one, List.take_append_of_le_length (by rw [ick_len]; omega), ick_take, List.append_assoc]⟩
    refine fun hc => k _ _ N2 ⟨by rw [ick_len, Nat.mul_one], .inr ⟨b, c, Z, by rw [hn], by omega, g2, g3, ?_⟩⟩ (fun x hx hxN => ⟨?_, fun e => hx (by rw [hvf]; exact e)⟩) hN2 (hm2.set (hm2.lt g4) _) hc
    · rw [← ht, ← hcs]; exact upd_same _ _ _
    · have hxb : x ≠ b := fun e => hx (by rw [hvf, e]; rfl)
      exact (upd_ne _ _ hxb).trans (hM2 x hx hxN)
end
end Go.Proofs.YtgcmbkoejjcjlaaGreatDoor.A
open Go Go.RowKit Go.Proofs.YtgcmbkoejjcjlaaGreatDoor.K Go.Proofs.YtgcmbkoejjcjlaaGreatDoor.T
set_option linter.unusedVariables false
set_option linter.unusedSimpArgs false
namespace Go.Proofs.YtgcmbkoejjcjlaaGreatDoor.A
variable {F F' : Nat → Option (List Value)} {M M' : Nat → Option Chunk} {N N' : Nat} {K : Kont} {E : PanK}
theorem mkeys_c {mb : Nat} (k : ∀ bm F' N', (Hp.mk F' M N').wf → subF F F' → N ≤ N' → F' bm = some [.map (some mb)] → K (.func (.func 71) #[] #[.pointer (some ⟨bm, 0, none⟩)]) ⟨F', M, N'⟩) :
    callv Tryz.prog (.func (.func 39) #[] #[]) #[.map (some mb)] K E ⟨F, M, N⟩ := by
  refine callv_of_text mixed Tryz.func39 (by kernel_rfl) (t39 _ E _) (fun hw => ?_)
  have hm : clean M N := hw.m
  refine nw_r (cs := [.map (some mb)]) (fun b1 hb1 => ?_)
  exact fun hc => ⟨_, frz_wf hm (fun q hq => upd_ne _ _ (by omega)) hc, fun hw' => k b1 _ _ hw' (subF_frzAll hc) (by omega) (frz_at (by omega) (upd_same _ _ _))⟩
section
variable {B p g mb : Nat} {hv dv : Value} {rows : List (List Value)} {l : List Dm} {h : List En} {bs : Bts} {tk : Int}
theorem mapD.mem {es : Array MapEntry} (hd : mapD F es bs) (x : Int) : (∃ e ∈ es.toList, e.key = .int .u32 x) ↔ hasB bs x = true := by
  have h1 : (∃ e ∈ es.toList, e.key = .int .u32 x) ↔ Value.int .u32 x ∈ es.toList.map (·.key) := by rw [List.mem_map]
  rw [h1, hd.keys, List.mem_map, hasB_iff]
  constructor
  · rintro ⟨y, hy, e⟩; exact ⟨y, hy, by simpa using e⟩
  · rintro ⟨y, hy, e⟩; exact ⟨y, hy, by rw [e]⟩
def isOpen (bs : Bts) (x : Int) : Bool := decide ((getB bs x).st = 1)
def waits (bs : Bts) (ws : List Int) : Prop := rises ws ∧ ∀ x, x ∈ ws ↔ hasB bs x = true ∧ isOpen bs x = true
set_option maxRecDepth 10000 in
theorem pwait_c (hE : E [] badH) (P : isPart F M B p g mb hv dv rows l h bs tk) (h12 : bs.length ≤ 12)
    (k : ∀ v' (ws : List Int) F' N', (Hp.mk F' M N').wf → subF F F' → N ≤ N' → waits bs ws → sF F' 1 v' ws.length (ick .u32 ws) → K v' ⟨F', M, N'⟩) :
    callv Tryz.prog (.func (.func 18) #[] #[]) #[.pointer (some ⟨p, 0, none⟩)] K E ⟨F, M, N⟩ := by
  refine callv_of_text mixed Tryz.func18 (by kernel_rfl) (t18 _ E _) (fun hw => ?_)
  have hm : clean M N := hw.m
  refine nw_r (cs := [.pointer (some ⟨p, 0, none⟩)]) (fun b1 hb1 => ?_)
  generalize hM1e : upd M b1 _ = M1
  have hb : ∃ e, M1 b1 = some (.cells e [.pointer (some ⟨p, 0, none⟩)] 1) := ⟨_, by rw [← hM1e]; exact upd_same _ _ _⟩
  have P1 : isPart F M1 B p g mb hv dv rows l h bs tk := by rw [← hM1e]; exact P.box hm hb1 _
  have hm1 : clean M1 (b1 + 1) := by rw [← hM1e]; exact hm.new hb1 _
  have hM1 : ∀ q, q < N → M1 q = M q := fun q hq => by rw [← hM1e]; exact upd_ne _ _ (by omega)
  clear hM1e
  obtain ⟨ty, hb⟩ := hb
  refine ldM (v := .pointer (some ⟨p, 0, none⟩)) ?_ hb
  try simp only [sS]
  refine ldM (v := .map (some mb)) ?_ P1.pp
  refine mkeys_c (fun bm F2 N2 hw2 hF2 hN2 hbm => ?_)
  obtain ⟨es, h2, h3⟩ := P1.mm
  refine sortedK_c hE hbm h2 (h3.k (by omega)) (by rw [h3.len]; exact h12) (fun v3 l3 M3 N3 hr3 hmem3 ho3 hM3 hN3 hm3 hw3 => ?_)
  have hpl := P1.lt hm1
  have P3 : isPart F2 M3 B p g mb hv dv rows l h bs tk := P1.keep hF2 (fun q hq => hM3 q (by have := (hpl q hq).2; omega))
  have hlen3 : l3.length ≤ 1000000 := by
    have n3 : l3.Nodup := hr3.imp (fun {x y} h => by omega)
    have := nodup_le (b := bs.map (·.1)) n3 (fun x hx => by
      obtain ⟨y, hy, e⟩ := hasB_iff.1 ((h3.mem x).1 ((hmem3 x).1 hx))
      exact List.mem_map.2 ⟨y, hy, e⟩)
    rw [List.length_map] at this; omega
  have hb3 := (hM3 b1 (by omega)).trans hb
  have hvge : ∀ q, v3.ownBlock = some q → N2 ≤ q := fun q e => (ho3.ge q e).1
  refine delU_c (p := isOpen bs) ho3 (by omega) (fun {K'} M4 N4 x hN4 hM4 hm4 kk => ?_) (fun v5 M5 N5 ho5 hM5 hN5 hm5 hw5 => ⟨_, wk_refl hw5, fun hw6 => ?_⟩)
  · refine callv_of_text mixed Tryz.func40 (by kernel_rfl) (t40 _ E _ _) (fun hw => ?_)
    have hb4 := (hM4 b1 (fun e => by have := hvge b1 e; omega) (by omega)).trans hb3
    refine ldM (v := .pointer (some ⟨p, 0, none⟩)) ?_ hb4
    have P4 : isPart F2 M4 B p g mb hv dv rows l h bs tk := P3.keep (subF.refl _) (fun q hq => hM4 q (fun e => by have := hvge q e; have := (hpl q hq).2; omega) (by have := (hpl q hq).2; omega))
    refine popen_c P4 (fun hw7 => ?_)
    try simp only [sS]
    exact fun hc => ⟨_, wk_refl hc, fun hw8 => kk N4 (Nat.le_refl _) hw8⟩
  · have hX : ∀ q, q < N → M5 q = M q := fun q hq => ((hM5 q (fun e => by have := hvge q e; omega) (by omega)).1).trans ((hM3 q (by omega)).trans (hM1 q hq))
    refine fun hc => ⟨_, frz_wf hm hX hc, fun hw' => k v5 _ _ _ hw' (hF2.trans (subF_frzAll hc)) (by omega) ⟨hr3.filter _, fun x => ?_⟩ (ho5.rd.frz hc (fun b e => .inl (by have := (ho5.ge b e).1; omega)))⟩
    rw [List.mem_filter, hmem3, h3.mem]
def apE (l : List Dm) (h : List En) (bs : Bts) (tk : Int) (r : RecA) : Nat := if r.kind = 1 then ppE l bs r else if r.kind = 2 then cmE l h bs r else if r.kind = 3 then abE bs r else if r.kind = 7 then tkE l h tk r else 1
def apH (l : List Dm) (h : List En) (bs : Bts) (tk : Int) (r : RecA) : List En := if r.kind = 2 then cmH l h bs r else if r.kind = 7 then tkH l h tk r else h
def apS (l : List Dm) (h : List En) (bs : Bts) (r : RecA) : Bts := if r.kind = 1 then ppS l bs r else if r.kind = 2 then cmS l h bs r else if r.kind = 3 then abS bs r else bs
def apT (l : List Dm) (h : List En) (tk : Int) (r : RecA) : Int := if r.kind = 7 then tkT l h tk r else tk
structure RecA.ok (r : RecA) : Prop where
  i0 : 0 ≤ r.id ∧ r.id < 4294967296
  t0 : 0 ≤ r.tm
  nl : r.ns.length ≤ 17592186043904
  fl : r.fs.length ≤ 140737488351232
  el : r.es.length ≤ 140737488351232
  eT : ∀ e ∈ r.es, e.1 < 4294967296
set_option maxRecDepth 10000 in
theorem papply_c {cs : List Value} {r : RecA} (P : isPart F M B p g mb hv dv rows l h bs tk) (hB : B ≤ N) (o : okH l 5000 200 h) (hdl : l.length ≤ 1000) (hr : recD F cs r) (ok : r.ok) (hfb : (getB bs r.id).fs.length ≤ 140737488351232)
    (k : ∀ hv' F' M' N' rows', subF F F' → isPart F' M' B p g mb hv' dv rows' l (apH l h bs tk r) (apS l h bs r) (apT l h tk r) → pfr M M' N p g mb hv hv' → N ≤ N' → clean M' N' → (Hp.mk F' M' N').wf → K (.int .u16 ((apE l h bs tk r : Nat) : Int)) ⟨F', M', N'⟩) :
    callv Tryz.prog (.func (.func 14) #[] #[]) #[.pointer (some ⟨p, 0, none⟩), .agg cs.toArray] K E ⟨F, M, N⟩ := by
  refine callv_of_text mixed Tryz.func14 (by kernel_rfl) (t14 _ E _ _) (fun hw => ?_)
  have hm : clean M N := hw.m
  have hr0 := hr
  refine nw_r (cs := cs) (fun b1 hb1 => ?_) rfl
  obtain ⟨nv, fv, ep, sv, ev, e, _⟩ := hr
  have hb := upd_same M b1 (some (.cells 44 cs cs.length))
  have P1 := P.box hm hb1 (some (.cells 44 cs cs.length))
  have hm1 := hm.new hb1 (some (.cells 44 cs cs.length))
  have hM1 : ∀ q, q < N → upd M b1 (some (.cells 44 cs cs.length)) q = M q := fun q hq => upd_ne _ _ (by omega)
  generalize upd M b1 _ = M1 at *
  have hb' := hb
  subst e
  have trp : ∀ {M' : Nat → Option Chunk} {hv' : Value}, pfr M1 M' (b1 + 1) p g mb hv hv' → pfr M M' N p g mb hv hv' := fun f q q1 q2 q3 q4 q5 => ⟨((f q q1 q2 q3 q4 (by omega)).1).trans (hM1 q q5), (f q q1 q2 q3 q4 (by omega)).2⟩
  have trq : ∀ {M' : Nat → Option Chunk}, (∀ q, q ≠ mb → q < b1 + 1 → M' q = M1 q) → pfr M M' N p g mb hv hv := fun f q q1 _ q3 _ q5 => ⟨(f q q3 (by omega)).trans (hM1 q q5), q1⟩
  try simp only [sS]
  refine ldM (v := .int .u8 r.kind) ?_ hb
  refine eql_r (fun h1 => ?_) (fun h1 => ?_)
  · have eE : apE l h bs tk r = ppE l bs r := by unfold apE; rw [if_pos h1]
    have eS : apS l h bs r = ppS l bs r := by unfold apS; rw [if_pos h1]
    have eH : apH l h bs tk r = h := by unfold apH; rw [if_neg (by omega), if_neg (by omega)]
    have eT : apT l h tk r = tk := by unfold apT; rw [if_neg (by omega)]
    rw [eE, eS, eH, eT] at k
    try simp only [sS]
    refine ldMa ?_ hb
    refine pprep_c P1 hdl hr0 ok.i0.1 ok.i0.2 ok.nl ok.fl (fun F2 M2 N2 hF2 P2 hM2 hN2 hm2 hw2 => ?_)
    exact fun hc => ⟨_, wk_refl hc, fun hw' => k hv F2 M2 N2 rows hF2 P2 (trq hM2) (by omega) hm2 hw'⟩
  try simp only [sS]
  refine eql_r (fun h2 => ?_) (fun h2 => ?_)
  · have eE : apE l h bs tk r = cmE l h bs r := by unfold apE; rw [if_neg h1, if_pos h2]
    have eS : apS l h bs r = cmS l h bs r := by unfold apS; rw [if_neg h1, if_pos h2]
    have eH : apH l h bs tk r = cmH l h bs r := by unfold apH; rw [if_pos h2]
    have eT : apT l h tk r = tk := by unfold apT; rw [if_neg (by omega)]
    rw [eE, eS, eH, eT] at k
    try simp only [sS]
    refine ldMa ?_ hb
    refine pcommit_c P1 (by omega) hdl o.le hr0 ok.i0.1 ok.i0.2 ok.t0 hfb (fun hv2 F2 M2 N2 rows2 hF2 P2 hM2 hN2 hm2 hw2 => ?_)
    exact fun hc => ⟨_, wk_refl hc, fun hw' => k hv2 F2 M2 N2 rows2 hF2 P2 (trp hM2) (by omega) hm2 hw'⟩
  try simp only [sS]
  refine eql_r (fun h3 => ?_) (fun h3 => ?_)
  · have eE : apE l h bs tk r = abE bs r := by unfold apE; rw [if_neg h1, if_neg h2, if_pos h3]
    have eS : apS l h bs r = abS bs r := by unfold apS; rw [if_neg h1, if_neg h2, if_pos h3]
    have eH : apH l h bs tk r = h := by unfold apH; rw [if_neg h2, if_neg (by omega)]
    have eT : apT l h tk r = tk := by unfold apT; rw [if_neg (by omega)]
    rw [eE, eS, eH, eT] at k
    try simp only [sS]
    refine ldMa ?_ hb
    refine pabort_c P1 hr0 ok.i0.1 ok.i0.2 (fun M2 N2 P2 hM2 hN2 hm2 hw2 => ?_)
    exact fun hc => ⟨_, wk_refl hc, fun hw' => k hv F M2 N2 rows (subF.refl _) P2 (trq hM2) (by omega) hm2 hw'⟩
  try simp only [sS]
  refine eql_r (fun h4 => ?_) (fun h4 => ?_)
  · have eE : apE l h bs tk r = tkE l h tk r := by unfold apE; rw [if_neg h1, if_neg h2, if_neg h3, if_pos h4]
    have eS : apS l h bs r = bs := by unfold apS; rw [if_neg h1, if_neg h2, if_neg h3]
    have eH : apH l h bs tk r = tkH l h tk r := by unfold apH; rw [if_neg h2, if_pos h4]
    have eT : apT l h tk r = tkT l h tk r := by unfold apT; rw [if_pos h4]
    rw [eE, eS, eH, eT] at k
    try simp only [sS]
    refine ldMa ?_ hb
    refine ptake_c P1 (by omega) o hdl hr0 ok.el ok.eT (fun hv2 F2 M2 N2 rows2 hF2 P2 hM2 hN2 hm2 hw2 => ?_)
    exact fun hc => ⟨_, wk_refl hc, fun hw' => k hv2 F2 M2 N2 rows2 hF2 P2 (trp hM2) (by omega) hm2 hw'⟩
  · have eE : apE l h bs tk r = 1 := by unfold apE; rw [if_neg h1, if_neg h2, if_neg h3, if_neg h4]
    have eS : apS l h bs r = bs := by unfold apS; rw [if_neg h1, if_neg h2, if_neg h3]
    have eH : apH l h bs tk r = h := by unfold apH; rw [if_neg h2, if_neg h4]
    have eT : apT l h tk r = tk := by unfold apT; rw [if_neg h4]
    rw [eE, eS, eH, eT] at k
    try simp only [sS]
    exact fun hc => ⟨_, wk_refl hc, fun hw' => k hv F M1 (b1 + 1) rows (subF.refl _) P1 (fun q q1 _ _ _ q5 => ⟨hM1 q q5, q1⟩) (by omega) hm1 hw'⟩
set_option maxRecDepth 10000 in
theorem pquery_c {cs : List Value} {t : Int} {m lo hi : List Int} (hE : E [] badH) (P : isPart F M B p g mb hv dv rows l h bs tk) (h12 : bs.length ≤ 12) (hdl : l.length ≤ 140737488351232) (hl : h.length ≤ 5000) (hT : ((h.map (·.2)).flatten).length ≤ 1000000) (hk : ∀ e ∈ h, ∀ f ∈ e.2, okK f.1) (hq : queryD F cs m lo hi) (hmi : ∀ x ∈ m, i64 x) (hok : ∀ r ∈ tab ((allI h (upTo h t)).map fr1), okK r.1)
    (k1 : ∀ ws F' N', 0 < ws.length → waits bs ws → (Hp.mk F' M N').wf → subF F F' → N ≤ N' → K (.tuple #[.slice none 0 0, .int .u16 141]) ⟨F', M, N'⟩)
    (k2 : waits bs [] → ∀ v' F' N', (Hp.mk F' M N').wf → subF F F' → N ≤ N' → tblD F' v' (runT l (tab ((allI h (upTo h t)).map fr1)) m lo hi) → K (.tuple #[v', .int .u16 ((runE l (tab ((allI h (upTo h t)).map fr1)) m lo hi : Nat) : Int)]) ⟨F', M, N'⟩) :
    callv Tryz.prog (.func (.func 19) #[] #[]) #[.pointer (some ⟨p, 0, none⟩), .agg cs.toArray, .int .u32 t] K E ⟨F, M, N⟩ := by
  refine callv_of_text mixed Tryz.func19 (by kernel_rfl) (t19 _ E _ _ _) (fun hw => ?_)
  have hm : clean M N := hw.m
  refine nw_r (cs := cs) (fun b1 hb1 => ?_) rfl
  have hb := upd_same M b1 (some (.cells 55 cs cs.length))
  have P1 := P.box hm hb1 (some (.cells 55 cs cs.length))
  have hm1 := hm.new hb1 (some (.cells 55 cs cs.length))
  have hsub : ∀ {F' : Nat → Option (List Value)} {N' : Nat}, (Hp.mk F' (upd M b1 (some (.cells 55 cs cs.length))) N').wf → (Hp.mk F' (upd M b1 (some (.cells 55 cs cs.length))) N').wk ⟨F', M, N'⟩ := fun hc => wk_drop hc (subM_drop (subM_refl _) (hm _ hb1))
  generalize upd M b1 _ = M1 at *
  refine pwait_c hE P1 h12 (fun v2 ws F2 N2 hw2 hF2 hN2 hws hsw => ?_)
  refine lenF_r hsw ?_
  refine gtr_r (fun h0 => ?_) (fun h0 => ?_)
  · try simp only [sS]
    exact fun hc => ⟨_, hsub hc, fun hw' => k1 ws F2 N2 (by omega) hws hw' hF2 (by omega)⟩
  · have e0 : ws = [] := List.eq_nil_of_length_eq_zero (by omega)
    subst e0
    try simp only [sS]
    refine ldM (v := .pointer (some ⟨g, 0, none⟩)) ?_ P1.pp
    have hq2 := hq
    obtain ⟨a, b, c, e, _⟩ := hq2
    subst e
    refine ldMa ?_ hb
    refine cquery_c (P1.cc.keep hF2 (fun _ _ => rfl)) hdl hl hT hk (hq.mono hF2) hmi hok (fun v3 F3 N3 hw3 hF3 hN3 ht => ?_)
    try simp only [sS]
    exact fun hc => ⟨_, hsub hc, fun hw' => k2 hws v3 F3 N3 hw' (hF2.trans hF3) (by omega) ht⟩
end
end Go.Proofs.YtgcmbkoejjcjlaaGreatDoor.A
open Go Go.RowKit Go.Proofs.YtgcmbkoejjcjlaaGreatDoor.K
set_option linter.unusedVariables false
set_option maxRecDepth 100000
namespace Go.Proofs.YtgcmbkoejjcjlaaGreatDoor.T
section
variable (K : Kont) (E : PanK) (k1 k2 k3 k4 k5 : Env → Hp → Prop) (x0 x1 x2 x3 x4 x5 x6 x7 x8 x9 x10 x11 x12 x13 x14 x15 x16 x17 x18 x19 x20 x21 x22 x23 x24 x25 x26 x27 x28 x29 x30 x31 x32 x33 x34 x35 x36 x37 x38 x39 x40 x41 x42 x43 x44 x45 x46 x47 x48 x49 x50 x51 x52 x53 x54 x55 x56 x57 x58 x59 x60 x61 x62 x63 x64 x65 x66 x67 x68 x69 x70 x71 x72 x73 x74 x75 x76 v0 v1 v2 v3 v4 v5 v6 v7 v8 v9 v10 v11 v12 v13 v14 v15 v16 v17 v18 v19 v20 v21 v22 v23 v24 v25 v26 v27 v28 v29 v30 v31 v32 v33 v34 v35 v36 v37 v38 v39 v40 v41 v42 v43 v44 v45 v46 v47 v48 v49 v50 v51 v52 v53 v54 v55 v56 v57 v58 v59 v60 v61 v62 v63 v64 v65 v66 v67 v68 v69 v70 v71 v72 v73 v74 v75 v76 : Value) (j : Nat → Value)
abbrev q10 : QD := bodyQ Tryz.prog Tryz.f10.results.toList K E
abbrev d10 (p : List Nat) : QD → Env → Hp → Prop := den Tryz.prog (sel (bodyOf Tryz.f10) p)
def m10_1_1_0_1_0_0 (j : Nat → Value) : Env := #[x0, x1, x2, v3, v4, (j 5), (j 6), (j 7), (j 8), (j 9), (j 10), (j 11), (j 12), (j 13), (j 14), (j 15), (j 16), (j 17), (j 18), (j 19), (j 20), (j 21), (j 22), (j 23), (j 24), (j 25), (j 26), (j 27), (j 28), (j 29), (j 30), (j 31), (j 32), (j 33), (j 34), (j 35), (j 36), (j 37), (j 38), (j 39), (j 40), (j 41), (j 42), (j 43), (j 44), (j 45), (j 46), (j 47), (j 48), (j 49), (j 50), (j 51), (j 52), (j 53), (j 54), (j 55), (j 56), (j 57), x58]
def m10_1_1_0_1_0_0_1_0_0_1_1_0_0 (j : Nat → Value) : Env := #[x0, x1, x2, v3, x4, v5, x6, x7, x8, x9, x10, x11, x12, x13, x14, x15, x16, x17, x18, x19, x20, x21, x22, x23, x24, x25, x26, x27, x28, x29, x30, x31, x32, x33, x34, (j 35), (j 36), (j 37), (j 38), (j 39), (j 40), (j 41), (j 42), (j 43), (j 44), (j 45), (j 46), (j 47), (j 48), (j 49), (j 50), (j 51), (j 52), (j 53), (j 54), (j 55), (j 56), (j 57), x58]
theorem t10 : d10 [] (q10 K E) #[x0, U, U, U, U, U, U, U, U, U, U, U, U, U, U, U, U, U, U, U, U, U, U, U, U, U, U, U, U, U, U, U, U, U, U, U, U, U, U, U, U, U, U, U, U, U, U, U, U, U, U, U, U, U, U, U, U, U, U] =
  lp (fun k1 => d10 [1, 1, 0, 1, 0, 0] (thenD k1 (blk 0 (thenD (d10 [1, 1, 1] (q10 K E)) (q10 K E))))) (m10_1_1_0_1_0_0 x0 U (.int .i64 0) U (.int .i64 0) (.int .i64 0) (jf #[])) := by kernel_rfl
theorem t10_1_1_0_1_0_0 : d10 [1, 1, 0, 1, 0, 0] (thenD k1 (blk 0 (thenD (d10 [1, 1, 1] (q10 K E)) (q10 K E)))) (m10_1_1_0_1_0_0 x0 x1 x2 x58 v3 v4 j) =
  pv (lenV x0) fun t1 =>
  pv (binV .none .lss v4 t1) fun t2 =>
  cnd t2 (
   pv (iaV none 8 x0 v4) fun t3 =>
   pv (faV 4 t3) fun t4 =>
   ld false 1 t4 fun t5 =>
   pv (lenV t5) fun t6 =>
   pv (binV .none .add (.int .i64 1) t6) fun t7 =>
   pv (iaV none 8 x0 v4) fun t8 =>
   pv (faV 6 t8) fun t9 =>
   ld false 1 t9 fun t10 =>
   pv (lenV t10) fun t11 =>
   pv (binV .none .add t7 t11) fun t12 =>
   pv (iaV none 8 x0 v4) fun t13 =>
   pv (faV 3 t13) fun t14 =>
   ld false 1 t14 fun t15 =>
   pv (lenV t15) fun t16 =>
   pv (binV .none .add t12 t16) fun t17 =>
   pv (binV .none .add v3 t17) fun t18 =>
   lp (fun k2 => d10 [1, 1, 0, 1, 0, 0, 1, 0, 0, 1, 1, 0, 0] (thenD k2 (blk 2 (blk 1 (thenD (d10 [1, 1, 0, 1, 0, 0, 1, 1] (thenD k1 (blk 0 (thenD (d10 [1, 1, 1] (q10 K E)) (q10 K E))))) (thenD k1 (blk 0 (thenD (d10 [1, 1, 1] (q10 K E)) (q10 K E))))))))) (m10_1_1_0_1_0_0_1_0_0_1_1_0_0 x0 x1 x2 v4 v4 x0 t1 t2 (j 10) (j 11) v3 x0 v4 t3 t4 t5 t6 t7 x0 v4 t8 t9 t10 t11 t12 x0 v4 t13 t14 t15 t16 t17 t18 x58 t18 (.int .i64 0) (jf #[U, U, U, U, U, U, U, U, U, U, U, U, U, U, U, U, U, U, U, U, U, U, U, U, U, U, U, U, U, U, U, U, U, U, U, (j 35), (j 36), (j 37), (j 38), (j 39), (j 40), (j 41), (j 42), (j 43), (j 44), (j 45), (j 46), (j 47), (j 48), (j 49), (j 50), (j 51), (j 52), (j 53), (j 54), (j 55), (j 56), (j 57)]))) (
   K v3) := by kernel_rfl
theorem t10_1_1_0_1_0_0_1_0_0_1_1_0_0 : d10 [1, 1, 0, 1, 0, 0, 1, 0, 0, 1, 1, 0, 0] (thenD k2 (blk 2 (blk 1 (thenD (d10 [1, 1, 0, 1, 0, 0, 1, 1] (thenD k1 (blk 0 (thenD (d10 [1, 1, 1] (q10 K E)) (q10 K E))))) (thenD k1 (blk 0 (thenD (d10 [1, 1, 1] (q10 K E)) (q10 K E)))))))) (m10_1_1_0_1_0_0_1_0_0_1_1_0_0 x0 x1 x2 x4 x6 x7 x8 x9 x10 x11 x12 x13 x14 x15 x16 x17 x18 x19 x20 x21 x22 x23 x24 x25 x26 x27 x28 x29 x30 x31 x32 x33 x34 x58 v3 v5 j) =
  pv (iaV none 8 x0 x4) fun t1 =>
  pv (faV 7 t1) fun t2 =>
  ld false 1 t2 fun t3 =>
  pv (lenV t3) fun t4 =>
  pv (binV .none .lss v5 t4) fun t5 =>
  cnd t5 (
   pv (iaV none 8 x0 x4) fun t6 =>
   pv (faV 7 t6) fun t7 =>
   ld false 1 t7 fun t8 =>
   pv (iaV none 2 t8 v5) fun t9 =>
   pv (faV 1 t9) fun t10 =>
   ld false 1 t10 fun t11 =>
   pv (lenV t11) fun t12 =>
   pv (binV .none .add (.int .i64 1) t12) fun t13 =>
   pv (binV .none .add v3 t13) fun t14 =>
   pv (binV .none .add v5 (.int .i64 1)) fun t15 =>
   k2 (m10_1_1_0_1_0_0_1_0_0_1_1_0_0 x0 x1 x2 x4 x6 x7 x8 x9 x10 x11 x12 x13 x14 x15 x16 x17 x18 x19 x20 x21 x22 x23 x24 x25 x26 x27 x28 x29 x30 x31 x32 x33 x34 x58 t14 t15 (jf #[U, U, U, U, U, U, U, U, U, U, U, U, U, U, U, U, U, U, U, U, U, U, U, U, U, U, U, U, U, U, U, U, U, U, U, v5, x0, x4, t1, t2, t3, t4, t5, v5, t15, v3, x0, x4, t6, t7, t8, v5, t9, t10, t11, t12, t13, t14]))) (
   pv (binV .none .add x4 (.int .i64 1)) fun t16 =>
   k1 (m10_1_1_0_1_0_0 x0 x1 x2 x58 v3 t16 (jf #[U, U, U, U, U, v5, x6, x7, x8, x9, x4, t16, x12, x13, x14, x15, x16, x17, x18, x19, x20, x21, x22, x23, x24, x25, x26, x27, x28, x29, x30, x31, x32, x33, x34, v5, x0, x4, t1, t2, t3, t4, t5, (j 43), (j 44), (j 45), (j 46), (j 47), (j 48), (j 49), (j 50), (j 51), (j 52), (j 53), (j 54), (j 55), (j 56), (j 57)]))) := by kernel_rfl
abbrev q11 : QD := bodyQ Tryz.prog Tryz.f11.results.toList K E
abbrev d11 (p : List Nat) : QD → Env → Hp → Prop := den Tryz.prog (sel (bodyOf Tryz.f11) p)
theorem t11 : d11 [] (q11 K E) #[U, U, U, U, U, U, U, U, U, U, U, U, U, U, U, U, U, U, U, U, U, U, U, U, U, U, U, U, U, U, U, U, U, U, U, U, U, U, U, U, U, U, U, U, U, U, U, U, U, U, U, U, U, U, U, U, U, U, U, U, U, U, U, U, U, U, U, U, U, U, U, U, U, U, U, U, U] =
  pv (bdC #[(.int .i64 0), (.slice none 0 0)] [(0, 1), (1, 1)] #[(0, (.int .i64 5))]) fun t1 =>
  nws 88 1 (bsC #[(.int .i64 0), (.slice none 0 0)] 2 1 #[(0, t1)]) fun t2 =>
  callv Tryz.prog (.func (.func 13) #[] #[]) #[t2] (fun t3 =>
  pv (binV .ptr .eql t3 (.pointer none)) fun t4 =>
  cnd t4 (
   K (.bool false)) (
   nws 3 1 (bsC #[(.int .i64 0)] 1 1 #[(0, (.int .i64 0))]) fun t5 =>
   nws 3 1 (bsC #[(.int .i64 0)] 1 1 #[(0, (.int .i64 1))]) fun t6 =>
   pv (bdC #[(.slice none 0 0), (.int .i64 0)] [(0, 1), (1, 1)] #[(0, t6), (1, (.int .i64 4))]) fun t7 =>
   nws 90 1 (bsC #[(.slice none 0 0), (.int .i64 0)] 2 1 #[(0, t7)]) fun t8 =>
   pv (bdC #[(.int .u8 0), (.int .u32 0), (.int .u32 0), (.slice none 0 0), (.slice none 0 0), (.int .u32 0), (.slice none 0 0), (.int .i64 0), (.int .i64 0), (.slice none 0 0)] [(0, 1), (1, 1), (2, 1), (3, 1), (4, 1), (5, 2), (7, 1), (8, 1), (9, 1)] #[(0, (.int .u8 1)), (1, (.int .u32 7)), (3, t5), (4, t8)]) fun t9 =>
   callv Tryz.prog (.func (.func 14) #[] #[]) #[t3, t9] (fun t10 =>
   nws 3 1 (bsC #[(.int .i64 0)] 1 1 #[(0, (.int .i64 0))]) fun t11 =>
   nws 3 1 (bsC #[(.int .i64 0)] 1 1 #[(0, (.int .i64 0))]) fun t12 =>
   nws 3 1 (bsC #[(.int .i64 0)] 1 1 #[(0, (.int .i64 5))]) fun t13 =>
   pv (bdC #[(.slice none 0 0), (.slice none 0 0), (.slice none 0 0)] [(0, 1), (1, 1), (2, 1)] #[(0, t11), (1, t12), (2, t13)]) fun t14 =>
   nw 55 [(.slice none 0 0), (.slice none 0 0), (.slice none 0 0)] fun t15 =>
   st 3 t15 t14 fun _ =>
   ld true 3 t15 fun t16 =>
   callv Tryz.prog (.func (.func 19) #[] #[]) #[t3, t16, (.int .u32 3)] (fun t17 =>
   pv (exV 0 t17) fun t18 =>
   pv (exV 1 t17) fun t19 =>
   callv Tryz.prog (.func (.func 18) #[] #[]) #[t3] (fun t20 =>
   pv (lenV t20) fun t21 =>
   pv (bdC #[(.int .u8 0), (.int .u32 0), (.int .u32 0), (.slice none 0 0), (.slice none 0 0), (.int .u32 0), (.slice none 0 0), (.int .i64 0), (.int .i64 0), (.slice none 0 0)] [(0, 1), (1, 1), (2, 1), (3, 1), (4, 1), (5, 2), (7, 1), (8, 1), (9, 1)] #[(0, (.int .u8 2)), (1, (.int .u32 7)), (2, (.int .u32 3))]) fun t22 =>
   callv Tryz.prog (.func (.func 14) #[] #[]) #[t3, t22] (fun t23 =>
   ld true 3 t15 fun t24 =>
   callv Tryz.prog (.func (.func 19) #[] #[]) #[t3, t24, (.int .u32 3)] (fun t25 =>
   pv (exV 0 t25) fun t26 =>
   pv (exV 1 t25) fun t27 =>
   pv (binV .none .eql t10 (.int .u16 0)) fun t28 =>
   gdK t28 true (fun k => k t19) fun t29 =>
   gdK t28 true (fun k => pv (binV .none .eql t29 (.int .u16 141)) k) fun t30 =>
   pv (pickV t28 t30 (.bool false)) fun t31 =>
   gdK t31 true (fun k => k t21) fun t32 =>
   gdK t31 true (fun k => pv (binV .none .eql t32 (.int .i64 1)) k) fun t33 =>
   pv (pickV t31 t33 (.bool false)) fun t34 =>
   gdK t34 true (fun k => k t23) fun t35 =>
   gdK t34 true (fun k => pv (binV .none .eql t35 (.int .u16 0)) k) fun t36 =>
   pv (pickV t34 t36 (.bool false)) fun t37 =>
   gdK t37 true (fun k => k t27) fun t38 =>
   gdK t37 true (fun k => pv (binV .none .eql t38 (.int .u16 0)) k) fun t39 =>
   pv (pickV t37 t39 (.bool false)) fun t40 =>
   gdK t40 true (fun k => k t26) fun t41 =>
   gdK t40 true (fun k => pv (lenV t41) k) fun t42 =>
   gdK t40 true (fun k => pv (binV .none .eql t42 (.int .i64 1)) k) fun t43 =>
   pv (pickV t40 t43 (.bool false)) fun t44 =>
   gdK t44 true (fun k => k t3) fun t45 =>
   gdK t44 true (fun k => callv Tryz.prog (.func (.func 16) #[] #[]) #[t45, (.int .u32 7)] k E) fun t46 =>
   gdK t44 true (fun k => pv (bdC #[(.int .u8 0), (.int .u32 0)] [(0, 1), (1, 1)] #[(0, (.int .u8 2)), (1, (.int .u32 3))]) k) fun t47 =>
   gdK t44 true (fun k => pv (eqCells .eql [0, 0] t46 t47) k) fun t48 =>
   pv (pickV t44 t48 (.bool false)) fun t49 =>
   gdK t49 true (fun k => callv Tryz.prog (.func (.func 13) #[] #[]) #[(.slice none 0 0)] k E) fun t50 =>
   gdK t49 true (fun k => pv (binV .ptr .eql t50 (.pointer none)) k) fun t51 =>
   pv (pickV t49 t51 (.bool false)) fun t52 =>
   K t52) E) E) E) E) E)) E := by kernel_rfl
abbrev q15 : QD := bodyQ Tryz.prog Tryz.f15.results.toList K E
abbrev d15 (p : List Nat) : QD → Env → Hp → Prop := den Tryz.prog (sel (bodyOf Tryz.f15) p)
theorem t15 : d15 [] (q15 K E) #[x0, x1, U, U, U, U, U, U, U, U, U, U, U, U, U, U, U, U, U, U, U, U, U, U, U, U, U, U, U, U, U, U, U, U, U, U, U, U, U, U, U, U, U, U, U, U, U, U, U, U, U, U, U, U, U, U, U, U, U, U, U, U, U, U, U, U, U, U, U, U, U, U, U, U] =
  nw 49 (Value.cells x1).toList fun t1 =>
  nw 44 [(.int .u8 0), (.int .u32 0), (.int .u32 0), (.slice none 0 0), (.slice none 0 0), (.int .u32 0), (.slice none 0 0), (.int .i64 0), (.int .i64 0), (.slice none 0 0)] fun t2 =>
  pv (faV 1 t1) fun t3 =>
  ld false 1 t3 fun t4 =>
  pv (binV .none .rem t4 (.int .u32 9)) fun t5 =>
  pv (faV 4 t1) fun t6 =>
  ld false 1 t6 fun t7 =>
  pv (faV 5 t1) fun t8 =>
  ld false 1 t8 fun t9 =>
  pv (faV 3 t1) fun t10 =>
  ld false 1 t10 fun t11 =>
  bth (
   callv Tryz.prog (.func (.func 20) #[] #[]) #[x0, t7, t9] (fun t12 h13 => (ldV h13 false 1 t10 t11) ∧ (ldV h13 false 1 t3 t4) ∧ (
    pv (bdC #[(.int .u8 0), (.int .u32 0), (.int .u32 0), (.slice none 0 0), (.slice none 0 0), (.int .u32 0), (.slice none 0 0), (.int .i64 0), (.int .i64 0), (.slice none 0 0)] [(0, 1), (1, 1), (2, 1), (3, 1), (4, 1), (5, 2), (7, 1), (8, 1), (9, 1)] #[(0, (.int .u8 1)), (1, t5), (4, t12), (3, t11)]) fun t14 =>
    nw 44 [(.int .u8 0), (.int .u32 0), (.int .u32 0), (.slice none 0 0), (.slice none 0 0), (.int .u32 0), (.slice none 0 0), (.int .i64 0), (.int .i64 0), (.slice none 0 0)] (fun t15 h16 => (ldV h16 false 1 t10 t11) ∧ (ldV h16 false 1 t3 t4) ∧ (
     st 10 t15 t14 fun _ =>
     pv (faV 0 t1) fun t17 =>
     ld false 1 t17 fun t18 =>
     pv (binV .none .rem t18 (.int .u8 10)) fun t19 =>
     pv (binV .none .eql t19 (.int .u8 4)) fun t20 =>
     cnd t20 (
      d15 [1, 1, 0, 1, 0, 1] (blk 0 (thenD (d15 [1, 1, 1] (q15 K E)) (q15 K E))) #[x0, x1, U, t1, t2, t15, U, t3, t4, t5, x0, t6, t7, t8, t9, t12, t10, t11, t14, t17, t18, t19, t20, t20, U, U, U, U, U, U, U, U, U, U, U, U, U, U, U, U, U, U, U, U, U, U, U, U, U, U, U, U, U, U, U, U, U, U, U, U, U, U, U, U, U, U, U, U, U, U, U, U, U, U]) (
      pv (binV .none .eql t19 (.int .u8 5)) fun t21 =>
      d15 [1, 1, 0, 1, 0, 1] (blk 0 (thenD (d15 [1, 1, 1] (q15 K E)) (q15 K E))) #[x0, x1, U, t1, t2, t15, U, t3, t4, t5, x0, t6, t7, t8, t9, t12, t10, t11, t14, t17, t18, t19, t21, t20, t21, U, U, U, U, U, U, U, U, U, U, U, U, U, U, U, U, U, U, U, U, U, U, U, U, U, U, U, U, U, U, U, U, U, U, U, U, U, U, U, U, U, U, U, U, U, U, U, U, U])) h16)) h13) E) (
   nw 44 [(.int .u8 0), (.int .u32 0), (.int .u32 0), (.slice none 0 0), (.slice none 0 0), (.int .u32 0), (.slice none 0 0), (.int .i64 0), (.int .i64 0), (.slice none 0 0)] (fun t22 h23 => (ldV h23 false 1 t10 t11) ∧ (ldV h23 false 1 t8 t9) ∧ (ldV h23 false 1 t6 t7) ∧ (ldV h23 false 1 t3 t4) ∧ (
    callv Tryz.prog (.func (.func 20) #[] #[]) #[x0, t7, t9] (fun t24 h25 => (ldV h25 false 1 t10 t11) ∧ (ldV h25 false 1 t3 t4) ∧ (
     pv (bdC #[(.int .u8 0), (.int .u32 0), (.int .u32 0), (.slice none 0 0), (.slice none 0 0), (.int .u32 0), (.slice none 0 0), (.int .i64 0), (.int .i64 0), (.slice none 0 0)] [(0, 1), (1, 1), (2, 1), (3, 1), (4, 1), (5, 2), (7, 1), (8, 1), (9, 1)] #[(0, (.int .u8 1)), (1, t5), (4, t24), (3, t11)]) fun t26 =>
     st 10 t22 t26 fun _ =>
     pv (faV 0 t1) fun t27 =>
     ld false 1 t27 fun t28 =>
     pv (binV .none .rem t28 (.int .u8 10)) fun t29 =>
     pv (binV .none .eql t29 (.int .u8 4)) fun t30 =>
     cnd t30 (
      d15 [1, 1, 0, 1, 0, 1] (blk 0 (thenD (d15 [1, 1, 1] (q15 K E)) (q15 K E))) #[x0, x1, U, t1, t2, t22, U, t3, t4, t5, x0, t6, t7, t8, t9, t24, t10, t11, t26, t27, t28, t29, t30, t30, U, U, U, U, U, U, U, U, U, U, U, U, U, U, U, U, U, U, U, U, U, U, U, U, U, U, U, U, U, U, U, U, U, U, U, U, U, U, U, U, U, U, U, U, U, U, U, U, U, U]) (
      pv (binV .none .eql t29 (.int .u8 5)) fun t31 =>
      d15 [1, 1, 0, 1, 0, 1] (blk 0 (thenD (d15 [1, 1, 1] (q15 K E)) (q15 K E))) #[x0, x1, U, t1, t2, t22, U, t3, t4, t5, x0, t6, t7, t8, t9, t24, t10, t11, t26, t27, t28, t29, t31, t30, t31, U, U, U, U, U, U, U, U, U, U, U, U, U, U, U, U, U, U, U, U, U, U, U, U, U, U, U, U, U, U, U, U, U, U, U, U, U, U, U, U, U, U, U, U, U, U, U, U, U])) h25) E) h23)) := by kernel_rfl
theorem t15_1_1_0_1_0_1 : d15 [1, 1, 0, 1, 0, 1] (blk 0 (thenD (d15 [1, 1, 1] (q15 K E)) (q15 K E))) #[x0, x1, x2, x3, x4, x5, x6, x7, x8, x9, x10, x11, x12, x13, x14, x15, x16, x17, x18, x19, x20, x21, x22, x23, x24, x25, x26, x27, x28, x29, x30, x31, x32, x33, x34, x35, x36, x37, x38, x39, x40, x41, x42, x43, x44, x45, x46, x47, x48, x49, x50, x51, x52, x53, x54, x55, x56, x57, x58, x59, x60, x61, x62, x63, x64, x65, x66, x67, x68, x69, x70, x71, x72, x73] =
  cnd x22 (
   pv (faV 1 x3) fun t1 =>
   ld false 1 t1 fun t2 =>
   pv (binV .none .rem t2 (.int .u32 9)) fun t3 =>
   pv (faV 2 x3) fun t4 =>
   ld false 1 t4 fun t5 =>
   pv (binV .none .rem t5 (.int .u32 40)) fun t6 =>
   pv (bdC #[(.int .u8 0), (.int .u32 0), (.int .u32 0), (.slice none 0 0), (.slice none 0 0), (.int .u32 0), (.slice none 0 0), (.int .i64 0), (.int .i64 0), (.slice none 0 0)] [(0, 1), (1, 1), (2, 1), (3, 1), (4, 1), (5, 2), (7, 1), (8, 1), (9, 1)] #[(0, (.int .u8 2)), (1, t3), (2, t6)]) fun t7 =>
   st 10 x5 t7 fun _ =>
   d15 [1, 1, 1] (q15 K E) #[x0, x1, x2, x3, x4, x5, x6, x7, x8, x9, x10, x11, x12, x13, x14, x15, x16, x17, x18, x19, x20, x21, x22, x23, x24, t1, t2, t3, t4, t5, t6, t7, x32, x33, x34, x35, x36, x37, x38, x39, x40, x41, x42, x43, x44, x45, x46, x47, x48, x49, x50, x51, x52, x53, x54, x55, x56, x57, x58, x59, x60, x61, x62, x63, x64, x65, x66, x67, x68, x69, x70, x71, x72, x73]) (
   pv (binV .none .eql x21 (.int .u8 6)) fun t8 =>
   cnd t8 (
    pv (faV 1 x3) fun t9 =>
    ld false 1 t9 fun t10 =>
    pv (binV .none .rem t10 (.int .u32 9)) fun t11 =>
    pv (bdC #[(.int .u8 0), (.int .u32 0), (.int .u32 0), (.slice none 0 0), (.slice none 0 0), (.int .u32 0), (.slice none 0 0), (.int .i64 0), (.int .i64 0), (.slice none 0 0)] [(0, 1), (1, 1), (2, 1), (3, 1), (4, 1), (5, 2), (7, 1), (8, 1), (9, 1)] #[(0, (.int .u8 3)), (1, t11)]) fun t12 =>
    st 10 x5 t12 fun _ =>
    d15 [1, 1, 1] (q15 K E) #[x0, x1, x2, x3, x4, x5, x6, x7, x8, x9, x10, x11, x12, x13, x14, x15, x16, x17, x18, x19, x20, x21, x22, x23, x24, x25, x26, x27, x28, x29, x30, x31, t8, t8, t9, t10, t11, t12, x38, x39, x40, x41, x42, x43, x44, x45, x46, x47, x48, x49, x50, x51, x52, x53, x54, x55, x56, x57, x58, x59, x60, x61, x62, x63, x64, x65, x66, x67, x68, x69, x70, x71, x72, x73]) (
    pv (binV .none .eql x21 (.int .u8 7)) fun t13 =>
    cnd t13 (
     pv (faV 1 x3) fun t14 =>
     ld false 1 t14 fun t15 =>
     pv (faV 7 x3) fun t16 =>
     ld false 1 t16 fun t17 =>
     pv (bdC #[(.int .u8 0), (.int .u32 0), (.int .u32 0), (.slice none 0 0), (.slice none 0 0), (.int .u32 0), (.slice none 0 0), (.int .i64 0), (.int .i64 0), (.slice none 0 0)] [(0, 1), (1, 1), (2, 1), (3, 1), (4, 1), (5, 2), (7, 1), (8, 1), (9, 1)] #[(0, (.int .u8 7)), (1, t15), (6, (.int .i64 0)), (7, (.int .i64 10000)), (8, t17)]) fun t18 =>
     st 10 x5 t18 fun _ =>
     pv (faV 1 x3) fun t19 =>
     ld false 1 t19 fun t20 =>
     pv (binV .none .rem t20 (.int .u32 2)) fun t21 =>
     pv (binV .none .eql t21 (.int .u32 0)) fun t22 =>
     cnd t22 (
      pv (faV 4 x3) fun t23 =>
      ld false 1 t23 fun t24 =>
      pv (faV 5 x3) fun t25 =>
      ld false 1 t25 fun t26 =>
      callv Tryz.prog (.func (.func 20) #[] #[]) #[x0, t24, t26] (fun t27 =>
      pv (faV 2 x3) fun t28 =>
      ld false 1 t28 fun t29 =>
      pv (binV .none .rem t29 (.int .u32 40)) fun t30 =>
      pv (binV .none .add (.int .u32 1) t30) fun t31 =>
      pv (bdC #[(.int .u32 0), (.slice none 0 0)] [(0, 1), (1, 1)] #[(0, t31), (1, t27)]) fun t32 =>
      nws 74 1 (bsC #[(.int .u32 0), (.slice none 0 0)] 2 1 #[(0, t32)]) fun t33 =>
      pv (faV 9 x5) fun t34 =>
      st 1 t34 t33 fun _ =>
      d15 [1, 1, 1] (q15 K E) #[x0, x1, x2, x3, x4, x5, t27, x7, x8, x9, x10, x11, x12, x13, x14, x15, x16, x17, x18, x19, x20, x21, x22, x23, x24, x25, x26, x27, x28, x29, x30, x31, t8, t8, x34, x35, x36, x37, t13, t13, t14, t15, t16, t17, t18, t19, t20, t21, t22, x0, t23, t24, t25, t26, t27, t28, t29, t30, t31, t27, t32, t33, t34, x63, x64, x65, x66, x67, x68, x69, x70, x71, x72, x73]) E) (
      d15 [1, 1, 1] (q15 K E) #[x0, x1, x2, x3, x4, x5, x6, x7, x8, x9, x10, x11, x12, x13, x14, x15, x16, x17, x18, x19, x20, x21, x22, x23, x24, x25, x26, x27, x28, x29, x30, x31, t8, t8, x34, x35, x36, x37, t13, t13, t14, t15, t16, t17, t18, t19, t20, t21, t22, x49, x50, x51, x52, x53, x54, x55, x56, x57, x58, x59, x60, x61, x62, x63, x64, x65, x66, x67, x68, x69, x70, x71, x72, x73])) (
     pv (binV .none .eql x21 (.int .u8 8)) fun t35 =>
     cnd t35 (
      pv (faV 6 x3) fun t36 =>
      ld false 1 t36 fun t37 =>
      pv (faV 4 x5) fun t38 =>
      st 1 t38 t37 fun _ =>
      d15 [1, 1, 1] (q15 K E) #[x0, x1, x2, x3, x4, x5, x6, x7, x8, x9, x10, x11, x12, x13, x14, x15, x16, x17, x18, x19, x20, x21, x22, x23, x24, x25, x26, x27, x28, x29, x30, x31, t8, t8, x34, x35, x36, x37, t13, t13, x40, x41, x42, x43, x44, x45, x46, x47, x48, x49, x50, x51, x52, x53, x54, x55, x56, x57, x58, x59, x60, x61, x62, t35, t35, t36, t37, t38, x68, x69, x70, x71, x72, x73]) (
      pv (binV .none .eql x21 (.int .u8 9)) fun t39 =>
      cnd t39 (
       pv (faV 1 x3) fun t40 =>
       ld false 1 t40 fun t41 =>
       pv (bdC #[(.int .u8 0), (.int .u32 0), (.int .u32 0), (.slice none 0 0), (.slice none 0 0), (.int .u32 0), (.slice none 0 0), (.int .i64 0), (.int .i64 0), (.slice none 0 0)] [(0, 1), (1, 1), (2, 1), (3, 1), (4, 1), (5, 2), (7, 1), (8, 1), (9, 1)] #[(0, (.int .u8 5)), (1, t41)]) fun t42 =>
       st 10 x5 t42 fun _ =>
       d15 [1, 1, 1] (q15 K E) #[x0, x1, x2, x3, x4, x5, x6, x7, x8, x9, x10, x11, x12, x13, x14, x15, x16, x17, x18, x19, x20, x21, x22, x23, x24, x25, x26, x27, x28, x29, x30, x31, t8, t8, x34, x35, x36, x37, t13, t13, x40, x41, x42, x43, x44, x45, x46, x47, x48, x49, x50, x51, x52, x53, x54, x55, x56, x57, x58, x59, x60, x61, x62, t35, t35, x65, x66, x67, t39, t39, t40, t41, t42, x73]) (
       d15 [1, 1, 1] (q15 K E) #[x0, x1, x2, x3, x4, x5, x6, x7, x8, x9, x10, x11, x12, x13, x14, x15, x16, x17, x18, x19, x20, x21, x22, x23, x24, x25, x26, x27, x28, x29, x30, x31, t8, t8, x34, x35, x36, x37, t13, t13, x40, x41, x42, x43, x44, x45, x46, x47, x48, x49, x50, x51, x52, x53, x54, x55, x56, x57, x58, x59, x60, x61, x62, t35, t35, x65, x66, x67, t39, t39, x70, x71, x72, x73]))))) := by kernel_rfl
theorem t15_1_1_1 : d15 [1, 1, 1] (q15 K E) #[x0, x1, x2, x3, x4, x5, x6, x7, x8, x9, x10, x11, x12, x13, x14, x15, x16, x17, x18, x19, x20, x21, x22, x23, x24, x25, x26, x27, x28, x29, x30, x31, x32, x33, x34, x35, x36, x37, x38, x39, x40, x41, x42, x43, x44, x45, x46, x47, x48, x49, x50, x51, x52, x53, x54, x55, x56, x57, x58, x59, x60, x61, x62, x63, x64, x65, x66, x67, x68, x69, x70, x71, x72, x73] =
  ld true 10 x5 fun t1 =>
  st 10 x4 t1 fun _ =>
  ld true 10 x4 fun t2 =>
  K t2 := by kernel_rfl
abbrev q22 : QD := bodyQ Tryz.prog Tryz.f22.results.toList K E
abbrev d22 (p : List Nat) : QD → Env → Hp → Prop := den Tryz.prog (sel (bodyOf Tryz.f22) p)
def m22_1_1_0_1_0_0 (j : Nat → Value) : Env := #[x0, x1, x2, x3, (j 4), v5, x6, x7, x8, x9, x10, (j 11), (j 12), (j 13), (j 14), (j 15), (j 16), (j 17), (j 18), (j 19), (j 20), (j 21), (j 22), (j 23), (j 24), (j 25)]
theorem t22 : d22 [] (q22 K E) #[x0, x1, U, U, U, U, U, U, U, U, U, U, U, U, U, U, U, U, U, U, U, U, U, U, U, U] =
  pv (lenV x0) fun t1 =>
  pv (lenV x1) fun t2 =>
  pv (binV .none .neq t1 t2) fun t3 =>
  cnd t3 (
   K (.bool false)) (
   lp (fun k1 => d22 [1, 1, 0, 1, 0, 0] (thenD k1 (blk 0 (thenD (d22 [1, 1, 1] (q22 K E)) (q22 K E))))) (m22_1_1_0_1_0_0 x0 x1 U U x0 t1 x1 t2 t3 (.int .i64 0) (jf #[U, U, U, U, (.bool false)]))) := by kernel_rfl
theorem t22_1_1_0_1_0_0 : d22 [1, 1, 0, 1, 0, 0] (thenD k1 (blk 0 (thenD (d22 [1, 1, 1] (q22 K E)) (q22 K E)))) (m22_1_1_0_1_0_0 x0 x1 x2 x3 x6 x7 x8 x9 x10 v5 j) =
  pv (lenV x0) fun t1 =>
  pv (binV .none .lss v5 t1) fun t2 =>
  cnd t2 (
   pv (iaV none 1 x0 v5) fun t3 =>
   ld false 1 t3 fun t4 =>
   pv (iaV none 1 x1 v5) fun t5 =>
   ld false 1 t5 fun t6 =>
   pv (binV .none .neq t4 t6) fun t7 =>
   cnd t7 (
    K (.bool false)) (
    pv (binV .none .add v5 (.int .i64 1)) fun t8 =>
    k1 (m22_1_1_0_1_0_0 x0 x1 x2 x3 x6 x7 x8 x9 x10 t8 (jf #[U, U, U, U, (j 4), U, U, U, U, U, U, v5, x0, t1, t2, v5, t8, x0, v5, t3, t4, x1, v5, t5, t6, t7])))) (
   K (.bool true)) := by kernel_rfl
end
section
variable {K : Kont} {E : PanK} {k1 k2 k3 k4 k5 : Env → Hp → Prop} {σ : Type} {x0 x1 x2 x3 x4 x5 x6 x7 x8 x9 x10 x11 x12 x13 x14 x15 x16 x17 x18 x19 x20 x21 x22 x23 x24 x25 x26 x27 x28 x29 x30 x31 x32 x33 x34 x35 x36 x37 x38 x39 x40 x41 x42 x43 x44 x45 x46 x47 x48 x49 x50 x51 x52 x53 x54 x55 x56 x57 x58 x59 x60 x61 x62 x63 x64 x65 x66 x67 x68 x69 x70 x71 x72 x73 x74 x75 x76 v0 v1 v2 v3 v4 v5 v6 v7 v8 v9 v10 v11 v12 v13 v14 v15 v16 v17 v18 v19 v20 v21 v22 v23 v24 v25 v26 v27 v28 v29 v30 v31 v32 v33 v34 v35 v36 v37 v38 v39 v40 v41 v42 v43 v44 v45 v46 v47 v48 v49 v50 v51 v52 v53 v54 v55 v56 v57 v58 v59 v60 v61 v62 v63 v64 v65 v66 v67 v68 v69 v70 v71 v72 v73 v74 v75 v76 : Value} {h : Hp} {j : Nat → Value}
theorem l10_1_1_0_1_0_0 (f3 f4 : σ → Value) (I : σ → Hp → Prop) (μ : σ → Nat) (s0 : σ) (e3 : v3 = f3 s0) (e4 : v4 = f4 s0) (h0 : h.wf → ∃ h', h.wk h' ∧ I s0 h')
 (round : ∀ (k1 : Env → Hp → Prop) (s : σ) (j : Nat → Value) (h : Hp), I s h → h.wf → (∀ s' j' h', μ s' < μ s → (h'.wf → ∃ h'', h'.wk h'' ∧ I s' h'') → k1 (m10_1_1_0_1_0_0 x0 x1 x2 x58 (f3 s') (f4 s') j') h') → d10 [1, 1, 0, 1, 0, 0] (thenD k1 (blk 0 (thenD (d10 [1, 1, 1] (q10 K E)) (q10 K E)))) (m10_1_1_0_1_0_0 x0 x1 x2 x58 (f3 s) (f4 s) j) h) :
 lp (fun k1 => d10 [1, 1, 0, 1, 0, 0] (thenD k1 (blk 0 (thenD (d10 [1, 1, 1] (q10 K E)) (q10 K E))))) (m10_1_1_0_1_0_0 x0 x1 x2 x58 v3 v4 j) h := by
 subst e3
 subst e4
 exact loop_r (fun s j => m10_1_1_0_1_0_0 x0 x1 x2 x58 (f3 s) (f4 s) j) I μ round s0 j h0
theorem l10_1_1_0_1_0_0_1_0_0_1_1_0_0 (f3 f5 : σ → Value) (I : σ → Hp → Prop) (μ : σ → Nat) (s0 : σ) (e3 : v3 = f3 s0) (e5 : v5 = f5 s0) (h0 : h.wf → ∃ h', h.wk h' ∧ I s0 h')
 (round : ∀ (k2 : Env → Hp → Prop) (s : σ) (j : Nat → Value) (h : Hp), I s h → h.wf → (∀ s' j' h', μ s' < μ s → (h'.wf → ∃ h'', h'.wk h'' ∧ I s' h'') → k2 (m10_1_1_0_1_0_0_1_0_0_1_1_0_0 x0 x1 x2 x4 x6 x7 x8 x9 x10 x11 x12 x13 x14 x15 x16 x17 x18 x19 x20 x21 x22 x23 x24 x25 x26 x27 x28 x29 x30 x31 x32 x33 x34 x58 (f3 s') (f5 s') j') h') → d10 [1, 1, 0, 1, 0, 0, 1, 0, 0, 1, 1, 0, 0] (thenD k2 (blk 2 (blk 1 (thenD (d10 [1, 1, 0, 1, 0, 0, 1, 1] (thenD k1 (blk 0 (thenD (d10 [1, 1, 1] (q10 K E)) (q10 K E))))) (thenD k1 (blk 0 (thenD (d10 [1, 1, 1] (q10 K E)) (q10 K E)))))))) (m10_1_1_0_1_0_0_1_0_0_1_1_0_0 x0 x1 x2 x4 x6 x7 x8 x9 x10 x11 x12 x13 x14 x15 x16 x17 x18 x19 x20 x21 x22 x23 x24 x25 x26 x27 x28 x29 x30 x31 x32 x33 x34 x58 (f3 s) (f5 s) j) h) :
 lp (fun k2 => d10 [1, 1, 0, 1, 0, 0, 1, 0, 0, 1, 1, 0, 0] (thenD k2 (blk 2 (blk 1 (thenD (d10 [1, 1, 0, 1, 0, 0, 1, 1] (thenD k1 (blk 0 (thenD (d10 [1, 1, 1] (q10 K E)) (q10 K E))))) (thenD k1 (blk 0 (thenD (d10 [1, 1, 1] (q10 K E)) (q10 K E))))))))) (m10_1_1_0_1_0_0_1_0_0_1_1_0_0 x0 x1 x2 x4 x6 x7 x8 x9 x10 x11 x12 x13 x14 x15 x16 x17 x18 x19 x20 x21 x22 x23 x24 x25 x26 x27 x28 x29 x30 x31 x32 x33 x34 x58 v3 v5 j) h := by
 subst e3
 subst e5
 exact loop_r (fun s j => m10_1_1_0_1_0_0_1_0_0_1_1_0_0 x0 x1 x2 x4 x6 x7 x8 x9 x10 x11 x12 x13 x14 x15 x16 x17 x18 x19 x20 x21 x22 x23 x24 x25 x26 x27 x28 x29 x30 x31 x32 x33 x34 x58 (f3 s) (f5 s) j) I μ round s0 j h0
theorem l22_1_1_0_1_0_0 (f5 : σ → Value) (I : σ → Hp → Prop) (μ : σ → Nat) (s0 : σ) (e5 : v5 = f5 s0) (h0 : h.wf → ∃ h', h.wk h' ∧ I s0 h')
 (round : ∀ (k1 : Env → Hp → Prop) (s : σ) (j : Nat → Value) (h : Hp), I s h → h.wf → (∀ s' j' h', μ s' < μ s → (h'.wf → ∃ h'', h'.wk h'' ∧ I s' h'') → k1 (m22_1_1_0_1_0_0 x0 x1 x2 x3 x6 x7 x8 x9 x10 (f5 s') j') h') → d22 [1, 1, 0, 1, 0, 0] (thenD k1 (blk 0 (thenD (d22 [1, 1, 1] (q22 K E)) (q22 K E)))) (m22_1_1_0_1_0_0 x0 x1 x2 x3 x6 x7 x8 x9 x10 (f5 s) j) h) :
 lp (fun k1 => d22 [1, 1, 0, 1, 0, 0] (thenD k1 (blk 0 (thenD (d22 [1, 1, 1] (q22 K E)) (q22 K E))))) (m22_1_1_0_1_0_0 x0 x1 x2 x3 x6 x7 x8 x9 x10 v5 j) h := by
 subst e5
 exact loop_r (fun s j => m22_1_1_0_1_0_0 x0 x1 x2 x3 x6 x7 x8 x9 x10 (f5 s) j) I μ round s0 j h0
end
end Go.Proofs.YtgcmbkoejjcjlaaGreatDoor.T
open Go Go.RowKit Go.Proofs.YtgcmbkoejjcjlaaGreatDoor.K Go.Proofs.YtgcmbkoejjcjlaaGreatDoor.T
set_option linter.unusedVariables false
set_option linter.unusedSimpArgs false
namespace Go.Proofs.YtgcmbkoejjcjlaaGreatDoor.A
variable {F F' : Nat → Option (List Value)} {M M' : Nat → Option Chunk} {N N' : Nat} {K : Kont} {E : PanK}
def r14a : RecA := ⟨1, 7, 0, [0], [([1], 4)], 0, 0, []⟩
def r14b : RecA := ⟨2, 7, 3, [], [], 0, 0, []⟩
def b14a : Bts := [(7, ⟨1, 0, [0], [([1], 4)]⟩)]
def b14b : Bts := [(7, ⟨2, 3, [], []⟩)]
def l14 : List Dm := [(5, [])]
def h14 : List En := [(3, [([1], 4)])]
theorem k14a : apE l14 [] [] 0 r14a = 0 ∧ apH l14 [] [] 0 r14a = [] ∧ apS l14 [] [] r14a = b14a ∧ apT l14 [] 0 r14a = 0 := ⟨by kernel_rfl, by kernel_rfl, by kernel_rfl, by kernel_rfl⟩
theorem k14b : apE l14 [] b14a 0 r14b = 0 ∧ apH l14 [] b14a 0 r14b = h14 ∧ apS l14 [] b14a r14b = b14b ∧ apT l14 [] 0 r14b = 0 := ⟨by kernel_rfl, by kernel_rfl, by kernel_rfl, by kernel_rfl⟩
theorem k14q : allI h14 (upTo h14 3) = [([1], 4)] ∧ tab ([([1], 4)].map fr1) = [([1], ⟨1, 4, 4, 4⟩)] ∧ runE l14 [([1], ⟨1, 4, 4, 4⟩)] [0] [0] [5] = 0 ∧ runT l14 [([1], ⟨1, 4, 4, 4⟩)] [0] [0] [5] = [([1], ⟨1, 4, 4, 4⟩)] := by decide +kernel
theorem ok14a : RecA.ok r14a := ⟨by decide, by decide, by decide, by decide, by decide, by simp [r14a]⟩
theorem ok14b : RecA.ok r14b := ⟨by decide, by decide, by decide, by decide, by decide, by simp [r14b]⟩
theorem waits_a {ws : List Int} (h : waits b14a ws) : ws = [7] := by
  refine rises_ext h.1 (List.pairwise_singleton _ _) fun x => ?_
  rw [h.2, List.mem_singleton, hasB_iff]
  constructor
  · rintro ⟨⟨y, hy, e⟩, _⟩
    rw [← e]
    simp [b14a] at hy
    rw [hy]
  · rintro rfl
    exact ⟨⟨_, List.mem_cons_self, rfl⟩, by decide⟩
theorem waits_b {ws : List Int} (h : waits b14b ws) : ws = [] := by
  refine List.eq_nil_iff_forall_not_mem.2 fun x hx => ?_
  obtain ⟨h1, h2⟩ := (h.2 x).1 hx
  obtain ⟨y, hy, e⟩ := hasB_iff.1 h1
  simp [b14b] at hy
  rw [hy] at e
  simp only at e
  subst e
  exact absurd h2 (by decide)
set_option maxRecDepth 10000 in
set_option maxHeartbeats 8000000 in
theorem known14_c (hE : E [] badH) (k : ∀ F' N', subF F F' → N ≤ N' → (Hp.mk F' M N').wf → K (.bool true) ⟨F', M, N'⟩) : callv Tryz.prog (.func (.func 11) #[] #[]) #[] K E ⟨F, M, N⟩ := by
  refine callv_of_text mixed Tryz.func11 (by kernel_rfl) (t11 _ E) (fun hw => ?_)
  have hm : clean M N := hw.m
  refine pv_r (v := .agg #[.int .i64 5, .slice none 0 0]) (by kernel_rfl) ?_
  refine nws_r (cs := [.int .i64 5, .slice none 0 0]) (by kernel_rfl) (fun b2 hb2 => ?_)
  refine callv_go (fun hc => ⟨_, frz_wf hm (fun q hq => upd_ne _ _ (by omega)) hc, ?_⟩)
  have hs0 := subF_frzAll (N := N) hc
  have f2 := frz_at (F := F) (N := N) (b := b2) (by omega) (upd_same M b2 (some (.cells 88 [.int .i64 5, .slice none 0 0] [Value.int .i64 5, .slice none 0 0].length)))
  generalize frzAll F _ N = F0 at *
  clear hc
  have hd1 : dimD F0 [.int .i64 5, .slice none 0 0] (5, []) := ⟨_, rfl, sF.nil _ _ _, by decide⟩
  have hd : dimsD F0 (.slice (some ⟨b2, 0, none⟩) 1 1) l14 := ⟨[[.int .i64 5, .slice none 0 0]], sF_lit f2 rfl (by decide), rowsF_snoc1 (rowsF.nil (dimD F0) 2) hd1.one hd1⟩
  refine pnew_c hd (by decide) (fun h => absurd h (by decide)) (fun _ p g mb dv F1 M1 N1 hF1 P1 hM1 hN1 hm1 hw1 => ?_)
  refine ptr_ne ?_
  try simp only [sS]
  refine nws_r (cs := [.int .i64 0]) (by kernel_rfl) (fun b5 hb5 => ?_)
  refine nws_r (cs := [.int .i64 1]) (by kernel_rfl) (fun b6 hb6 => ?_)
  refine pv_r (v := .agg #[.slice (some ⟨b6, 0, none⟩) 1 1, .int .i64 4]) (by kernel_rfl) ?_
  refine nws_r (cs := [.slice (some ⟨b6, 0, none⟩) 1 1, .int .i64 4]) (by kernel_rfl) (fun b8 hb8 => ?_)
  refine pv_r (v := .agg #[.int .u8 1, .int .u32 7, .int .u32 0, .slice (some ⟨b5, 0, none⟩) 1 1, .slice (some ⟨b8, 0, none⟩) 1 1, .int .u32 0, .slice none 0 0, .int .i64 0, .int .i64 0, .slice none 0 0]) (by kernel_rfl) ?_
  generalize hMx : upd (upd (upd M1 b5 _) b6 _) b8 _ = Mx
  have x5 : Mx b5 = some (.cells 3 [.int .i64 0] 1) := by rw [← hMx]; exact (upd_ne _ _ (by omega)).trans ((upd_ne _ _ (by omega)).trans (upd_same _ _ _))
  have x6 : Mx b6 = some (.cells 3 [.int .i64 1] 1) := by rw [← hMx]; exact (upd_ne _ _ (by omega)).trans (upd_same _ _ _)
  have x8 : Mx b8 = some (.cells 90 [.slice (some ⟨b6, 0, none⟩) 1 1, .int .i64 4] 2) := by rw [← hMx]; exact upd_same _ _ _
  have hMx1 : ∀ q, q < N1 → Mx q = M1 q := fun q hq => by rw [← hMx]; exact (upd_ne _ _ (by omega)).trans ((upd_ne _ _ (by omega)).trans (upd_ne _ _ (by omega)))
  clear hMx
  refine callv_go (fun hc => ⟨_, frz_wf hm1 hMx1 hc, ?_⟩)
  have hs2 := subF_frzAll (N := N1) hc
  have y5 := frz_at (F := F1) (N := N1) (b := b5) (by omega) x5
  have y6 := frz_at (F := F1) (N := N1) (b := b6) (by omega) x6
  have y8 := frz_at (F := F1) (N := N1) (b := b8) (by omega) x8
  generalize frzAll F1 Mx N1 = F2 at *
  clear hc x5 x6 x8 hMx1 Mx
  have hr1 : recD F2 [.int .u8 1, .int .u32 7, .int .u32 0, .slice (some ⟨b5, 0, none⟩) 1 1, .slice (some ⟨b8, 0, none⟩) 1 1, .int .u32 0, .slice none 0 0, .int .i64 0, .int .i64 0, .slice none 0 0] r14a :=
    ⟨_, _, _, _, _, rfl, int1 y5, one_fact y6 y8, entsD.nil, rfl, rfl⟩
  obtain ⟨a1, a2, a3, a4⟩ := k14a
  refine papply_c (P1.keep (M' := M1) hs2 (fun _ _ => rfl)) (by omega) (okH.nil _ _ _) (by decide) hr1 ok14a (by decide) (fun hv3 F3 M3 N3 rows3 hF3 P3 hM3 hN3 hm3 hw3 => ?_)
  rw [a1]
  rw [a2, a3, a4] at P3
  refine nws_r (cs := [.int .i64 0]) (by kernel_rfl) (fun b13 hb13 => ?_)
  refine nws_r (cs := [.int .i64 0]) (by kernel_rfl) (fun b14 hb14 => ?_)
  refine nws_r (cs := [.int .i64 5]) (by kernel_rfl) (fun b15 hb15 => ?_)
  refine pv_r (v := .agg #[.slice (some ⟨b13, 0, none⟩) 1 1, .slice (some ⟨b14, 0, none⟩) 1 1, .slice (some ⟨b15, 0, none⟩) 1 1]) (by kernel_rfl) ?_
  refine nw_r (fun b17 hb17 => ?_)
  refine stM (cs' := [.slice (some ⟨b13, 0, none⟩) 1 1, .slice (some ⟨b14, 0, none⟩) 1 1, .slice (some ⟨b15, 0, none⟩) 1 1]) ?_
  rw [upd_upd]
  refine ldMa (vs := [.slice (some ⟨b13, 0, none⟩) 1 1, .slice (some ⟨b14, 0, none⟩) 1 1, .slice (some ⟨b15, 0, none⟩) 1 1]) ?_
  generalize hM7 : upd (upd (upd (upd M3 b13 _) b14 _) b15 _) b17 _ = M7
  have g17 : M7 b17 = some (.cells 55 [.slice (some ⟨b13, 0, none⟩) 1 1, .slice (some ⟨b14, 0, none⟩) 1 1, .slice (some ⟨b15, 0, none⟩) 1 1] 3) := by rw [← hM7]; exact upd_same _ _ _
  have g15 : M7 b15 = some (.cells 3 [.int .i64 5] 1) := by rw [← hM7]; exact (upd_ne _ _ (by omega)).trans (upd_same _ _ _)
  have g14 : M7 b14 = some (.cells 3 [.int .i64 0] 1) := by rw [← hM7]; exact (upd_ne _ _ (by omega)).trans ((upd_ne _ _ (by omega)).trans (upd_same _ _ _))
  have g13 : M7 b13 = some (.cells 3 [.int .i64 0] 1) := by rw [← hM7]; exact (upd_ne _ _ (by omega)).trans ((upd_ne _ _ (by omega)).trans ((upd_ne _ _ (by omega)).trans (upd_same _ _ _)))
  have hM75 : ∀ q, q < N3 → M7 q = M3 q := fun q hq => by rw [← hM7]; exact (upd_ne _ _ (by omega)).trans ((upd_ne _ _ (by omega)).trans ((upd_ne _ _ (by omega)).trans (upd_ne _ _ (by omega))))
  have hm7 : clean M7 (b17 + 1) := by rw [← hM7]; exact (((hm3.new hb13 _).new hb14 _).new hb15 _).new hb17 _
  clear hM7
  obtain ⟨N7, hN7⟩ : ∃ n, n = b17 + 1 := ⟨_, rfl⟩
  rw [← hN7] at hm7 ⊢
  refine callv_go (fun hc => ⟨_, wk_P (p := fun q => q = b13 ∨ q = b14 ∨ q = b15) hc, ?_⟩)
  have hs8 := subF_frzP (p := fun q => q = b13 ∨ q = b14 ∨ q = b15) hc
  have f13 := frzP_at (F := F3) (p := fun q => q = b13 ∨ q = b14 ∨ q = b15) (.inl rfl) g13
  have f14 := frzP_at (F := F3) (p := fun q => q = b13 ∨ q = b14 ∨ q = b15) (.inr (.inl rfl)) g14
  have f15 := frzP_at (F := F3) (p := fun q => q = b13 ∨ q = b14 ∨ q = b15) (.inr (.inr rfl)) g15
  have g17' : keepM M7 (fun q => ¬ (q = b13 ∨ q = b14 ∨ q = b15)) b17 = _ := (keepM_in (by omega)).trans g17
  have hM85 : ∀ q, q < N3 → keepM M7 (fun q => ¬ (q = b13 ∨ q = b14 ∨ q = b15)) q = M3 q := fun q hq => (keepM_in (by omega)).trans (hM75 q hq)
  have hm8 := keepM_clean (p := fun q => ¬ (q = b13 ∨ q = b14 ∨ q = b15)) hm7
  generalize frzP F3 M7 _ = F8 at *
  generalize keepM M7 _ = M8 at *
  have hq : queryD F8 [.slice (some ⟨b13, 0, none⟩) 1 1, .slice (some ⟨b14, 0, none⟩) 1 1, .slice (some ⟨b15, 0, none⟩) 1 1] [0] [0] [5] := ⟨_, _, _, rfl, int1 f13, int1 f14, int1 f15, by decide, by decide, by decide⟩
  have P8 := P3.up (M' := M8) hm3 hs8 hM85
  obtain ⟨q1, q2, q3, q4⟩ := k14q
  refine pquery_c hE P8 (by decide) (by decide) (by decide) (by decide) (by simp) hq (by simp [i64]) (by simp [allI, tab]) (fun ws F9 N9 h0 hws hw9 hF9 hN9 => ?_) (fun h0 => absurd (waits_a h0) (by simp))
  try simp only [sS]
  refine pwait_c hE (P8.keep (M' := M8) hF9 (fun _ _ => rfl)) (by decide) (fun u10 ws2 F10 N10 hw10 hF10 hN10 hws2 hs10 => ?_)
  rw [waits_a hws2] at hs10
  refine lenF_r hs10 ?_
  refine pv_r (v := .agg #[.int .u8 2, .int .u32 7, .int .u32 3, .slice none 0 0, .slice none 0 0, .int .u32 0, .slice none 0 0, .int .i64 0, .int .i64 0, .slice none 0 0]) (by kernel_rfl) ?_
  have hr2 : recD F10 [.int .u8 2, .int .u32 7, .int .u32 3, .slice none 0 0, .slice none 0 0, .int .u32 0, .slice none 0 0, .int .i64 0, .int .i64 0, .slice none 0 0] r14b :=
    ⟨_, _, _, _, _, rfl, sF.nil _ _ _, fctsD.nil, entsD.nil, rfl, rfl⟩
  obtain ⟨c1, c2, c3, c4⟩ := k14b
  have hF810 := hF9.trans hF10
  refine papply_c (P8.keep (M' := M8) hF810 (fun _ _ => rfl)) (by omega) (okH.nil _ _ _) (by decide) hr2 ok14b (by decide) (fun hv11 F11 M11 N11 rows11 hF11 P11 hM11 hN11 hm11 hw11 => ?_)
  rw [c1]
  rw [c2, c3, c4] at P11
  have hpl3 := P3.lt hm3
  have g17b := (hM11 b17 (fun e => by have := (hpl3 b17 (.inr (.inr (.inr e)))).2; omega) (fun e => by have := (hpl3 g (.inr (.inr (.inl rfl)))).2; omega) (fun e => by have := (hpl3 mb (.inr (.inl rfl))).2; omega) (fun e => by have := (hpl3 p (.inl rfl)).2; omega) (by omega)).1.trans g17'
  refine ldMa (vs := [.slice (some ⟨b13, 0, none⟩) 1 1, .slice (some ⟨b14, 0, none⟩) 1 1, .slice (some ⟨b15, 0, none⟩) 1 1]) ?_ g17b
  refine pquery_c hE P11 (by decide) (by decide) (by decide) (by decide) (by simp [h14, okK, i64]) (hq.mono (hF810.trans hF11)) (by simp [i64]) (by rw [q1, q2]; simp [okK, i64]) (fun ws F12 N12 h0 hws => by rw [waits_b hws] at h0; simp at h0) (fun _ u12 F12 N12 hw12 hF12 hN12 h12 => ?_)
  rw [q1, q2, q3]
  rw [q1, q2, q4] at h12
  obtain ⟨p12, h12a, h12b⟩ := h12
  try simp only [sS]
  refine eql_t rfl ?_
  try simp only [sS]
  refine eql_t rfl ?_
  try simp only [sS]
  refine eql_t rfl ?_
  try simp only [sS]
  refine eql_t rfl ?_
  try simp only [sS]
  refine eql_t rfl ?_
  try simp only [sS]
  refine lenF_r h12a (eql_t rfl ?_)
  try simp only [sS]
  refine pstatus_c (id := 7) (P11.keep (M' := M11) hF12 (fun _ _ => rfl)) (fun N13 hN13 hw13 => ?_)
  refine pv_r (v := .agg #[.int .u8 2, .int .u32 3]) (by kernel_rfl) ?_
  refine pv_r (v := .bool true) (by kernel_rfl) ?_
  try simp only [sS]
  refine pnew_c (l := []) ⟨[], sF.nil _ _ _, rowsF.nil _ _⟩ (by decide) (fun _ N14 hN14 hw14 => ?_) (fun h => absurd h (by decide))
  refine pv_r (v := .bool true) rfl ?_
  try simp only [sS]
  have hpl1 := P1.lt hm1
  have hge1 : ∀ q, q = p ∨ q = mb ∨ q = g → N ≤ q := fun q hq => by have := (hpl1 q (by rcases hq with h | h | h; exact .inl h; exact .inr (.inl h); exact .inr (.inr (.inl h)))).1; omega
  have hX : ∀ q, q < N → M11 q = M q := fun q hq => by
    have np : q ≠ p := fun e => by have := hge1 p (.inl rfl); omega
    have nmb : q ≠ mb := fun e => by have := hge1 mb (.inr (.inl rfl)); omega
    have ng : q ≠ g := fun e => by have := hge1 g (.inr (.inr rfl)); omega
    have n3 : hv3.ownBlock ≠ some q := fun e => by have := (hpl3 q (.inr (.inr (.inr e)))).1; omega
    rw [(hM11 q n3 ng nmb np (by omega)).1, hM85 q (by omega), (hM3 q (by simp [Value.ownBlock]) ng nmb np (by omega)).1, hM1 q (by omega)]
  exact fun hc => ⟨_, frz_wf hm hX hc, fun hw' => k _ _ ((((((hs0.trans hF1).trans hs2).trans hF3).trans hs8).trans hF810).trans ((hF11.trans hF12).trans (subF_frzAll hc))) (by omega) hw'⟩
end Go.Proofs.YtgcmbkoejjcjlaaGreatDoor.A
open Go Go.RowKit Go.Proofs.YtgcmbkoejjcjlaaGreatDoor.K
set_option linter.unusedVariables false
set_option maxRecDepth 100000
namespace Go.Proofs.YtgcmbkoejjcjlaaGreatDoor.T
section
variable (K : Kont) (E : PanK) (k1 k2 k3 k4 k5 : Env → Hp → Prop) (x0 x1 x2 x3 x4 x5 x6 x7 x8 x9 x10 x11 x12 x13 x14 x15 x16 x17 x18 x19 x20 x21 x22 x23 x24 x25 x26 x27 x28 x29 x30 x31 x32 x33 x34 x35 x36 x37 x38 x39 x40 x41 x42 x43 x44 x45 x46 x47 x48 x49 x50 x51 x52 x53 x54 x55 x56 x57 x58 x59 x60 x61 x62 x63 x64 x65 x66 x67 x68 x69 x70 x71 x72 x73 x74 x75 x76 x77 x78 x79 x80 x81 x82 x83 x84 x85 x86 x87 x88 x89 x90 x91 x92 x93 x94 x95 x96 x97 x98 x99 x100 x101 x102 x103 x104 x105 x106 x107 x108 x109 x110 x111 x112 x113 x114 x115 x116 x117 x118 x119 x120 x121 x122 x123 v0 v1 v2 v3 v4 v5 v6 v7 v8 v9 v10 v11 v12 v13 v14 v15 v16 v17 v18 v19 v20 v21 v22 v23 v24 v25 v26 v27 v28 v29 v30 v31 v32 v33 v34 v35 v36 v37 v38 v39 v40 v41 v42 v43 v44 v45 v46 v47 v48 v49 v50 v51 v52 v53 v54 v55 v56 v57 v58 v59 v60 v61 v62 v63 v64 v65 v66 v67 v68 v69 v70 v71 v72 v73 v74 v75 v76 v77 v78 v79 v80 v81 v82 v83 v84 v85 v86 v87 v88 v89 v90 v91 v92 v93 v94 v95 v96 v97 v98 v99 v100 v101 v102 v103 v104 v105 v106 v107 v108 v109 v110 v111 v112 v113 v114 v115 v116 v117 v118 v119 v120 v121 v122 v123 : Value) (j : Nat → Value)
abbrev q7 : QD := bodyQ Tryz.prog Tryz.f7.results.toList K E
abbrev d7 (p : List Nat) : QD → Env → Hp → Prop := den Tryz.prog (sel (bodyOf Tryz.f7) p)
end
section
variable {K : Kont} {E : PanK} {k1 k2 k3 k4 k5 : Env → Hp → Prop} {σ : Type} {x0 x1 x2 x3 x4 x5 x6 x7 x8 x9 x10 x11 x12 x13 x14 x15 x16 x17 x18 x19 x20 x21 x22 x23 x24 x25 x26 x27 x28 x29 x30 x31 x32 x33 x34 x35 x36 x37 x38 x39 x40 x41 x42 x43 x44 x45 x46 x47 x48 x49 x50 x51 x52 x53 x54 x55 x56 x57 x58 x59 x60 x61 x62 x63 x64 x65 x66 x67 x68 x69 x70 x71 x72 x73 x74 x75 x76 x77 x78 x79 x80 x81 x82 x83 x84 x85 x86 x87 x88 x89 x90 x91 x92 x93 x94 x95 x96 x97 x98 x99 x100 x101 x102 x103 x104 x105 x106 x107 x108 x109 x110 x111 x112 x113 x114 x115 x116 x117 x118 x119 x120 x121 x122 x123 v0 v1 v2 v3 v4 v5 v6 v7 v8 v9 v10 v11 v12 v13 v14 v15 v16 v17 v18 v19 v20 v21 v22 v23 v24 v25 v26 v27 v28 v29 v30 v31 v32 v33 v34 v35 v36 v37 v38 v39 v40 v41 v42 v43 v44 v45 v46 v47 v48 v49 v50 v51 v52 v53 v54 v55 v56 v57 v58 v59 v60 v61 v62 v63 v64 v65 v66 v67 v68 v69 v70 v71 v72 v73 v74 v75 v76 v77 v78 v79 v80 v81 v82 v83 v84 v85 v86 v87 v88 v89 v90 v91 v92 v93 v94 v95 v96 v97 v98 v99 v100 v101 v102 v103 v104 v105 v106 v107 v108 v109 v110 v111 v112 v113 v114 v115 v116 v117 v118 v119 v120 v121 v122 v123 : Value} {h : Hp} {j : Nat → Value}
end
end Go.Proofs.YtgcmbkoejjcjlaaGreatDoor.T
open Go Go.RowKit Go.Proofs.YtgcmbkoejjcjlaaGreatDoor.K Go.Proofs.YtgcmbkoejjcjlaaGreatDoor.T
set_option linter.unusedVariables false
set_option linter.unusedSimpArgs false
namespace Go.Proofs.YtgcmbkoejjcjlaaGreatDoor.A
variable {F F' : Nat → Option (List Value)} {M M' : Nat → Option Chunk} {N N' : Nat} {K : Kont} {E : PanK}
end Go.Proofs.YtgcmbkoejjcjlaaGreatDoor.A
open Go Go.RowKit Go.Proofs.YtgcmbkoejjcjlaaGreatDoor.K Go.Proofs.YtgcmbkoejjcjlaaGreatDoor.T
set_option linter.unusedVariables false
set_option linter.unusedSimpArgs false
namespace Go.Proofs.YtgcmbkoejjcjlaaGreatDoor.A
variable {F F' : Nat → Option (List Value)} {M M' : Nat → Option Chunk} {N N' : Nat} {K : Kont} {E : PanK}
end Go.Proofs.YtgcmbkoejjcjlaaGreatDoor.A
open Go Go.RowKit Go.Proofs.YtgcmbkoejjcjlaaGreatDoor.K
set_option linter.unusedVariables false
set_option maxRecDepth 100000
namespace Go.Proofs.YtgcmbkoejjcjlaaGreatDoor.T
section
variable (K : Kont) (E : PanK) (k1 k2 k3 k4 k5 : Env → Hp → Prop) (x0 x1 x2 x3 x4 x5 x6 x7 x8 x9 x10 x11 x12 x13 x14 x15 x16 x17 x18 x19 x20 x21 x22 x23 x24 x25 x26 x27 x28 x29 x30 x31 x32 x33 x34 x35 x36 x37 x38 x39 x40 x41 x42 x43 x44 x45 x46 x47 x48 x49 x50 x51 x52 x53 x54 x55 x56 x57 x58 x59 x60 x61 x62 x63 x64 x65 x66 x67 x68 x69 x70 x71 x72 x73 x74 x75 x76 x77 x78 x79 x80 x81 x82 x83 x84 x85 x86 x87 x88 x89 x90 x91 x92 x93 x94 x95 x96 x97 x98 x99 x100 x101 x102 x103 x104 x105 x106 x107 x108 x109 x110 x111 x112 x113 x114 x115 x116 x117 x118 x119 x120 x121 x122 x123 v0 v1 v2 v3 v4 v5 v6 v7 v8 v9 v10 v11 v12 v13 v14 v15 v16 v17 v18 v19 v20 v21 v22 v23 v24 v25 v26 v27 v28 v29 v30 v31 v32 v33 v34 v35 v36 v37 v38 v39 v40 v41 v42 v43 v44 v45 v46 v47 v48 v49 v50 v51 v52 v53 v54 v55 v56 v57 v58 v59 v60 v61 v62 v63 v64 v65 v66 v67 v68 v69 v70 v71 v72 v73 v74 v75 v76 v77 v78 v79 v80 v81 v82 v83 v84 v85 v86 v87 v88 v89 v90 v91 v92 v93 v94 v95 v96 v97 v98 v99 v100 v101 v102 v103 v104 v105 v106 v107 v108 v109 v110 v111 v112 v113 v114 v115 v116 v117 v118 v119 v120 v121 v122 v123 : Value) (j : Nat → Value)
abbrev q8 : QD := bodyQ Tryz.prog Tryz.f8.results.toList K E
abbrev d8 (p : List Nat) : QD → Env → Hp → Prop := den Tryz.prog (sel (bodyOf Tryz.f8) p)
end
section
variable {K : Kont} {E : PanK} {k1 k2 k3 k4 k5 : Env → Hp → Prop} {σ : Type} {x0 x1 x2 x3 x4 x5 x6 x7 x8 x9 x10 x11 x12 x13 x14 x15 x16 x17 x18 x19 x20 x21 x22 x23 x24 x25 x26 x27 x28 x29 x30 x31 x32 x33 x34 x35 x36 x37 x38 x39 x40 x41 x42 x43 x44 x45 x46 x47 x48 x49 x50 x51 x52 x53 x54 x55 x56 x57 x58 x59 x60 x61 x62 x63 x64 x65 x66 x67 x68 x69 x70 x71 x72 x73 x74 x75 x76 x77 x78 x79 x80 x81 x82 x83 x84 x85 x86 x87 x88 x89 x90 x91 x92 x93 x94 x95 x96 x97 x98 x99 x100 x101 x102 x103 x104 x105 x106 x107 x108 x109 x110 x111 x112 x113 x114 x115 x116 x117 x118 x119 x120 x121 x122 x123 v0 v1 v2 v3 v4 v5 v6 v7 v8 v9 v10 v11 v12 v13 v14 v15 v16 v17 v18 v19 v20 v21 v22 v23 v24 v25 v26 v27 v28 v29 v30 v31 v32 v33 v34 v35 v36 v37 v38 v39 v40 v41 v42 v43 v44 v45 v46 v47 v48 v49 v50 v51 v52 v53 v54 v55 v56 v57 v58 v59 v60 v61 v62 v63 v64 v65 v66 v67 v68 v69 v70 v71 v72 v73 v74 v75 v76 v77 v78 v79 v80 v81 v82 v83 v84 v85 v86 v87 v88 v89 v90 v91 v92 v93 v94 v95 v96 v97 v98 v99 v100 v101 v102 v103 v104 v105 v106 v107 v108 v109 v110 v111 v112 v113 v114 v115 v116 v117 v118 v119 v120 v121 v122 v123 : Value} {h : Hp} {j : Nat → Value}
end
end Go.Proofs.YtgcmbkoejjcjlaaGreatDoor.T
open Go Go.RowKit Go.Proofs.YtgcmbkoejjcjlaaGreatDoor.K Go.Proofs.YtgcmbkoejjcjlaaGreatDoor.T
set_option linter.unusedVariables false
set_option linter.unusedSimpArgs false
namespace Go.Proofs.YtgcmbkoejjcjlaaGreatDoor.A
variable {F F' : Nat → Option (List Value)} {M M' : Nat → Option Chunk} {N N' : Nat} {K : Kont} {E : PanK}
end Go.Proofs.YtgcmbkoejjcjlaaGreatDoor.A
open Go Go.RowKit Go.Proofs.YtgcmbkoejjcjlaaGreatDoor.K Go.Proofs.YtgcmbkoejjcjlaaGreatDoor.T
set_option linter.unusedVariables false
set_option linter.unusedSimpArgs false
namespace Go.Proofs.YtgcmbkoejjcjlaaGreatDoor.A
variable {F F' : Nat → Option (List Value)} {M M' : Nat → Option Chunk} {N N' : Nat} {K : Kont} {E : PanK}
structure OpP where
  kind : Int
  id : Int
  at' : Int
  nodes : List Int
  keys : List (List Int)
  v : List Int
  facts : List Fc
  L : List En
structure OpP.ok (o : OpP) : Prop where
  kd : 0 ≤ o.kind ∧ o.kind < 256
  ia : 0 ≤ o.id ∧ o.id < 4294967296
  ta : 0 ≤ o.at' ∧ o.at' < 4294967296
  nl : o.nodes.length ≤ 17592186043904
  kl : o.keys.length ≤ 140737488351232
  kc : ∀ k ∈ o.keys, ∀ x ∈ k, 0 ≤ x ∧ x < 65536
  vl : o.v.length ≤ 140737488351232
  vc : ∀ x ∈ o.v, i64 x
  fl : o.facts.length ≤ 140737488351232
  fc : ∀ f ∈ o.facts, i64 f.2
  ll : o.L.length ≤ 140737488351232
  lt : ∀ e ∈ o.L, 0 ≤ e.1 ∧ e.1 < 4294967296
  lc : ∀ e ∈ o.L, ∀ f ∈ e.2, i64 f.2
def opP (F : Nat → Option (List Value)) (cs : List Value) (o : OpP) : Prop := ∃ n k v f L, cs = [.int .u8 o.kind, .int .u32 o.id, .int .u32 o.at', n, k, v, f, L] ∧ sF F 1 n o.nodes.length (ic o.nodes) ∧ kksD .u16 F k o.keys ∧ sF F 1 v o.v.length (ic o.v) ∧ fctsD F f o.facts ∧ entsD F L o.L ∧ o.ok
theorem opP.mono {cs : List Value} {o : OpP} (h : opP F cs o) (hF : subF F F') : opP F' cs o := let ⟨n, k, v, f, L, e, h0, h1, h2, h3, h4, h5⟩ := h; ⟨n, k, v, f, L, e, h0.mono hF, h1.mono hF, h2.mono hF, h3.mono hF, h4.mono hF, h5⟩
theorem kksD.formP {k : IntKind} {v : Value} {ks : List (List Int)} (h : kksD k F v ks) : ∃ a c, v = .slice a ks.length c := let ⟨rows, h1, _⟩ := h; let ⟨a, c, h2, _⟩ := h1.form; ⟨a, c, h2⟩
theorem opP.one {cs : List Value} {o : OpP} (h : opP F cs o) : cs.length = 8 ∧ ∀ c ∈ cs, c.oneCell' = true := by
  obtain ⟨n, k, v, f, L, rfl, h0, h1, h2, h3, h4, _⟩ := h
  obtain ⟨a0, c0, rfl, _⟩ := h0.form
  obtain ⟨a1, c1, rfl⟩ := h1.formP
  obtain ⟨a2, c2, rfl, _⟩ := h2.form
  obtain ⟨a3, c3, rfl⟩ := h3.form
  obtain ⟨a4, c4, rfl⟩ := h4.form
  exact ⟨rfl, List.all_eq_true.1 rfl⟩
def opsP (F : Nat → Option (List Value)) (v : Value) (l : List OpP) : Prop := ∃ rows, sF F 8 v l.length rows.flatten ∧ rowsF (opP F) 8 rows l
theorem opsP.mono {v : Value} {l : List OpP} (h : opsP F v l) (hF : subF F F') : opsP F' v l := let ⟨rows, h1, h2⟩ := h; ⟨rows, h1.mono hF, h2.mono fun _ _ hr => hr.mono hF⟩
theorem add_any {e : EqK} {a b : Int} {h : Hp} (k : ∀ r : Int, K (.int .i64 r) h) : pv (binV e .add (.int .i64 a) (.int .i64 b)) K h := ⟨_, by rw [inV]; rfl, k _⟩
theorem heavy14_c {v : Value} {l : List OpP} (hv : opsP F v l) (hl : l.length ≤ 140737488351232) (k : ∀ r : Int, (Hp.mk F M N).wf → K (.int .i64 r) ⟨F, M, N⟩) :
    callv Tryz.prog (.func (.func 10) #[] #[]) #[v] K E ⟨F, M, N⟩ := by
  refine callv_of_text mixed Tryz.func10 (by kernel_rfl) (t10 _ E _) (fun hw => ?_)
  obtain ⟨rows, hv1, hv2⟩ := hv
  refine l10_1_1_0_1_0_0 (σ := Nat × Int) (fun s => .int .i64 s.2) (fun s => .int .i64 (s.1 : Nat)) (fun s h' => h' = ⟨F, M, N⟩ ∧ s.1 ≤ l.length) (fun s => l.length - s.1) (0, 0) rfl rfl
    (fun hw1 => ⟨_, wk_refl hw1, rfl, Nat.zero_le _⟩) (fun kk s j h1 hI hw1 next => ?_)
  rw [t10_1_1_0_1_0_0]
  obtain ⟨rfl, hi⟩ := hI
  refine lenF_r hv1 ?_
  refine lss_r (fun hlt => ?_) (fun hge => ?_)
  · have i1 : s.1 < l.length := by omega
    try simp only [sS]
    refine fld_r hv1 hv2 (by decide) i1 (off := 4) (by decide) fun p z r y hR _ hy => ?_
    obtain ⟨cn, ck, cv, cf, cL, rfl, hn, hk, _, hf, hL, ok⟩ := hR
    have hy' : y = ck := by simpa using hy.symm
    subst hy'
    obtain ⟨a1, c1, e1⟩ := hk.formP
    refine pv_r (v := .int .i64 (l[s.1].keys.length : Nat)) (by rw [e1]; rfl) (add_any fun r1 => ?_)
    refine fld_r hv1 hv2 (by decide) i1 (off := 6) (by decide) fun p z r y hR _ hy => ?_
    obtain ⟨cn, ck, cv, cf, cL, rfl, hn, hk, _, hf, hL, ok⟩ := hR
    have hy' : y = cf := by simpa using hy.symm
    subst hy'
    obtain ⟨a1, c1, e1⟩ := hf.form
    refine pv_r (v := .int .i64 (l[s.1].facts.length : Nat)) (by rw [e1]; rfl) (add_any fun r2 => ?_)
    refine fld_r hv1 hv2 (by decide) i1 (off := 3) (by decide) fun p z r y hR _ hy => ?_
    obtain ⟨cn, ck, cv, cf, cL, rfl, hn, hk, _, hf, hL, ok⟩ := hR
    have hy' : y = cn := by simpa using hy.symm
    subst hy'
    obtain ⟨a1, c1, e1, _⟩ := hn.form
    refine pv_r (v := .int .i64 (l[s.1].nodes.length : Nat)) (by rw [e1]; rfl) (add_any fun r4 => add_any fun r3 => ?_)
    refine l10_1_1_0_1_0_0_1_0_0_1_1_0_0 (σ := Nat × Int) (fun q => .int .i64 q.2) (fun q => .int .i64 (q.1 : Nat)) (fun q h' => h' = ⟨F, M, N⟩ ∧ q.1 ≤ l[s.1].L.length) (fun q => l[s.1].L.length - q.1) (0, r3) rfl rfl
      (fun hw2 => ⟨_, wk_refl hw2, rfl, Nat.zero_le _⟩) (fun kk2 q j2 h2 hI2 hw2 next2 => ?_)
    rw [t10_1_1_0_1_0_0_1_0_0_1_1_0_0]
    obtain ⟨rfl, hq⟩ := hI2
    refine fld_r hv1 hv2 (by decide) i1 (off := 7) (by decide) fun p z r y hR _ hy => ?_
    obtain ⟨cn, ck, cv, cf, cL, rfl, hn, hk, _, hf, hL, ok⟩ := hR
    have hy' : y = cL := by simpa using hy.symm
    subst hy'
    obtain ⟨a1, c1, e1⟩ := hL.form
    have hll := ok.ll
    refine pv_r (v := .int .i64 (l[s.1].L.length : Nat)) (by rw [e1]; rfl) ?_
    refine lss_r (fun hlt2 => ?_) (fun hge2 => ?_)
    · have q1 : q.1 < l[s.1].L.length := by omega
      try simp only [sS]
      refine fld_r hv1 hv2 (by decide) i1 (off := 7) (by decide) fun p z r y2 hR _ hy => ?_
      obtain ⟨cn, ck, cv, cf, cL, rfl, hn, hk, _, hf, hL, ok⟩ := hR
      have hy' : y2 = cL := by simpa using hy.symm
      subst hy'
      obtain ⟨lrows, hL1, hL2⟩ := hL
      refine fld_r hL1 hL2 (by decide) q1 (off := 1) (by decide) fun p z r y3 hR _ hy => ?_
      obtain ⟨fv, rfl, hfv⟩ := hR.at
      have hy' : y3 = fv := by simpa using hy.symm
      subst hy'
      obtain ⟨frows, hfa, _⟩ := hfv
      refine lenF_r hfa (add_any fun r5 => add_any fun r6 => ?_)
      refine inc_r (by omega) ?_
      exact next2 (q.1 + 1, r6) _ _ (by simp only; omega) (fun hw3 => ⟨_, wk_refl hw3, rfl, q1⟩)
    · try simp only [sS]
      refine inc_r (by omega) ?_
      exact next (s.1 + 1, q.2) _ _ (by simp only; omega) (fun hw3 => ⟨_, wk_refl hw3, rfl, i1⟩)
  · try simp only [sS]
    exact fun hc => ⟨_, wk_refl hc, fun hw' => k s.2 hw'⟩
def recOf (l : List Dm) (o : OpP) : RecA :=
  if o.kind % 10 = 4 ∨ o.kind % 10 = 5 then ⟨2, o.id % 9, o.at' % 40, [], [], 0, 0, []⟩
  else if o.kind % 10 = 6 then ⟨3, o.id % 9, 0, [], [], 0, 0, []⟩
  else if o.kind % 10 = 7 then ⟨7, o.id, 0, [], [], 0, 10000, if o.id % 2 = 0 then [(1 + o.at' % 40, factsOf l o.keys o.v)] else o.L⟩
  else if o.kind % 10 = 8 then ⟨1, o.id % 9, 0, o.nodes, o.facts, 0, 0, []⟩
  else if o.kind % 10 = 9 then ⟨5, o.id, 0, [], [], 0, 0, []⟩
  else ⟨1, o.id % 9, 0, o.nodes, factsOf l o.keys o.v, 0, 0, []⟩
theorem rec_end {b2 b5 e2 e5 : Nat} {x0 x1 x2 x3 x6 x7 x8 x9 x10 x11 x12 x13 x14 x15 x16 x17 x18 x19 x20 x21 x22 x23 x24 x25 x26 x27 x28 x29 x30 x31 x32 x33 x34 x35 x36 x37 x38 x39 x40 x41 x42 x43 x44 x45 x46 x47 x48 x49 x50 x51 x52 x53 x54 x55 x56 x57 x58 x59 x60 x61 x62 x63 x64 x65 x66 x67 x68 x69 x70 x71 x72 x73 a0 a1 a2 a3 a4 a5 a6 a7 a8 a9 c0 c1 c2 c3 c4 c5 c6 c7 c8 c9 : Value} (h5 : M b5 = some (.cells e5 [a0, a1, a2, a3, a4, a5, a6, a7, a8, a9] 10)) (h2 : M b2 = some (.cells e2 [c0, c1, c2, c3, c4, c5, c6, c7, c8, c9] 10)) (h1 : ∀ c ∈ [a0, a1, a2, a3, a4, a5, a6, a7, a8, a9], c.oneCell' = true) (k : K (.agg #[a0, a1, a2, a3, a4, a5, a6, a7, a8, a9]) ⟨F, upd M b2 (some (.cells e2 [a0, a1, a2, a3, a4, a5, a6, a7, a8, a9] 10)), N⟩) :
    d15 [1, 1, 1] (q15 K E) #[x0, x1, x2, x3, .pointer (some ⟨b2, 0, none⟩), .pointer (some ⟨b5, 0, none⟩), x6, x7, x8, x9, x10, x11, x12, x13, x14, x15, x16, x17, x18, x19, x20, x21, x22, x23, x24, x25, x26, x27, x28, x29, x30, x31, x32, x33, x34, x35, x36, x37, x38, x39, x40, x41, x42, x43, x44, x45, x46, x47, x48, x49, x50, x51, x52, x53, x54, x55, x56, x57, x58, x59, x60, x61, x62, x63, x64, x65, x66, x67, x68, x69, x70, x71, x72, x73] ⟨F, M, N⟩ := by
  rw [t15_1_1_1]
  refine ldMa (vs := [a0, a1, a2, a3, a4, a5, a6, a7, a8, a9]) ?_ h5
  refine stM (cs' := [a0, a1, a2, a3, a4, a5, a6, a7, a8, a9]) ?_ h2 rfl rfl h1
  exact ldMa (vs := [a0, a1, a2, a3, a4, a5, a6, a7, a8, a9]) k (upd_same _ _ _)
set_option maxRecDepth 10000 in
theorem rec_tail {b1 b2 b5 N0 : Nat} {M0 : Nat → Option Chunk} {l : List Dm} {o : OpP} {nv kv vv fv Lv xf dv x1 x2 x6 x7 x8 x9 x10 x11 x12 x13 x14 x15 x16 x17 x18 x19 x20 x23 x24 x25 x26 x27 x28 x29 x30 x31 x32 x33 x34 x35 x36 x37 x38 x39 x40 x41 x42 x43 x44 x45 x46 x47 x48 x49 x50 x51 x52 x53 x54 x55 x56 x57 x58 x59 x60 x61 x62 x63 x64 x65 x66 x67 x68 x69 x70 x71 x72 x73 c0 c1 c2 c3 c4 c5 c6 c7 c8 c9 : Value} {q : Bool}
    (hb1 : M b1 = some (.cells 49 [.int .u8 o.kind, .int .u32 o.id, .int .u32 o.at', nv, kv, vv, fv, Lv] 8)) (hb2 : M b2 = some (.cells 44 [c0, c1, c2, c3, c4, c5, c6, c7, c8, c9] 10))
    (hb5 : M b5 = some (.cells 44 [.int .u8 1, .int .u32 (o.id % 9), .int .u32 0, nv, xf, .int .u32 0, .slice none 0 0, .int .i64 0, .int .i64 0, .slice none 0 0] 10)) (h15 : b1 ≠ b5) (h25 : b2 ≠ b5) (h12 : b1 ≠ b2) (n2 : N0 ≤ b2) (n5 : N0 ≤ b5)
    (hm0 : clean M0 N0) (hX : ∀ q, q < N0 → M q = M0 q) (hN0 : N0 ≤ N) (hgd : goodDims l) (hd : dimsD F dv l) (hn : sF F 1 nv o.nodes.length (ic o.nodes)) (hk : kksD .u16 F kv o.keys) (hv : sF F 1 vv o.v.length (ic o.v)) (hf : fctsD F fv o.facts) (hL : entsD F Lv o.L) (ok : o.ok)
    (hxf : fctsD F xf (factsOf l o.keys o.v)) (hq : q = decide (o.kind % 10 = 4 ∨ o.kind % 10 = 5)) (k : ∀ rs F' N', (Hp.mk F' M0 N').wf → subF F F' → N0 ≤ N' → recD F' rs (recOf l o) → K (.agg rs.toArray) ⟨F', M0, N'⟩) :
    d15 [1, 1, 0, 1, 0, 1] (blk 0 (thenD (d15 [1, 1, 1] (q15 (fun v h => h.wf → ∃ h', h.wk h' ∧ (h'.wf → K v h')) E)) (q15 (fun v h => h.wf → ∃ h', h.wk h' ∧ (h'.wf → K v h')) E))) #[dv, x1, x2, .pointer (some ⟨b1, 0, none⟩), .pointer (some ⟨b2, 0, none⟩), .pointer (some ⟨b5, 0, none⟩), x6, x7, x8, x9, x10, x11, x12, x13, x14, x15, x16, x17, x18, x19, x20, .int .u8 (o.kind % 10), .bool q, x23, x24, x25, x26, x27, x28, x29, x30, x31, x32, x33, x34, x35, x36, x37, x38, x39, x40, x41, x42, x43, x44, x45, x46, x47, x48, x49, x50, x51, x52, x53, x54, x55, x56, x57, x58, x59, x60, x61, x62, x63, x64, x65, x66, x67, x68, x69, x70, x71, x72, x73] ⟨F, M, N⟩ := by
  rw [t15_1_1_0_1_0_1]
  subst hq
  obtain ⟨an, cn, en, _⟩ := hn.form
  obtain ⟨ax, cx, ex⟩ := hxf.form
  obtain ⟨af, cf, ef⟩ := hf.form
  obtain ⟨aL, cL, eL⟩ := hL.form
  have hia := ok.ia
  have hta := ok.ta
  have fin : ∀ {rs : List Value} {M' : Nat → Option Chunk} {N' : Nat}, (Hp.mk F M' N').wf → (∀ q, q < N0 → M' q = M0 q) → N0 ≤ N' → recD F rs (recOf l o) → ∃ h', (Hp.mk F M' N').wk h' ∧ (h'.wf → K (.agg rs.toArray) h') := fun hc hX' hN' hr =>
    ⟨_, frz_wf hm0 hX' hc, fun hw' => k _ _ _ hw' (subF_frzAll hc) (by omega) (hr.mono (subF_frzAll hc))⟩
  by_cases h45 : o.kind % 10 = 4 ∨ o.kind % 10 = 5
  · rw [decide_eq_true h45]
    try simp only [sS]
    refine ldM (v := .int .u32 o.id) ?_ hb1
    refine rem_i hia.1 (by decide) ?_
    refine ldM (v := .int .u32 o.at') ?_ hb1
    refine rem_i hta.1 (by decide) ?_
    refine pv_r (v := .agg #[.int .u8 2, .int .u32 (o.id % 9), .int .u32 (o.at' % 40), .slice none 0 0, .slice none 0 0, .int .u32 0, .slice none 0 0, .int .i64 0, .int .i64 0, .slice none 0 0]) (by kernel_rfl) ?_
    refine stM (cs' := [.int .u8 2, .int .u32 (o.id % 9), .int .u32 (o.at' % 40), .slice none 0 0, .slice none 0 0, .int .u32 0, .slice none 0 0, .int .i64 0, .int .i64 0, .slice none 0 0]) ?_ hb5 rfl rfl (List.all_eq_true.1 rfl)
    refine rec_end (upd_same _ _ _) ((upd_ne _ _ h25).trans hb2) (List.all_eq_true.1 rfl) ?_
    refine fun hc => fin hc (fun q hq => ?_) (by omega) ?_
    · rw [upd_ne _ _ (by omega), upd_ne _ _ (by omega), hX q hq]
    · unfold recOf; rw [if_pos h45]; exact ⟨_, _, _, _, _, rfl, sF.nil _ _ _, fctsD.nil, entsD.nil, rfl, rfl⟩
  rw [decide_eq_false h45]
  try simp only [sS]
  refine eql_r (fun h6 => ?_) (fun h6 => ?_)
  · try simp only [sS]
    refine ldM (v := .int .u32 o.id) ?_ hb1
    refine rem_i hia.1 (by decide) ?_
    refine pv_r (v := .agg #[.int .u8 3, .int .u32 (o.id % 9), .int .u32 0, .slice none 0 0, .slice none 0 0, .int .u32 0, .slice none 0 0, .int .i64 0, .int .i64 0, .slice none 0 0]) (by kernel_rfl) ?_
    refine stM (cs' := [.int .u8 3, .int .u32 (o.id % 9), .int .u32 0, .slice none 0 0, .slice none 0 0, .int .u32 0, .slice none 0 0, .int .i64 0, .int .i64 0, .slice none 0 0]) ?_ hb5 rfl rfl (List.all_eq_true.1 rfl)
    refine rec_end (upd_same _ _ _) ((upd_ne _ _ h25).trans hb2) (List.all_eq_true.1 rfl) ?_
    refine fun hc => fin hc (fun q hq => ?_) (by omega) ?_
    · rw [upd_ne _ _ (by omega), upd_ne _ _ (by omega), hX q hq]
    · unfold recOf; rw [if_neg h45, if_pos h6]; exact ⟨_, _, _, _, _, rfl, sF.nil _ _ _, fctsD.nil, entsD.nil, rfl, rfl⟩
  try simp only [sS]
  refine eql_r (fun h7 => ?_) (fun h7 => ?_)
  · try simp only [sS]
    refine ldM (v := .int .u32 o.id) ?_ hb1
    refine ldM (v := Lv) ?_ hb1
    refine pv_r (v := .agg #[.int .u8 7, .int .u32 o.id, .int .u32 0, .slice none 0 0, .slice none 0 0, .int .u32 0, .slice none 0 0, .int .i64 0, .int .i64 10000, Lv]) (by rw [eL]; kernel_rfl) ?_
    refine stM (cs' := [.int .u8 7, .int .u32 o.id, .int .u32 0, .slice none 0 0, .slice none 0 0, .int .u32 0, .slice none 0 0, .int .i64 0, .int .i64 10000, Lv]) ?_ hb5 rfl rfl (by rw [eL]; exact List.all_eq_true.1 rfl)
    have hb1' := (upd_ne M (some (.cells 44 [.int .u8 7, .int .u32 o.id, .int .u32 0, .slice none 0 0, .slice none 0 0, .int .u32 0, .slice none 0 0, .int .i64 0, .int .i64 10000, Lv] 10)) h15).trans hb1
    refine ldM (v := .int .u32 o.id) ?_ hb1'
    refine rem_i hia.1 (by decide) ?_
    refine eql_r (fun h0 => ?_) (fun h0 => ?_)
    · try simp only [sS]
      refine ldM (v := kv) ?_ hb1'
      refine ldM (v := vv) ?_ hb1'
      have hds := goodDims_sz hgd
      have hl4 := hgd.2.1
      refine facts_c hd hk hv (by omega) hds ok.kc ok.kl ok.vl (fun f6 F6 N6 hw6 hF6 hN6 hf6 => ?_)
      obtain ⟨a6, c6, e6⟩ := hf6.form
      have hfit := facts_fit hgd o.keys o.v
      obtain ⟨q1, _⟩ := fitsF_of hfit
      refine ldM (v := .int .u32 o.at') ?_ hb1'
      refine rem_i hta.1 (by decide) ?_
      refine u32_add (by omega) (by omega) ?_
      refine pv_r (v := .agg #[.int .u32 (1 + o.at' % 40), f6]) (by rw [e6]; kernel_rfl) ?_
      refine nws_r (cs := [.int .u32 (1 + o.at' % 40), f6]) (by rw [e6]; kernel_rfl) (fun b8 hb8 => ?_)
      have m5 := clean.lt hw6.m (upd_same M b5 (some (.cells 44 [.int .u8 7, .int .u32 o.id, .int .u32 0, .slice none 0 0, .slice none 0 0, .int .u32 0, .slice none 0 0, .int .i64 0, .int .i64 10000, Lv] 10)))
      have m2 := clean.lt hw6.m ((upd_ne M (some (.cells 44 [.int .u8 7, .int .u32 o.id, .int .u32 0, .slice none 0 0, .slice none 0 0, .int .u32 0, .slice none 0 0, .int .i64 0, .int .i64 10000, Lv] 10)) h25).trans hb2)
      refine stM (cs' := [.int .u8 7, .int .u32 o.id, .int .u32 0, .slice none 0 0, .slice none 0 0, .int .u32 0, .slice none 0 0, .int .i64 0, .int .i64 10000, .slice (some ⟨b8, 0, none⟩) 1 1]) ?_ ((upd_ne _ _ (by omega)).trans (upd_same _ _ _)) rfl rfl (List.all_eq_true.1 rfl)
      refine rec_end (upd_same _ _ _) ((upd_ne _ _ h25).trans ((upd_ne _ _ (by omega)).trans ((upd_ne _ _ h25).trans hb2))) (List.all_eq_true.1 rfl) ?_
      refine fun hc => ?_
      have gg : ∀ {A : Nat → Option Chunk} {c8 c5 c2 : Option Chunk}, upd (upd (upd A b8 c8) b5 c5) b2 c2 b8 = c8 := (upd_ne _ _ (by omega)).trans ((upd_ne _ _ (by omega)).trans (upd_same _ _ _))
      have hsb := subF_frzAll (N := N0) hc
      refine ⟨_, frz_wf hm0 (fun q hq => ?_) hc, fun hw' => k [.int .u8 7, .int .u32 o.id, .int .u32 0, .slice none 0 0, .slice none 0 0, .int .u32 0, .slice none 0 0, .int .i64 0, .int .i64 10000, .slice (some ⟨b8, 0, none⟩) 1 1] _ _ hw' (hF6.trans hsb) (by omega) ?_⟩
      · rw [upd_ne _ _ (by omega), upd_ne _ _ (by omega), upd_ne _ _ (by omega), upd_ne _ _ (by omega), hX q hq]
      · unfold recOf; rw [if_neg h45, if_neg h6, if_pos h7, if_pos h0]
        exact ⟨_, _, _, _, _, rfl, sF.nil _ _ _, fctsD.nil, ⟨[[.int .u32 (1 + o.at' % 40), f6]], sF_lit (frz_at (by omega) gg) rfl (by decide), (rowsF.nil _ _).snoc rfl (by rw [e6]; exact List.all_eq_true.1 rfl) ⟨f6, rfl, hf6.mono hsb, by show (factsOf l o.keys o.v).length ≤ _; omega⟩⟩, rfl, rfl⟩
    · try simp only [sS]
      refine rec_end (upd_same _ _ _) ((upd_ne _ _ h25).trans hb2) (by rw [eL]; exact List.all_eq_true.1 rfl) ?_
      refine fun hc => fin hc (fun q hq => ?_) (by omega) ?_
      · rw [upd_ne _ _ (by omega), upd_ne _ _ (by omega), hX q hq]
      · unfold recOf; rw [if_neg h45, if_neg h6, if_pos h7, if_neg h0]; exact ⟨_, _, _, _, _, rfl, sF.nil _ _ _, fctsD.nil, hL, rfl, rfl⟩
  try simp only [sS]
  refine eql_r (fun h8 => ?_) (fun h8 => ?_)
  · try simp only [sS]
    refine ldM (v := fv) ?_ hb1
    refine stM (cs' := [.int .u8 1, .int .u32 (o.id % 9), .int .u32 0, nv, fv, .int .u32 0, .slice none 0 0, .int .i64 0, .int .i64 0, .slice none 0 0]) ?_ hb5 (by rw [ef]; rfl) (by rw [ef]; rfl) (by rw [ef]; exact List.all_eq_true.1 rfl)
    refine rec_end (upd_same _ _ _) ((upd_ne _ _ h25).trans hb2) (by rw [en, ef]; exact List.all_eq_true.1 rfl) ?_
    refine fun hc => fin hc (fun q hq => ?_) (by omega) ?_
    · rw [upd_ne _ _ (by omega), upd_ne _ _ (by omega), hX q hq]
    · unfold recOf; rw [if_neg h45, if_neg h6, if_neg h7, if_pos h8]; exact ⟨_, _, _, _, _, rfl, hn, hf, entsD.nil, rfl, rfl⟩
  try simp only [sS]
  refine eql_r (fun h9 => ?_) (fun h9 => ?_)
  · try simp only [sS]
    refine ldM (v := .int .u32 o.id) ?_ hb1
    refine pv_r (v := .agg #[.int .u8 5, .int .u32 o.id, .int .u32 0, .slice none 0 0, .slice none 0 0, .int .u32 0, .slice none 0 0, .int .i64 0, .int .i64 0, .slice none 0 0]) (by kernel_rfl) ?_
    refine stM (cs' := [.int .u8 5, .int .u32 o.id, .int .u32 0, .slice none 0 0, .slice none 0 0, .int .u32 0, .slice none 0 0, .int .i64 0, .int .i64 0, .slice none 0 0]) ?_ hb5 rfl rfl (List.all_eq_true.1 rfl)
    refine rec_end (upd_same _ _ _) ((upd_ne _ _ h25).trans hb2) (List.all_eq_true.1 rfl) ?_
    refine fun hc => fin hc (fun q hq => ?_) (by omega) ?_
    · rw [upd_ne _ _ (by omega), upd_ne _ _ (by omega), hX q hq]
    · unfold recOf; rw [if_neg h45, if_neg h6, if_neg h7, if_neg h8, if_pos h9]; exact ⟨_, _, _, _, _, rfl, sF.nil _ _ _, fctsD.nil, entsD.nil, rfl, rfl⟩
  · try simp only [sS]
    refine rec_end hb5 hb2 (by rw [en, ex]; exact List.all_eq_true.1 rfl) ?_
    refine fun hc => fin hc (fun q hq => ?_) (by omega) ?_
    · rw [upd_ne _ _ (by omega), hX q hq]
    · unfold recOf; rw [if_neg h45, if_neg h6, if_neg h7, if_neg h8, if_neg h9]; exact ⟨_, _, _, _, _, rfl, hn, hxf, entsD.nil, rfl, rfl⟩
set_option maxRecDepth 10000 in
theorem rec14_c {dv : Value} {cs : List Value} {l : List Dm} {o : OpP} (hgd : goodDims l) (hd : dimsD F dv l) (ho : opP F cs o) (k : ∀ rs F' N', (Hp.mk F' M N').wf → subF F F' → N ≤ N' → recD F' rs (recOf l o) → K (.agg rs.toArray) ⟨F', M, N'⟩) :
    callv Tryz.prog (.func (.func 15) #[] #[]) #[dv, .agg cs.toArray] K E ⟨F, M, N⟩ := by
  refine callv_of_text mixed Tryz.func15 (by kernel_rfl) (t15 _ E _ _) (fun hw => ?_)
  have hm : clean M N := hw.m
  have hone := ho.one
  have hds := goodDims_sz hgd
  have hl4 := hgd.2.1
  refine nw_r (cs := cs) (fun b1 hb1 => ?_) rfl
  obtain ⟨nv, kv, vv, fv, Lv, e, hn, hk, hv, hf, hL, ok⟩ := ho
  subst e
  refine nw_r (fun b2 hb2 => ?_)
  generalize hM2 : upd (upd M b1 _) b2 _ = M2
  have m1 : M2 b1 = some (.cells 49 [.int .u8 o.kind, .int .u32 o.id, .int .u32 o.at', nv, kv, vv, fv, Lv] 8) := by rw [← hM2]; exact (upd_ne _ _ (by omega)).trans (upd_same _ _ _)
  have m2 : M2 b2 = some (.cells 44 [.int .u8 0, .int .u32 0, .int .u32 0, .slice none 0 0, .slice none 0 0, .int .u32 0, .slice none 0 0, .int .i64 0, .int .i64 0, .slice none 0 0] 10) := by rw [← hM2]; exact upd_same _ _ _
  have hX : ∀ q, q < N → M2 q = M q := fun q hq => by rw [← hM2]; exact (upd_ne _ _ (by omega)).trans (upd_ne _ _ (by omega))
  clear hM2
  obtain ⟨an, cn, en, _⟩ := hn.form
  try simp only [sS]
  refine ldM (v := .int .u32 o.id) ?_ m1
  refine rem_i ok.ia.1 (by decide) ?_
  refine ldM (v := kv) ?_ m1
  refine ldM (v := vv) ?_ m1
  refine ldM (v := nv) ?_ m1
  refine (And.intro ?_ ?_ : _ ∧ _)
  · refine facts_c hd hk hv (by omega) hds ok.kc ok.kl ok.vl (fun xf F3 N3 hw3 hF3 hN3 hxf => ?_)
    obtain ⟨ax, cx, ex⟩ := hxf.form
    refine ⟨ldV_c (row_M m1) rfl, ldV_c (row_M m1) rfl, ?_⟩
    refine pv_r (v := .agg #[.int .u8 1, .int .u32 (o.id % 9), .int .u32 0, nv, xf, .int .u32 0, .slice none 0 0, .int .i64 0, .int .i64 0, .slice none 0 0]) (by rw [en, ex]; kernel_rfl) ?_
    refine nw_r (fun b5 hb5 => ?_)
    have m1' : upd M2 b5 (some (.cells 44 [.int .u8 0, .int .u32 0, .int .u32 0, .slice none 0 0, .slice none 0 0, .int .u32 0, .slice none 0 0, .int .i64 0, .int .i64 0, .slice none 0 0] 10)) b1 = _ := (upd_ne _ _ (by omega)).trans m1
    refine ⟨ldV_c (row_M m1') rfl, ldV_c (row_M m1') rfl, ?_⟩
    refine stM (cs' := [.int .u8 1, .int .u32 (o.id % 9), .int .u32 0, nv, xf, .int .u32 0, .slice none 0 0, .int .i64 0, .int .i64 0, .slice none 0 0]) ?_ (upd_same _ _ _) rfl rfl (by rw [en, ex]; exact List.all_eq_true.1 rfl)
    rw [upd_upd]
    refine ldM (v := .int .u8 o.kind) ?_ ((upd_ne _ _ (by omega)).trans m1)
    refine rem_i ok.kd.1 (by decide) ?_
    refine eql_r (fun h4 => ?_) (fun h4 => ?_)
    · try simp only [sS]
      exact rec_tail (K := K) (E := E) (b1 := b1) (b2 := b2) (b5 := b5) (N0 := N) (M0 := M) (M := upd M2 b5 (some (.cells 44 [.int .u8 1, .int .u32 (o.id % 9), .int .u32 0, nv, xf, .int .u32 0, .slice none 0 0, .int .i64 0, .int .i64 0, .slice none 0 0] 10))) (N := b5 + 1) (F := F3) (o := o) (xf := xf) ((upd_ne _ _ (by omega)).trans m1) ((upd_ne _ _ (by omega)).trans m2) (upd_same _ _ _) (by omega) (by omega) (by omega) (by omega) (by omega) hm (fun q hq => (upd_ne _ _ (by omega)).trans (hX q hq)) (by omega) hgd (hd.mono hF3) (hn.mono hF3) (hk.mono hF3) (hv.mono hF3) (hf.mono hF3) (hL.mono hF3) ok hxf (by rw [decide_eq_true (.inl h4)]) (fun rs F' N' hw' hF' hN' hr => k rs F' N' hw' (hF3.trans hF') hN' hr)
    · try simp only [sS]
      refine eql_r (fun h5 => ?_) (fun h5 => ?_)
      · exact rec_tail (K := K) (E := E) (b1 := b1) (b2 := b2) (b5 := b5) (N0 := N) (M0 := M) (M := upd M2 b5 (some (.cells 44 [.int .u8 1, .int .u32 (o.id % 9), .int .u32 0, nv, xf, .int .u32 0, .slice none 0 0, .int .i64 0, .int .i64 0, .slice none 0 0] 10))) (N := b5 + 1) (F := F3) (o := o) (xf := xf) ((upd_ne _ _ (by omega)).trans m1) ((upd_ne _ _ (by omega)).trans m2) (upd_same _ _ _) (by omega) (by omega) (by omega) (by omega) (by omega) hm (fun q hq => (upd_ne _ _ (by omega)).trans (hX q hq)) (by omega) hgd (hd.mono hF3) (hn.mono hF3) (hk.mono hF3) (hv.mono hF3) (hf.mono hF3) (hL.mono hF3) ok hxf (by rw [decide_eq_true (.inr h5)]) (fun rs F' N' hw' hF' hN' hr => k rs F' N' hw' (hF3.trans hF') hN' hr)
      · exact rec_tail (K := K) (E := E) (b1 := b1) (b2 := b2) (b5 := b5) (N0 := N) (M0 := M) (M := upd M2 b5 (some (.cells 44 [.int .u8 1, .int .u32 (o.id % 9), .int .u32 0, nv, xf, .int .u32 0, .slice none 0 0, .int .i64 0, .int .i64 0, .slice none 0 0] 10))) (N := b5 + 1) (F := F3) (o := o) (xf := xf) ((upd_ne _ _ (by omega)).trans m1) ((upd_ne _ _ (by omega)).trans m2) (upd_same _ _ _) (by omega) (by omega) (by omega) (by omega) (by omega) hm (fun q hq => (upd_ne _ _ (by omega)).trans (hX q hq)) (by omega) hgd (hd.mono hF3) (hn.mono hF3) (hk.mono hF3) (hv.mono hF3) (hf.mono hF3) (hL.mono hF3) ok hxf (by rw [decide_eq_false (by rintro (q | q); exact h4 q; exact h5 q)]) (fun rs F' N' hw' hF' hN' hr => k rs F' N' hw' (hF3.trans hF') hN' hr)
  · refine nw_r (fun b5 hb5 => ?_)
    have m1' : upd M2 b5 (some (.cells 44 [.int .u8 0, .int .u32 0, .int .u32 0, .slice none 0 0, .slice none 0 0, .int .u32 0, .slice none 0 0, .int .i64 0, .int .i64 0, .slice none 0 0] 10)) b1 = _ := (upd_ne _ _ (by omega)).trans m1
    refine ⟨ldV_c (row_M m1') rfl, ldV_c (row_M m1') rfl, ldV_c (row_M m1') rfl, ldV_c (row_M m1') rfl, ?_⟩
    refine facts_c hd hk hv (by omega) hds ok.kc ok.kl ok.vl (fun xf F3 N3 hw3 hF3 hN3 hxf => ?_)
    obtain ⟨ax, cx, ex⟩ := hxf.form
    refine ⟨ldV_c (row_M m1') rfl, ldV_c (row_M m1') rfl, ?_⟩
    refine pv_r (v := .agg #[.int .u8 1, .int .u32 (o.id % 9), .int .u32 0, nv, xf, .int .u32 0, .slice none 0 0, .int .i64 0, .int .i64 0, .slice none 0 0]) (by rw [en, ex]; kernel_rfl) ?_
    refine stM (cs' := [.int .u8 1, .int .u32 (o.id % 9), .int .u32 0, nv, xf, .int .u32 0, .slice none 0 0, .int .i64 0, .int .i64 0, .slice none 0 0]) ?_ (upd_same _ _ _) rfl rfl (by rw [en, ex]; exact List.all_eq_true.1 rfl)
    rw [upd_upd]
    refine ldM (v := .int .u8 o.kind) ?_ ((upd_ne _ _ (by omega)).trans m1)
    refine rem_i ok.kd.1 (by decide) ?_
    refine eql_r (fun h4 => ?_) (fun h4 => ?_)
    · try simp only [sS]
      exact rec_tail (K := K) (E := E) (b1 := b1) (b2 := b2) (b5 := b5) (N0 := N) (M0 := M) (M := upd M2 b5 (some (.cells 44 [.int .u8 1, .int .u32 (o.id % 9), .int .u32 0, nv, xf, .int .u32 0, .slice none 0 0, .int .i64 0, .int .i64 0, .slice none 0 0] 10))) (N := N3) (F := F3) (o := o) (xf := xf) ((upd_ne _ _ (by omega)).trans m1) ((upd_ne _ _ (by omega)).trans m2) (upd_same _ _ _) (by omega) (by omega) (by omega) (by omega) (by omega) hm (fun q hq => (upd_ne _ _ (by omega)).trans (hX q hq)) (by omega) hgd (hd.mono hF3) (hn.mono hF3) (hk.mono hF3) (hv.mono hF3) (hf.mono hF3) (hL.mono hF3) ok hxf (by rw [decide_eq_true (.inl h4)]) (fun rs F' N' hw' hF' hN' hr => k rs F' N' hw' (hF3.trans hF') hN' hr)
    · try simp only [sS]
      refine eql_r (fun h5 => ?_) (fun h5 => ?_)
      · exact rec_tail (K := K) (E := E) (b1 := b1) (b2 := b2) (b5 := b5) (N0 := N) (M0 := M) (M := upd M2 b5 (some (.cells 44 [.int .u8 1, .int .u32 (o.id % 9), .int .u32 0, nv, xf, .int .u32 0, .slice none 0 0, .int .i64 0, .int .i64 0, .slice none 0 0] 10))) (N := N3) (F := F3) (o := o) (xf := xf) ((upd_ne _ _ (by omega)).trans m1) ((upd_ne _ _ (by omega)).trans m2) (upd_same _ _ _) (by omega) (by omega) (by omega) (by omega) (by omega) hm (fun q hq => (upd_ne _ _ (by omega)).trans (hX q hq)) (by omega) hgd (hd.mono hF3) (hn.mono hF3) (hk.mono hF3) (hv.mono hF3) (hf.mono hF3) (hL.mono hF3) ok hxf (by rw [decide_eq_true (.inr h5)]) (fun rs F' N' hw' hF' hN' hr => k rs F' N' hw' (hF3.trans hF') hN' hr)
      · exact rec_tail (K := K) (E := E) (b1 := b1) (b2 := b2) (b5 := b5) (N0 := N) (M0 := M) (M := upd M2 b5 (some (.cells 44 [.int .u8 1, .int .u32 (o.id % 9), .int .u32 0, nv, xf, .int .u32 0, .slice none 0 0, .int .i64 0, .int .i64 0, .slice none 0 0] 10))) (N := N3) (F := F3) (o := o) (xf := xf) ((upd_ne _ _ (by omega)).trans m1) ((upd_ne _ _ (by omega)).trans m2) (upd_same _ _ _) (by omega) (by omega) (by omega) (by omega) (by omega) hm (fun q hq => (upd_ne _ _ (by omega)).trans (hX q hq)) (by omega) hgd (hd.mono hF3) (hn.mono hF3) (hk.mono hF3) (hv.mono hF3) (hf.mono hF3) (hL.mono hF3) ok hxf (by rw [decide_eq_false (by rintro (q | q); exact h4 q; exact h5 q)]) (fun rs F' N' hw' hF' hN' hr => k rs F' N' hw' (hF3.trans hF') hN' hr)
end Go.Proofs.YtgcmbkoejjcjlaaGreatDoor.A
open Go Go.RowKit Go.Proofs.YtgcmbkoejjcjlaaGreatDoor.K
set_option linter.unusedVariables false
set_option maxRecDepth 100000
namespace Go.Proofs.YtgcmbkoejjcjlaaGreatDoor.T
section
variable (K : Kont) (E : PanK) (k1 k2 k3 k4 k5 : Env → Hp → Prop) (x0 x1 x2 x3 x4 x5 x6 x7 x8 x9 x10 x11 x12 x13 x14 x15 x16 x17 x18 x19 x20 x21 x22 x23 x24 x25 x26 x27 x28 x29 x30 x31 x32 x33 x34 x35 x36 x37 x38 x39 x40 x41 x42 x43 x44 x45 x46 x47 x48 x49 x50 x51 x52 x53 x54 x55 x56 x57 x58 x59 x60 x61 x62 x63 x64 x65 x66 x67 x68 x69 x70 x71 x72 x73 x74 x75 x76 x77 x78 v0 v1 v2 v3 v4 v5 v6 v7 v8 v9 v10 v11 v12 v13 v14 v15 v16 v17 v18 v19 v20 v21 v22 v23 v24 v25 v26 v27 v28 v29 v30 v31 v32 v33 v34 v35 v36 v37 v38 v39 v40 v41 v42 v43 v44 v45 v46 v47 v48 v49 v50 v51 v52 v53 v54 v55 v56 v57 v58 v59 v60 v61 v62 v63 v64 v65 v66 v67 v68 v69 v70 v71 v72 v73 v74 v75 v76 v77 v78 : Value) (j : Nat → Value)
abbrev q3 : QD := bodyQ Tryz.prog Tryz.f3.results.toList K E
abbrev d3 (p : List Nat) : QD → Env → Hp → Prop := den Tryz.prog (sel (bodyOf Tryz.f3) p)
end
section
variable {K : Kont} {E : PanK} {k1 k2 k3 k4 k5 : Env → Hp → Prop} {σ : Type} {x0 x1 x2 x3 x4 x5 x6 x7 x8 x9 x10 x11 x12 x13 x14 x15 x16 x17 x18 x19 x20 x21 x22 x23 x24 x25 x26 x27 x28 x29 x30 x31 x32 x33 x34 x35 x36 x37 x38 x39 x40 x41 x42 x43 x44 x45 x46 x47 x48 x49 x50 x51 x52 x53 x54 x55 x56 x57 x58 x59 x60 x61 x62 x63 x64 x65 x66 x67 x68 x69 x70 x71 x72 x73 x74 x75 x76 x77 x78 v0 v1 v2 v3 v4 v5 v6 v7 v8 v9 v10 v11 v12 v13 v14 v15 v16 v17 v18 v19 v20 v21 v22 v23 v24 v25 v26 v27 v28 v29 v30 v31 v32 v33 v34 v35 v36 v37 v38 v39 v40 v41 v42 v43 v44 v45 v46 v47 v48 v49 v50 v51 v52 v53 v54 v55 v56 v57 v58 v59 v60 v61 v62 v63 v64 v65 v66 v67 v68 v69 v70 v71 v72 v73 v74 v75 v76 v77 v78 : Value} {h : Hp} {j : Nat → Value}
end
end Go.Proofs.YtgcmbkoejjcjlaaGreatDoor.T
open Go Go.RowKit Go.Proofs.YtgcmbkoejjcjlaaGreatDoor.K Go.Proofs.YtgcmbkoejjcjlaaGreatDoor.T
set_option linter.unusedVariables false
set_option linter.unusedSimpArgs false
namespace Go.Proofs.YtgcmbkoejjcjlaaGreatDoor.A
variable {F F' : Nat → Option (List Value)} {M M' : Nat → Option Chunk} {N N' : Nat} {K : Kont} {E : PanK}
structure okP (l : List Dm) (D : List Int) (h : List En) (bs : Bts) : Prop where
  oh : okH l 5000 200 h
  nd : (bs.map (·.1)).Nodup
  kr : ∀ x ∈ bs, x.1 ∈ D
  fl : ∀ id, (getB bs id).fs.length ≤ 200
  nl : ∀ id, (getB bs id).ns.length ≤ 17592186043904
theorem okP.nil (l : List Dm) (D : List Int) : okP l D [] [] := ⟨okH.nil _ _ _, List.nodup_nil, by simp, by simp [getB, Bt.no], by simp [getB, Bt.no]⟩
theorem okP.len {l : List Dm} {D : List Int} {h : List En} {bs : Bts} (o : okP l D h bs) : bs.length ≤ D.length := by
  have := nodup_le (b := D) o.nd (fun x hx => by obtain ⟨y, hy, e⟩ := List.mem_map.1 hx; rw [← e]; exact o.kr y hy)
  rwa [List.length_map] at this
theorem okP.set {l : List Dm} {D : List Int} {h : List En} {bs : Bts} (o : okP l D h bs) {id : Int} {b : Bt} (hd : id ∈ D) (h1 : b.fs.length ≤ 200) (h2 : b.ns.length ≤ 17592186043904) : okP l D h (setB bs id b) := by
  refine ⟨o.oh, setB_nodup o.nd, fun x hx => ?_, fun i => ?_, fun i => ?_⟩
  · rcases mem_setB hx with rfl | ⟨h, _⟩
    · exact hd
    · exact o.kr x h
  · rw [getB_set o.nd]; split
    · exact h1
    · exact o.fl i
  · rw [getB_set o.nd]; split
    · exact h2
    · exact o.nl i
def inD (D : List Int) (r : RecA) : Prop := r.kind = 1 ∨ r.kind = 2 ∨ r.kind = 3 → r.id ∈ D
theorem okP.ap {l : List Dm} {D : List Int} {h : List En} {bs : Bts} (o : okP l D h bs) {r : RecA} (ok : r.ok) (hD : inD D r) (tk : Int) : okP l D (apH l h bs tk r) (apS l h bs r) := by
  have hh : okH l 5000 200 (apH l h bs tk r) := by
    unfold apH cmH tkH
    split
    · split
      · exact o.oh.add ok.t0 _
      · exact o.oh
    · split
      · split
        · exact o.oh
        · exact o.oh.repl _ _ _
      · exact o.oh
  have hs : okP l D h (apS l h bs r) := by
    unfold apS ppS cmS abS
    split
    · rename_i hk
      split
      · rename_i he
        refine o.set (hD (.inl hk)) ?_ ok.nl
        unfold ppE at he
        split at he
        · omega
        · split at he
          · omega
          · rename_i hf
            exact (fitsF_of (by simpa using hf)).1
      · exact o
    · split
      · rename_i hk
        split
        · exact o.set (hD (.inr (.inl hk))) (by simp) (by simp)
        · exact o
      · split
        · rename_i hk
          split
          · exact o
          · exact o.set (hD (.inr (.inr hk))) (by simp) (by simp)
        · exact o
  exact ⟨hh, hs.nd, hs.kr, hs.fl, hs.nl⟩
def D9 : List Int := [0, 1, 2, 3, 4, 5, 6, 7, 8]
theorem mem_D9 {x : Int} (h0 : 0 ≤ x) (h1 : x < 9) : x ∈ D9 := by
  unfold D9
  simp only [List.mem_cons, List.not_mem_nil, or_false]
  omega
theorem recOf_ok {l : List Dm} (hgd : goodDims l) {o : OpP} (ok : o.ok) : (recOf l o).ok ∧ inD D9 (recOf l o) := by
  have hia := ok.ia
  have hta := ok.ta
  have i9 : o.id % 9 ∈ D9 := mem_D9 (by omega) (by omega)
  have i0 : 0 ≤ o.id % 9 ∧ o.id % 9 < 4294967296 := by omega
  have t0 : 0 ≤ o.at' % 40 := by omega
  have ff := (fitsF_of (facts_fit hgd o.keys o.v)).1
  unfold recOf
  split
  · exact ⟨⟨i0, t0, by simp, by simp, by simp, by simp⟩, fun _ => i9⟩
  · split
    · exact ⟨⟨i0, by simp, by simp, by simp, by simp, by simp⟩, fun _ => i9⟩
    · split
      · refine ⟨⟨hia, by simp, by simp, by simp, ?_, ?_⟩, fun h => by simp at h⟩
        · show List.length (if o.id % 2 = 0 then [(1 + o.at' % 40, factsOf l o.keys o.v)] else o.L) ≤ _
          split
          · simp
          · exact ok.ll
        · show ∀ e ∈ (if o.id % 2 = 0 then [(1 + o.at' % 40, factsOf l o.keys o.v)] else o.L), e.1 < 4294967296
          split
          · intro e he; rw [List.mem_singleton.1 he]; show 1 + o.at' % 40 < _; omega
          · exact fun e he => (ok.lt e he).2
      · split
        · exact ⟨⟨i0, by simp, ok.nl, ok.fl, by simp, by simp⟩, fun _ => i9⟩
        · split
          · exact ⟨⟨hia, by simp, by simp, by simp, by simp, by simp⟩, fun h => by simp at h⟩
          · exact ⟨⟨i0, by simp, ok.nl, by show (factsOf l o.keys o.v).length ≤ _; omega, by simp, by simp⟩, fun _ => i9⟩
def WC (f : Nat → Int × Int) : List Value := [.int .u8 (f 0).1, .int .u32 (f 0).2, .int .u8 (f 1).1, .int .u32 (f 1).2, .int .u8 (f 2).1, .int .u32 (f 2).2, .int .u8 (f 3).1, .int .u32 (f 3).2, .int .u8 (f 4).1, .int .u32 (f 4).2, .int .u8 (f 5).1, .int .u32 (f 5).2, .int .u8 (f 6).1, .int .u32 (f 6).2, .int .u8 (f 7).1, .int .u32 (f 7).2, .int .u8 (f 8).1, .int .u32 (f 8).2]
def stB (bs : Bts) (i : Nat) : Int × Int := ((getB bs i).st, (getB bs i).tm)
end Go.Proofs.YtgcmbkoejjcjlaaGreatDoor.A
open Go Go.RowKit Go.Proofs.YtgcmbkoejjcjlaaGreatDoor.K
set_option linter.unusedVariables false
set_option maxRecDepth 100000
namespace Go.Proofs.YtgcmbkoejjcjlaaGreatDoor.T
section
variable (K : Kont) (E : PanK) (k1 k2 k3 k4 k5 : Env → Hp → Prop) (x0 x1 x2 x3 x4 x5 x6 x7 x8 x9 x10 x11 x12 x13 x14 x15 x16 x17 x18 x19 x20 x21 x22 x23 x24 x25 x26 x27 x28 x29 x30 x31 x32 x33 x34 x35 x36 x37 x38 x39 x40 x41 x42 x43 x44 x45 x46 x47 x48 x49 x50 x51 x52 x53 x54 x55 x56 x57 x58 x59 x60 x61 x62 x63 x64 x65 x66 x67 x68 x69 x70 x71 x72 x73 x74 x75 x76 x77 x78 x79 x80 x81 x82 x83 x84 x85 x86 x87 x88 x89 x90 x91 x92 x93 x94 x95 x96 x97 x98 x99 x100 v0 v1 v2 v3 v4 v5 v6 v7 v8 v9 v10 v11 v12 v13 v14 v15 v16 v17 v18 v19 v20 v21 v22 v23 v24 v25 v26 v27 v28 v29 v30 v31 v32 v33 v34 v35 v36 v37 v38 v39 v40 v41 v42 v43 v44 v45 v46 v47 v48 v49 v50 v51 v52 v53 v54 v55 v56 v57 v58 v59 v60 v61 v62 v63 v64 v65 v66 v67 v68 v69 v70 v71 v72 v73 v74 v75 v76 v77 v78 v79 v80 v81 v82 v83 v84 v85 v86 v87 v88 v89 v90 v91 v92 v93 v94 v95 v96 v97 v98 v99 v100 : Value) (j : Nat → Value)
abbrev q4 : QD := bodyQ Tryz.prog Tryz.f4.results.toList K E
abbrev d4 (p : List Nat) : QD → Env → Hp → Prop := den Tryz.prog (sel (bodyOf Tryz.f4) p)
end
section
variable {K : Kont} {E : PanK} {k1 k2 k3 k4 k5 : Env → Hp → Prop} {σ : Type} {x0 x1 x2 x3 x4 x5 x6 x7 x8 x9 x10 x11 x12 x13 x14 x15 x16 x17 x18 x19 x20 x21 x22 x23 x24 x25 x26 x27 x28 x29 x30 x31 x32 x33 x34 x35 x36 x37 x38 x39 x40 x41 x42 x43 x44 x45 x46 x47 x48 x49 x50 x51 x52 x53 x54 x55 x56 x57 x58 x59 x60 x61 x62 x63 x64 x65 x66 x67 x68 x69 x70 x71 x72 x73 x74 x75 x76 x77 x78 x79 x80 x81 x82 x83 x84 x85 x86 x87 x88 x89 x90 x91 x92 x93 x94 x95 x96 x97 x98 x99 x100 v0 v1 v2 v3 v4 v5 v6 v7 v8 v9 v10 v11 v12 v13 v14 v15 v16 v17 v18 v19 v20 v21 v22 v23 v24 v25 v26 v27 v28 v29 v30 v31 v32 v33 v34 v35 v36 v37 v38 v39 v40 v41 v42 v43 v44 v45 v46 v47 v48 v49 v50 v51 v52 v53 v54 v55 v56 v57 v58 v59 v60 v61 v62 v63 v64 v65 v66 v67 v68 v69 v70 v71 v72 v73 v74 v75 v76 v77 v78 v79 v80 v81 v82 v83 v84 v85 v86 v87 v88 v89 v90 v91 v92 v93 v94 v95 v96 v97 v98 v99 v100 : Value} {h : Hp} {j : Nat → Value}
end
end Go.Proofs.YtgcmbkoejjcjlaaGreatDoor.T
open Go Go.RowKit Go.Proofs.YtgcmbkoejjcjlaaGreatDoor.K Go.Proofs.YtgcmbkoejjcjlaaGreatDoor.T
set_option linter.unusedVariables false
set_option linter.unusedSimpArgs false
namespace Go.Proofs.YtgcmbkoejjcjlaaGreatDoor.A
variable {F F' : Nat → Option (List Value)} {M M' : Nat → Option Chunk} {N N' : Nat} {K : Kont} {E : PanK}
theorem foldP_keys : ∀ (l t : List Rw) (r : Rw), r ∈ l.foldl (fun t r => layR t r.1 r.2) t → (∃ x ∈ l, x.1 = r.1) ∨ r ∈ t
  | [], t, r, h => .inr h
  | x :: l, t, r, h => by
    rcases foldP_keys l _ r h with ⟨y, hy, e⟩ | h
    · exact .inl ⟨y, List.mem_cons_of_mem _ hy, e⟩
    · rcases layR_keys t x.1 x.2 r h with h | h
      · exact .inl ⟨x, List.mem_cons_self, h.symm⟩
      · exact .inr h
theorem tabP_keys (l : List Rw) (r : Rw) (h : r ∈ tab l) : ∃ x ∈ l, x.1 = r.1 := (foldP_keys l [] r h).elim id (fun h => by cases h)
theorem okH.totalP {l : List Dm} {n m : Nat} {h : List En} (o : okH l n m h) : ((h.map (·.2)).flatten).length ≤ n * m := by
  have key : ∀ (h : List En), (∀ e ∈ h, e.2.length ≤ m) → ((h.map (·.2)).flatten).length ≤ h.length * m := by
    intro h
    induction h with
    | nil => intro _; simp
    | cons e h ih =>
      intro hp
      have h1 := ih fun x hx => hp x (List.mem_cons_of_mem _ hx)
      have h2 := hp e List.mem_cons_self
      rw [List.map_cons, List.flatten_cons, List.length_append, List.length_cons, Nat.succ_mul]; omega
  exact Nat.le_trans (key h o.fl) (Nat.mul_le_mul_right _ o.le)
theorem inFP_okK {l : List Dm} (hl : goodDims l) {k : List Int} (h : inF l k = true) : A.okK k := by
  have hlen := inF_len h
  unfold inF at h
  rw [Bool.and_eq_true, List.all_eq_true] at h
  have h4 := hl.2.1
  refine ⟨by omega, fun x hx => ?_⟩
  obtain ⟨i, hi, rfl⟩ := List.mem_iff_getElem.1 hx
  have hi' : i < l.length := by omega
  have := h.2 i (List.mem_range.2 hi')
  unfold inP at this
  rw [getD_at hi, getD_at hi'] at this
  have h1 := of_decide_eq_true this
  have h2 := hl.2.2 _ (List.getElem_mem hi')
  unfold i64
  omega
theorem okH.okKP {l : List Dm} (hl : goodDims l) {n m : Nat} {h : List En} (o : okH l n m h) : ∀ e ∈ h, ∀ f ∈ e.2, A.okK f.1 := fun e he f hf => inFP_okK hl (o.fi e he f hf)
theorem okH.tabP {l : List Dm} (hl : goodDims l) {n m : Nat} {h : List En} (o : okH l n m h) (t : Int) : ∀ r ∈ A.tab ((allI h (upTo h t)).map fr1), A.okK r.1 := fun r hr => by
  obtain ⟨x, hx, e⟩ := tabP_keys _ r hr
  obtain ⟨f, hf, rfl⟩ := List.mem_map.1 hx
  rw [allI_till o.rs] at hf
  obtain ⟨d, hd, hfd⟩ := tillF_mem hf
  rw [← e]; exact o.okKP hl d hd f hfd
theorem queryP.box {cs : List Value} {m lo hi : List Int} (h : queryD F cs m lo hi) : cs.length = 3 ∧ ∀ c ∈ cs, c.oneCell' = true := by
  obtain ⟨a, b, c, rfl, h1, h2, h3, _⟩ := h
  obtain ⟨a1, c1, rfl, _⟩ := h1.form
  obtain ⟨a2, c2, rfl, _⟩ := h2.form
  obtain ⟨a3, c3, rfl, _⟩ := h3.form
  exact ⟨rfl, List.all_eq_true.1 rfl⟩
theorem nwaits {bs : Bts} {ws ws' : List Int} (h : waits bs ws) (h' : waits bs ws') : ws = ws' := rises_ext h.1 h'.1 fun x => by rw [h.2, h'.2]
end Go.Proofs.YtgcmbkoejjcjlaaGreatDoor.A
open Go Go.RowKit Go.Proofs.YtgcmbkoejjcjlaaGreatDoor.K
set_option linter.unusedVariables false
set_option maxRecDepth 100000
namespace Go.Proofs.YtgcmbkoejjcjlaaGreatDoor.T
section
variable (K : Kont) (E : PanK) (k1 k2 k3 k4 k5 : Env → Hp → Prop) (x0 x1 x2 x3 x4 x5 x6 x7 x8 x9 x10 x11 x12 x13 x14 x15 x16 x17 x18 x19 x20 x21 x22 x23 x24 x25 x26 x27 x28 x29 x30 x31 x32 x33 x34 x35 x36 x37 x38 x39 x40 x41 x42 x43 x44 x45 x46 x47 x48 x49 x50 x51 x52 x53 x54 x55 x56 x57 x58 x59 x60 x61 x62 x63 x64 x65 x66 x67 x68 x69 x70 x71 x72 x73 x74 x75 x76 x77 x78 x79 x80 x81 x82 x83 x84 x85 x86 x87 x88 x89 x90 x91 x92 x93 x94 x95 x96 x97 x98 x99 x100 x101 x102 x103 x104 x105 x106 x107 x108 x109 x110 x111 x112 x113 x114 x115 x116 x117 x118 x119 x120 x121 x122 x123 v0 v1 v2 v3 v4 v5 v6 v7 v8 v9 v10 v11 v12 v13 v14 v15 v16 v17 v18 v19 v20 v21 v22 v23 v24 v25 v26 v27 v28 v29 v30 v31 v32 v33 v34 v35 v36 v37 v38 v39 v40 v41 v42 v43 v44 v45 v46 v47 v48 v49 v50 v51 v52 v53 v54 v55 v56 v57 v58 v59 v60 v61 v62 v63 v64 v65 v66 v67 v68 v69 v70 v71 v72 v73 v74 v75 v76 v77 v78 v79 v80 v81 v82 v83 v84 v85 v86 v87 v88 v89 v90 v91 v92 v93 v94 v95 v96 v97 v98 v99 v100 v101 v102 v103 v104 v105 v106 v107 v108 v109 v110 v111 v112 v113 v114 v115 v116 v117 v118 v119 v120 v121 v122 v123 : Value) (j : Nat → Value)
abbrev q5 : QD := bodyQ Tryz.prog Tryz.f5.results.toList K E
abbrev d5 (p : List Nat) : QD → Env → Hp → Prop := den Tryz.prog (sel (bodyOf Tryz.f5) p)
end
section
variable {K : Kont} {E : PanK} {k1 k2 k3 k4 k5 : Env → Hp → Prop} {σ : Type} {x0 x1 x2 x3 x4 x5 x6 x7 x8 x9 x10 x11 x12 x13 x14 x15 x16 x17 x18 x19 x20 x21 x22 x23 x24 x25 x26 x27 x28 x29 x30 x31 x32 x33 x34 x35 x36 x37 x38 x39 x40 x41 x42 x43 x44 x45 x46 x47 x48 x49 x50 x51 x52 x53 x54 x55 x56 x57 x58 x59 x60 x61 x62 x63 x64 x65 x66 x67 x68 x69 x70 x71 x72 x73 x74 x75 x76 x77 x78 x79 x80 x81 x82 x83 x84 x85 x86 x87 x88 x89 x90 x91 x92 x93 x94 x95 x96 x97 x98 x99 x100 x101 x102 x103 x104 x105 x106 x107 x108 x109 x110 x111 x112 x113 x114 x115 x116 x117 x118 x119 x120 x121 x122 x123 v0 v1 v2 v3 v4 v5 v6 v7 v8 v9 v10 v11 v12 v13 v14 v15 v16 v17 v18 v19 v20 v21 v22 v23 v24 v25 v26 v27 v28 v29 v30 v31 v32 v33 v34 v35 v36 v37 v38 v39 v40 v41 v42 v43 v44 v45 v46 v47 v48 v49 v50 v51 v52 v53 v54 v55 v56 v57 v58 v59 v60 v61 v62 v63 v64 v65 v66 v67 v68 v69 v70 v71 v72 v73 v74 v75 v76 v77 v78 v79 v80 v81 v82 v83 v84 v85 v86 v87 v88 v89 v90 v91 v92 v93 v94 v95 v96 v97 v98 v99 v100 v101 v102 v103 v104 v105 v106 v107 v108 v109 v110 v111 v112 v113 v114 v115 v116 v117 v118 v119 v120 v121 v122 v123 : Value} {h : Hp} {j : Nat → Value}
end
end Go.Proofs.YtgcmbkoejjcjlaaGreatDoor.T
open Go Go.RowKit Go.Proofs.YtgcmbkoejjcjlaaGreatDoor.K Go.Proofs.YtgcmbkoejjcjlaaGreatDoor.T
set_option linter.unusedVariables false
set_option linter.unusedSimpArgs false
namespace Go.Proofs.YtgcmbkoejjcjlaaGreatDoor.A
variable {F F' : Nat → Option (List Value)} {M M' : Nat → Option Chunk} {N N' : Nat} {K : Kont} {E : PanK}
noncomputable def qres (l : List Dm) (h : List En) (bs : Bts) (t : Int) (m lo hi : List Int) : List Rw × Nat := open Classical in if waits bs [] then (runT l (tab ((allI h (upTo h t)).map fr1)) m lo hi, runE l (tab ((allI h (upTo h t)).map fr1)) m lo hi) else ([], 141)
theorem qres_w {l : List Dm} {h : List En} {bs : Bts} {t : Int} {m lo hi ws : List Int} (hw : waits bs ws) (h0 : 0 < ws.length) : qres l h bs t m lo hi = ([], 141) := if_neg fun h => by rw [nwaits hw h] at h0; simp at h0
theorem qres_len {l : List Dm} (hgd : goodDims l) {h : List En} (o : okH l 5000 200 h) {bs : Bts} {t : Int} {m lo hi : List Int} : (qres l h bs t m lo hi).1.length ≤ 140737488351232 := by
  unfold qres; split
  · have h1 := runT_len (l := l) (t := tab ((allI h (upTo h t)).map fr1)) (m := m) (lo := lo) (hi := hi)
    have h2 := tab_len ((allI h (upTo h t)).map fr1)
    have h3 := o.totalP
    rw [List.length_map] at h2
    have h4 : (allI h (upTo h t)).length ≤ ((h.map (·.2)).flatten).length := by
      rw [allI_till o.rs]
      exact Nat.le_trans (tillF_le h t h.length |> fun q => by rw [List.take_length] at q; exact q) (Nat.le_refl _)
    show (runT l (tab ((allI h (upTo h t)).map fr1)) m lo hi).length ≤ _
    omega
  · simp
section
variable {B p g mb : Nat} {hv dv : Value} {rows : List (List Value)} {l : List Dm} {h : List En} {bs : Bts} {tk : Int}
theorem pq_c {D : List Int} {cs : List Value} {t : Int} {m lo hi : List Int} (hE : E [] badH) (P : isPart F M B p g mb hv dv rows l h bs tk) (o : okP l D h bs) (hD : D.length ≤ 12) (hgd : goodDims l) (hq : queryD F cs m lo hi) (hmi : ∀ x ∈ m, i64 x)
    (k : ∀ v' F' N', (Hp.mk F' M N').wf → subF F F' → N ≤ N' → tblD F' v' (qres l h bs t m lo hi).1 → K (.tuple #[v', .int .u16 (((qres l h bs t m lo hi).2 : Nat) : Int)]) ⟨F', M, N'⟩) :
    callv Tryz.prog (.func (.func 19) #[] #[]) #[.pointer (some ⟨p, 0, none⟩), .agg cs.toArray, .int .u32 t] K E ⟨F, M, N⟩ := by
  have hl4 := hgd.2.1
  refine pquery_c hE P (Nat.le_trans o.len hD) (by omega) o.oh.le o.oh.totalP (o.oh.okKP hgd) hq hmi (o.oh.tabP hgd t) (fun ws F10 N10 h0 hws hw10 hF10 hN10 => ?_) (fun hws u10 F10 N10 hw10 hF10 hN10 ht10 => ?_)
  · have := k (.slice none 0 0) F10 N10 hw10 hF10 hN10 (by rw [qres_w hws h0]; exact tblD.nil)
    rw [qres_w hws h0] at this; exact this
  · have e : qres l h bs t m lo hi = (runT l (tab ((allI h (upTo h t)).map fr1)) m lo hi, runE l (tab ((allI h (upTo h t)).map fr1)) m lo hi) := if_pos hws
    rw [e] at k
    exact k u10 F10 N10 hw10 hF10 hN10 ht10
end
def D10 : List Int := D9 ++ [77]
end Go.Proofs.YtgcmbkoejjcjlaaGreatDoor.A
open Go Go.RowKit Go.Proofs.YtgcmbkoejjcjlaaGreatDoor.K
set_option linter.unusedVariables false
set_option maxRecDepth 100000
namespace Go.Proofs.YtgcmbkoejjcjlaaGreatDoor.T
section
variable (K : Kont) (E : PanK) (k1 k2 k3 k4 k5 : Env → Hp → Prop) (x0 x1 x2 x3 x4 x5 x6 x7 x8 x9 x10 x11 x12 x13 x14 x15 x16 x17 x18 x19 x20 x21 x22 x23 x24 x25 x26 x27 x28 x29 x30 x31 x32 x33 x34 x35 x36 x37 x38 x39 x40 x41 x42 x43 x44 x45 x46 x47 x48 x49 x50 x51 x52 x53 x54 x55 x56 x57 x58 x59 x60 x61 x62 x63 x64 x65 x66 x67 x68 x69 x70 x71 x72 x73 x74 x75 x76 x77 x78 x79 x80 x81 x82 x83 x84 x85 x86 x87 x88 x89 x90 x91 x92 x93 x94 x95 x96 x97 x98 x99 x100 x101 x102 x103 x104 x105 x106 v0 v1 v2 v3 v4 v5 v6 v7 v8 v9 v10 v11 v12 v13 v14 v15 v16 v17 v18 v19 v20 v21 v22 v23 v24 v25 v26 v27 v28 v29 v30 v31 v32 v33 v34 v35 v36 v37 v38 v39 v40 v41 v42 v43 v44 v45 v46 v47 v48 v49 v50 v51 v52 v53 v54 v55 v56 v57 v58 v59 v60 v61 v62 v63 v64 v65 v66 v67 v68 v69 v70 v71 v72 v73 v74 v75 v76 v77 v78 v79 v80 v81 v82 v83 v84 v85 v86 v87 v88 v89 v90 v91 v92 v93 v94 v95 v96 v97 v98 v99 v100 v101 v102 v103 v104 v105 v106 : Value) (j : Nat → Value)
abbrev q6 : QD := bodyQ Tryz.prog Tryz.f6.results.toList K E
abbrev d6 (p : List Nat) : QD → Env → Hp → Prop := den Tryz.prog (sel (bodyOf Tryz.f6) p)
def m6_1_1_1_1_1_1_1_0_1_0_0 (j : Nat → Value) : Env := #[x0, x1, x2, x3, x4, x5, x6, x7, x8, x9, (j 10), x11, x12, x13, x14, v15, (j 16), x17, x18, x19, x20, x21, x22, x23, x24, x25, x26, x27, x28, x29, x30, x31, x32, x33, x34, x35, x36, x37, x38, x39, x40, x41, x42, x43, x44, x45, x46, x47, x48, x49, x50, (j 51), (j 52), (j 53), (j 54), (j 55), (j 56), (j 57), (j 58), (j 59), (j 60), (j 61), (j 62), (j 63), (j 64), (j 65), (j 66), (j 67), (j 68), (j 69), (j 70), (j 71), (j 72), x73, x74, x75, x76, x77, x78, x79, x80, x81, x82, x83, x84, x85, x86, x87, x88, x89, x90, x91, x92, x93, x94, x95, x96, x97, x98, x99, x100, x101, x102, x103, x104, x105, x106]
theorem t6 : d6 [] (q6 K E) #[x0, x1, x2, x3, x4, U, U, U, U, U, U, U, U, U, U, U, U, U, U, U, U, U, U, U, U, U, U, U, U, U, U, U, U, U, U, U, U, U, U, U, U, U, U, U, U, U, U, U, U, U, U, U, U, U, U, U, U, U, U, U, U, U, U, U, U, U, U, U, U, U, U, U, U, U, U, U, U, U, U, U, U, U, U, U, U, U, U, U, U, U, U, U, U, U, U, U, U, U, U, U, U, U, U, U, U, U, U] =
  pv (lenV x1) fun t1 =>
  pv (binV .none .gtr t1 (.int .i64 30)) fun t2 =>
  gdK t2 false (fun k => k x1) fun t3 =>
  gdK t2 false (fun k => callv Tryz.prog (.func (.func 10) #[] #[]) #[t3] k E) fun t4 =>
  gdK t2 false (fun k => pv (binV .none .gtr t4 (.int .i64 400)) k) fun t5 =>
  pv (pickV t2 (.bool true) t5) fun t6 =>
  gdK t6 false (fun k => callv Tryz.prog (.func (.func 11) #[] #[]) #[] k E) fun t7 =>
  gdK t6 false (fun k => pv (unV .not t7) k) fun t8 =>
  pv (pickV t6 (.bool true) t8) fun t9 =>
  cnd t9 (
   callv Tryz.prog (.func (.func 11) #[] #[]) #[] (fun t10 =>
   K t10) E) (
   callv Tryz.prog (.func (.func 12) #[] #[]) #[x0] (fun t11 =>
   callv Tryz.prog (.func (.func 13) #[] #[]) #[t11] (fun t12 =>
   callv Tryz.prog (.func (.func 13) #[] #[]) #[t11] (fun t13 =>
   pv (binV .ptr .eql t12 (.pointer none)) fun t14 =>
   gdK t14 false (fun k => k t13) fun t15 =>
   gdK t14 false (fun k => pv (binV .ptr .eql t15 (.pointer none)) k) fun t16 =>
   pv (pickV t14 (.bool true) t16) fun t17 =>
   cnd t17 (
    K (.bool false)) (
    callv Tryz.prog (.func (.func 17) #[] #[]) #[t11, x2, x3, x4] (fun t18 =>
    nw 55 [(.slice none 0 0), (.slice none 0 0), (.slice none 0 0)] fun t19 =>
    st 3 t19 t18 fun _ =>
    lp (fun k1 => d6 [1, 1, 1, 1, 1, 1, 1, 0, 1, 0, 0] (thenD k1 (blk 0 (thenD (d6 [1, 1, 1, 1, 1, 1, 1, 1] (q6 K E)) (q6 K E))))) (m6_1_1_1_1_1_1_1_0_1_0_0 x0 x1 x2 x3 x4 U U U U U t11 t12 t13 t19 U U U U x1 t1 t2 t2 t3 t4 t5 t6 t6 t7 t8 t9 U x0 t11 t11 t12 t11 t13 t12 t14 t14 t15 t16 t17 t11 x2 x3 x4 t18 U U U U U U U U U U U U U U U U U U U U U U U U U U U U U U U U U U (.int .i64 0) (jf #[U, U, U, U, U, U, U, U, U, U, (.bool false)]))) E)) E) E) E) := by kernel_rfl
theorem t6_1_1_1_1_1_1_1_0_1_0_0 : d6 [1, 1, 1, 1, 1, 1, 1, 0, 1, 0, 0] (thenD k1 (blk 0 (thenD (d6 [1, 1, 1, 1, 1, 1, 1, 1] (q6 K E)) (q6 K E)))) (m6_1_1_1_1_1_1_1_0_1_0_0 x0 x1 x2 x3 x4 x5 x6 x7 x8 x9 x11 x12 x13 x14 x17 x18 x19 x20 x21 x22 x23 x24 x25 x26 x27 x28 x29 x30 x31 x32 x33 x34 x35 x36 x37 x38 x39 x40 x41 x42 x43 x44 x45 x46 x47 x48 x49 x50 x73 x74 x75 x76 x77 x78 x79 x80 x81 x82 x83 x84 x85 x86 x87 x88 x89 x90 x91 x92 x93 x94 x95 x96 x97 x98 x99 x100 x101 x102 x103 x104 x105 x106 v15 j) =
  pv (lenV x1) fun t1 =>
  pv (binV .none .lss v15 t1) fun t2 =>
  cnd t2 (
   pv (iaV none 8 x1 v15) fun t3 =>
   ld true 8 t3 fun t4 =>
   callv Tryz.prog (.func (.func 15) #[] #[]) #[x11, t4] (fun t5 =>
   nw 44 [(.int .u8 0), (.int .u32 0), (.int .u32 0), (.slice none 0 0), (.slice none 0 0), (.int .u32 0), (.slice none 0 0), (.int .i64 0), (.int .i64 0), (.slice none 0 0)] fun t6 =>
   st 10 t6 t5 fun _ =>
   ld true 10 t6 fun t7 =>
   callv Tryz.prog (.func (.func 14) #[] #[]) #[x12, t7] (fun t8 =>
   pv (binV .none .eql t8 (.int .u16 0)) fun t9 =>
   gdK t9 true (fun k => k x13) fun t10 =>
   gdK t9 true (fun k => ld true 10 t6 k) fun t11 =>
   gdK t9 true (fun k => callv Tryz.prog (.func (.func 14) #[] #[]) #[t10, t11] k E) fun t12 =>
   gdK t9 true (fun k => pv (binV .none .neq t12 (.int .u16 0)) k) fun t13 =>
   pv (pickV t9 t13 (.bool false)) fun t14 =>
   cnd t14 (
    K (.bool false)) (
    pv (binV .none .add v15 (.int .i64 1)) fun t15 =>
    k1 (m6_1_1_1_1_1_1_1_0_1_0_0 x0 x1 x2 x3 x4 x5 x6 x7 x8 x9 x11 x12 x13 x14 x17 x18 x19 x20 x21 x22 x23 x24 x25 x26 x27 x28 x29 x30 x31 x32 x33 x34 x35 x36 x37 x38 x39 x40 x41 x42 x43 x44 x45 x46 x47 x48 x49 x50 x73 x74 x75 x76 x77 x78 x79 x80 x81 x82 x83 x84 x85 x86 x87 x88 x89 x90 x91 x92 x93 x94 x95 x96 x97 x98 x99 x100 x101 x102 x103 x104 x105 x106 t15 (jf #[U, U, U, U, U, U, U, U, U, U, (j 10), U, U, U, U, U, t6, U, U, U, U, U, U, U, U, U, U, U, U, U, U, U, U, U, U, U, U, U, U, U, U, U, U, U, U, U, U, U, U, U, U, v15, x1, t1, t2, v15, t15, x11, x1, v15, t3, t4, t5, x12, t7, t8, t9, t9, t10, t11, t12, t13, t14])))) E) E) (
   ld true 3 x14 fun t16 =>
   callv Tryz.prog (.func (.func 19) #[] #[]) #[x12, t16, (.int .u32 40)] (fun t17 =>
   pv (exV 0 t17) fun t18 =>
   pv (exV 1 t17) fun t19 =>
   ld true 3 x14 fun t20 =>
   callv Tryz.prog (.func (.func 19) #[] #[]) #[x13, t20, (.int .u32 40)] (fun t21 =>
   pv (exV 0 t21) fun t22 =>
   pv (exV 1 t21) fun t23 =>
   pv (binV .none .eql t19 t23) fun t24 =>
   gdK t24 true (fun k => k t18) fun t25 =>
   gdK t24 true (fun k => k t22) fun t26 =>
   gdK t24 true (fun k => callv Tryz.prog (.func (.func 21) #[] #[]) #[t25, t26] k E) fun t27 =>
   pv (pickV t24 t27 (.bool false)) fun t28 =>
   gdK t28 true (fun k => k x12) fun t29 =>
   gdK t28 true (fun k => callv Tryz.prog (.func (.func 18) #[] #[]) #[t29] k E) fun t30 =>
   gdK t28 true (fun k => k x13) fun t31 =>
   gdK t28 true (fun k => callv Tryz.prog (.func (.func 18) #[] #[]) #[t31] k E) fun t32 =>
   gdK t28 true (fun k => callv Tryz.prog (.func (.func 22) #[] #[]) #[t30, t32] k E) fun t33 =>
   pv (pickV t28 t33 (.bool false)) fun t34 =>
   gdK t34 true (fun k => k x12) fun t35 =>
   gdK t34 true (fun k => callv Tryz.prog (.func (.func 23) #[] #[]) #[t35] k E) fun t36 =>
   gdK t34 true (fun k => k x13) fun t37 =>
   gdK t34 true (fun k => callv Tryz.prog (.func (.func 23) #[] #[]) #[t37] k E) fun t38 =>
   gdK t34 true (fun k => pv (binV .none .eql t36 t38) k) fun t39 =>
   pv (pickV t34 t39 (.bool false)) fun t40 =>
   K t40) E) E) := by kernel_rfl
end
section
variable {K : Kont} {E : PanK} {k1 k2 k3 k4 k5 : Env → Hp → Prop} {σ : Type} {x0 x1 x2 x3 x4 x5 x6 x7 x8 x9 x10 x11 x12 x13 x14 x15 x16 x17 x18 x19 x20 x21 x22 x23 x24 x25 x26 x27 x28 x29 x30 x31 x32 x33 x34 x35 x36 x37 x38 x39 x40 x41 x42 x43 x44 x45 x46 x47 x48 x49 x50 x51 x52 x53 x54 x55 x56 x57 x58 x59 x60 x61 x62 x63 x64 x65 x66 x67 x68 x69 x70 x71 x72 x73 x74 x75 x76 x77 x78 x79 x80 x81 x82 x83 x84 x85 x86 x87 x88 x89 x90 x91 x92 x93 x94 x95 x96 x97 x98 x99 x100 x101 x102 x103 x104 x105 x106 v0 v1 v2 v3 v4 v5 v6 v7 v8 v9 v10 v11 v12 v13 v14 v15 v16 v17 v18 v19 v20 v21 v22 v23 v24 v25 v26 v27 v28 v29 v30 v31 v32 v33 v34 v35 v36 v37 v38 v39 v40 v41 v42 v43 v44 v45 v46 v47 v48 v49 v50 v51 v52 v53 v54 v55 v56 v57 v58 v59 v60 v61 v62 v63 v64 v65 v66 v67 v68 v69 v70 v71 v72 v73 v74 v75 v76 v77 v78 v79 v80 v81 v82 v83 v84 v85 v86 v87 v88 v89 v90 v91 v92 v93 v94 v95 v96 v97 v98 v99 v100 v101 v102 v103 v104 v105 v106 : Value} {h : Hp} {j : Nat → Value}
theorem l6_1_1_1_1_1_1_1_0_1_0_0 (f15 : σ → Value) (I : σ → Hp → Prop) (μ : σ → Nat) (s0 : σ) (e15 : v15 = f15 s0) (h0 : h.wf → ∃ h', h.wk h' ∧ I s0 h')
 (round : ∀ (k1 : Env → Hp → Prop) (s : σ) (j : Nat → Value) (h : Hp), I s h → h.wf → (∀ s' j' h', μ s' < μ s → (h'.wf → ∃ h'', h'.wk h'' ∧ I s' h'') → k1 (m6_1_1_1_1_1_1_1_0_1_0_0 x0 x1 x2 x3 x4 x5 x6 x7 x8 x9 x11 x12 x13 x14 x17 x18 x19 x20 x21 x22 x23 x24 x25 x26 x27 x28 x29 x30 x31 x32 x33 x34 x35 x36 x37 x38 x39 x40 x41 x42 x43 x44 x45 x46 x47 x48 x49 x50 x73 x74 x75 x76 x77 x78 x79 x80 x81 x82 x83 x84 x85 x86 x87 x88 x89 x90 x91 x92 x93 x94 x95 x96 x97 x98 x99 x100 x101 x102 x103 x104 x105 x106 (f15 s') j') h') → d6 [1, 1, 1, 1, 1, 1, 1, 0, 1, 0, 0] (thenD k1 (blk 0 (thenD (d6 [1, 1, 1, 1, 1, 1, 1, 1] (q6 K E)) (q6 K E)))) (m6_1_1_1_1_1_1_1_0_1_0_0 x0 x1 x2 x3 x4 x5 x6 x7 x8 x9 x11 x12 x13 x14 x17 x18 x19 x20 x21 x22 x23 x24 x25 x26 x27 x28 x29 x30 x31 x32 x33 x34 x35 x36 x37 x38 x39 x40 x41 x42 x43 x44 x45 x46 x47 x48 x49 x50 x73 x74 x75 x76 x77 x78 x79 x80 x81 x82 x83 x84 x85 x86 x87 x88 x89 x90 x91 x92 x93 x94 x95 x96 x97 x98 x99 x100 x101 x102 x103 x104 x105 x106 (f15 s) j) h) :
 lp (fun k1 => d6 [1, 1, 1, 1, 1, 1, 1, 0, 1, 0, 0] (thenD k1 (blk 0 (thenD (d6 [1, 1, 1, 1, 1, 1, 1, 1] (q6 K E)) (q6 K E))))) (m6_1_1_1_1_1_1_1_0_1_0_0 x0 x1 x2 x3 x4 x5 x6 x7 x8 x9 x11 x12 x13 x14 x17 x18 x19 x20 x21 x22 x23 x24 x25 x26 x27 x28 x29 x30 x31 x32 x33 x34 x35 x36 x37 x38 x39 x40 x41 x42 x43 x44 x45 x46 x47 x48 x49 x50 x73 x74 x75 x76 x77 x78 x79 x80 x81 x82 x83 x84 x85 x86 x87 x88 x89 x90 x91 x92 x93 x94 x95 x96 x97 x98 x99 x100 x101 x102 x103 x104 x105 x106 v15 j) h := by
 subst e15
 exact loop_r (fun s j => m6_1_1_1_1_1_1_1_0_1_0_0 x0 x1 x2 x3 x4 x5 x6 x7 x8 x9 x11 x12 x13 x14 x17 x18 x19 x20 x21 x22 x23 x24 x25 x26 x27 x28 x29 x30 x31 x32 x33 x34 x35 x36 x37 x38 x39 x40 x41 x42 x43 x44 x45 x46 x47 x48 x49 x50 x73 x74 x75 x76 x77 x78 x79 x80 x81 x82 x83 x84 x85 x86 x87 x88 x89 x90 x91 x92 x93 x94 x95 x96 x97 x98 x99 x100 x101 x102 x103 x104 x105 x106 (f15 s) j) I μ round s0 j h0
end
end Go.Proofs.YtgcmbkoejjcjlaaGreatDoor.T
open Go Go.RowKit Go.Proofs.YtgcmbkoejjcjlaaGreatDoor.K Go.Proofs.YtgcmbkoejjcjlaaGreatDoor.T
set_option linter.unusedVariables false
set_option linter.unusedSimpArgs false
namespace Go.Proofs.YtgcmbkoejjcjlaaGreatDoor.A
variable {F F' : Nat → Option (List Value)} {M M' : Nat → Option Chunk} {N N' : Nat} {K : Kont} {E : PanK}
theorem sameids_c {u v : Value} {a : List Int} (hu : sF F 1 u a.length (ick .u32 a)) (hv : sF F 1 v a.length (ick .u32 a)) (hla : a.length ≤ 1000000000) (k : (Hp.mk F M N).wf → K (.bool true) ⟨F, M, N⟩) :
    callv Tryz.prog (.func (.func 22) #[] #[]) #[u, v] K E ⟨F, M, N⟩ := by
  refine callv_of_text mixed Tryz.func22 (by kernel_rfl) (t22 _ E _ _) (fun hw => ?_)
  refine lenF_r hu ?_
  refine lenF_r hv ?_
  refine neq_f rfl ?_
  try simp only [sS]
  refine l22_1_1_0_1_0_0 (σ := Nat) (fun s => .int .i64 (s : Nat)) (fun i h' => h' = ⟨F, M, N⟩ ∧ i ≤ a.length) (fun i => a.length - i) 0 rfl
    (fun hw11 => ⟨_, wk_refl hw11, rfl, Nat.zero_le _⟩) (fun kk2 i j2 h11 hI2 hw11 next2 => ?_)
  rw [t22_1_1_0_1_0_0]
  obtain ⟨rfl, hi11⟩ := hI2
  refine lenF_r hu ?_
  refine lss_r (fun hlt2 => ?_) (fun hge2 => ?_)
  · have i2 : i < a.length := by omega
    try simp only [sS]
    refine ixk_r hu i2 (fun p11 => ?_)
    refine ixk_r hv i2 (fun p12 => ?_)
    refine neq_f rfl ?_
    try simp only [sS]
    refine inc_r (by omega) ?_
    exact next2 (i + 1) _ _ (by omega) (fun hw13 => ⟨_, wk_refl hw13, rfl, i2⟩)
  · try simp only [sS]
    exact fun hc => ⟨_, wk_refl hc, fun hw' => k hw'⟩
theorem addH_no {l : List Dm} {h : List En} {t : Int} {fs : List Fc} (e : addE l h t fs ≠ 0) : addH l h t fs = h := by unfold addH; rw [if_neg e]
theorem ap_no {l : List Dm} {h : List En} {bs : Bts} {tk : Int} {r : RecA} (e : apE l h bs tk r ≠ 0) : apH l h bs tk r = h ∧ apS l h bs r = bs ∧ apT l h tk r = tk := by
  unfold apE at e
  unfold apH apS apT
  by_cases h1 : r.kind = 1
  · rw [if_pos h1] at e
    rw [if_neg (by omega), if_neg (by omega), if_pos h1, if_neg (by omega)]
    exact ⟨rfl, by unfold ppS; rw [if_neg e], rfl⟩
  rw [if_neg h1] at e
  rw [if_neg h1]
  by_cases h2 : r.kind = 2
  · rw [if_pos h2] at e
    rw [if_pos h2, if_pos h2, if_neg (by omega)]
    refine ⟨?_, by unfold cmS; rw [if_neg e], rfl⟩
    unfold cmE at e
    unfold cmH
    split
    · rename_i hs; rw [if_pos hs] at e; exact addH_no e
    · rfl
  rw [if_neg h2] at e
  rw [if_neg h2, if_neg h2]
  by_cases h3 : r.kind = 3
  · rw [if_pos h3] at e
    rw [if_neg (by omega), if_pos h3, if_neg (by omega)]
    refine ⟨rfl, ?_, rfl⟩
    unfold abE at e
    unfold abS
    split
    · rfl
    · rename_i hs; rw [if_neg hs] at e; exact absurd rfl e
  rw [if_neg h3] at e
  rw [if_neg h3]
  by_cases h7 : r.kind = 7
  · rw [if_pos h7] at e
    rw [if_pos h7, if_pos h7]
    refine ⟨?_, rfl, by unfold tkT; rw [if_neg e]⟩
    unfold tkE at e
    unfold tkH
    split
    · rfl
    · rename_i hs
      rw [if_neg hs] at e
      unfold replF; rw [if_neg e]
  · rw [if_neg h7, if_neg h7]
    exact ⟨rfl, rfl, rfl⟩
set_option maxRecDepth 10000 in
set_option maxHeartbeats 16000000 in
theorem partAgain_c {um uo uc ua ub : Value} {m : List (Int × List Int)} {os : List OpP} {c a b : List Int} (hE : E [] badH) (hm : cutsD F um m) (hml : m.length ≤ 140737488351232) (hmc : ∀ c ∈ m, (0 ≤ c.1 ∧ c.1 < 65536) ∧ ∀ x ∈ c.2, 0 ≤ x ∧ x < 256)
    (hos : opsP F uo os) (hol : os.length ≤ 140737488351232) (hc : sF F 1 uc c.length (ick .u8 c)) (hcl : c.length ≤ 140737488351232) (hcc : ∀ x ∈ c, 0 ≤ x ∧ x < 256)
    (ha : sF F 1 ua a.length (ick .u16 a)) (hal : a.length ≤ 140737488351232) (hac : ∀ x ∈ a, 0 ≤ x ∧ x < 65536)
    (hb : sF F 1 ub b.length (ick .u16 b)) (hbl : b.length ≤ 140737488351232) (hbc : ∀ x ∈ b, 0 ≤ x ∧ x < 65536) (k : ∀ h, K (.bool true) h) :
    call Tryz.prog 6 #[um, uo, uc, ua, ub] K E ⟨F, M, N⟩ := by
  refine call_text mixed Tryz.func6 (by kernel_rfl) (t6 _ E _ _ _ _ _) (fun hw => ?_)
  have hm0 : clean M N := hw.m
  have kn : ∀ {M : Nat → Option Chunk} {F : Nat → Option (List Value)} {N : Nat}, callv Tryz.prog (.func (.func 11) #[] #[]) #[] (fun v h => h.wf → ∃ h', h.wk h' ∧ (h'.wf → K v h')) E ⟨F, M, N⟩ := known14_c hE (fun F' N' _ _ _ hc => ⟨_, wk_refl hc, fun _ => k _⟩)
  have hlo : lenV uo = some (.int .i64 (os.length : Nat)) := by obtain ⟨rows, h1, _⟩ := hos; obtain ⟨a, c, e, _⟩ := h1.form; rw [e]; rfl
  refine pv_r hlo ?_
  refine gtr_r (fun h1 => ?_) (fun h1 => ?_)
  · try simp only [sS]; exact kn
  try simp only [sS]
  refine heavy14_c hos hol (fun rh hwh => ?_)
  refine gtr_r (fun h2 => ?_) (fun h2 => ?_)
  · try simp only [sS]; exact kn
  try simp only [sS]
  refine known14_c hE (fun F2 N2 hF2 hN2 hw2 => ?_)
  try simp only [sS]
  have hgd := dimsOf_good m (fun c hc => (hmc c hc).1)
  have hok := dimsOf_ok (m := m) (fun c hc => (hmc c hc).1)
  refine dof_c (hm.mono hF2) hml hmc (fun udv F3 N3 hw3 hF3 hN3 hd => ?_)
  generalize dimsOf m = l at *
  have hdv : ∀ d ∈ l, d.2.length ≤ 1000000 := fun d hd => by have := okDim_div (okDims_all hok d hd); omega
  have hl4 := hgd.2.1
  have hds := goodDims_sz hgd
  refine pnew_c hd (by omega) (fun h => absurd h (by rw [hok]; decide)) (fun _ p g mb dv F4 M4 N4 hF4 P4 hM4 hN4 hm4 hw4 => ?_)
  refine pnew_c (hd.mono hF4) (by omega) (fun h => absurd h (by rw [hok]; decide)) (fun _ p2 g2 mb2 dv2 F4' M4' N4' hF4' X4 hM4' hN4' hm4' hw4' => ?_)
  have P4' := P4.up (M' := M4') hm4 hF4' hM4'
  have hpl4 := P4.lt hm4
  refine ptr_ne ?_
  try simp only [sS]
  refine ptr_ne ?_
  try simp only [sS]
  have F04 := hF2.trans (hF3.trans (hF4.trans hF4'))
  refine ask_c ((hd.mono hF4).mono hF4') (hc.mono F04) (ha.mono F04) (hb.mono F04) (by omega) hds hdv hcc hac hbc hcl hal hbl (fun cs F5 N5 hw5 hF5 hN5 hq => ?_)
  obtain ⟨hq3, hq1⟩ := queryP.box hq
  have hlvL := levOf_len l c []
  obtain ⟨hlev, _⟩ := levOf_ok (c := c) (nil_ok l)
  have hqi := okLev_i64 hlvL hlev hdv
  generalize levOf l c [] = qm at *
  generalize boxLo l a b = qlo at *
  generalize boxHi l a b = qhi at *
  have hq' := hq
  obtain ⟨qa, qb, qc, hqs, _⟩ := hq'
  refine nw_r (fun b0 hb0 => ?_)
  refine stM (cs' := cs) ?_ (upd_same _ _ _) (by rw [hqs]; rfl) (by rw [hqs]; rfl) hq1 (by exact Nat.le_of_ble_eq_true rfl)
  rw [upd_upd]
  have hos5 := (hos.mono F04).mono hF5
  have hm5 : clean M4' N5 := hw5.m
  have P5 := (P4'.keep (M' := M4') hF5 (fun _ _ => rfl)).box hm5 hb0 (some (.cells 55 cs 3))
  have X5 := (X4.keep (M' := M4') hF5 (fun _ _ => rfl)).box hm5 hb0 (some (.cells 55 cs 3))
  have hm6 := hm5.new hb0 (some (.cells 55 cs 3))
  have hxl4 := X4.lt hm4'
  have nb : b0 ≠ g ∧ b0 ≠ mb ∧ b0 ≠ p := ⟨fun e => by have := (hpl4 g (.inr (.inr (.inl rfl)))).2; omega, fun e => by have := (hpl4 mb (.inr (.inl rfl))).2; omega, fun e => by have := (hpl4 p (.inl rfl)).2; omega⟩
  have nx : b0 ≠ g2 ∧ b0 ≠ mb2 ∧ b0 ≠ p2 := ⟨fun e => by have := (hxl4 g2 (.inr (.inr (.inl rfl)))).2; omega, fun e => by have := (hxl4 mb2 (.inr (.inl rfl))).2; omega, fun e => by have := (hxl4 p2 (.inl rfl)).2; omega⟩
  have low : ∀ q, q = p ∨ q = mb ∨ q = g → q < N4 := fun q hq => (hpl4 q (by rcases hq with h | h | h; exact .inl h; exact .inr (.inl h); exact .inr (.inr (.inl h)))).2
  refine l6_1_1_1_1_1_1_1_0_1_0_0 (σ := Nat) (fun s => .int .i64 (s : Nat))
    (fun s h' => ∃ F' M' N' hv' rows' hx' rowsx hh bs tk, h' = ⟨F', M', N'⟩ ∧ subF F5 F' ∧ b0 < N' ∧ clean M' N' ∧ s ≤ os.length ∧ isPart F' M' N3 p g mb hv' dv rows' l hh bs tk ∧ isPart F' M' N4 p2 g2 mb2 hx' dv2 rowsx l hh bs tk ∧ okP l D9 hh bs ∧ M' b0 = some (.cells 55 cs 3) ∧ hv'.ownBlock ≠ some b0 ∧ hx'.ownBlock ≠ some b0 ∧ (∀ q, q = p2 ∨ q = mb2 ∨ q = g2 ∨ hx'.ownBlock = some q → hv'.ownBlock ≠ some q)) (fun s => os.length - s) 0 rfl
    (fun hw6 => ⟨_, wk_refl hw6, F5, _, b0 + 1, _, _, _, _, [], [], 0, rfl, subF.refl _, by omega, hm6, Nat.zero_le _, P5, X5, okP.nil _ _, upd_same _ _ _, by simp [Value.ownBlock], by simp [Value.ownBlock], by simp [Value.ownBlock]⟩) (fun kk s j h0 hI hw6 next => ?_)
  rw [t6_1_1_1_1_1_1_1_0_1_0_0]
  obtain ⟨F6, M6, N6, hv6, rows6, hx6, rowsx6, hh, bs, tk, rfl, hF6, hN6, hm6, hi6, P6, X6, o6, g6, v6, w6, d6⟩ := hI
  have hxl6 := X6.lt hm6
  have hpl6 := P6.lt hm6
  refine pv_r hlo ?_
  refine lss_r (fun hlt => ?_) (fun hge => ?_)
  · have i1 : s < os.length := by omega
    try simp only [sS]
    obtain ⟨orows, ho1, ho2⟩ := hos5.mono hF6
    refine row_r ho1 ho2 (by decide) i1 (fun p7 cs7 _ hR hcl hc1 => ?_)
    obtain ⟨ok, _⟩ : os[s].ok ∧ True := by obtain ⟨_, _, _, _, _, _, _, _, _, _, _, h⟩ := hR; exact ⟨h, trivial⟩
    generalize os[s] = op at *
    refine rec14_c hgd ((hd.mono (hF4.trans (hF4'.trans hF5))).mono hF6) hR (fun rs F7 N7 hw7 hF7 hN7 hr7 => ?_)
    obtain ⟨rok, rD⟩ := recOf_ok hgd ok
    have hfl := o6.fl (recOf l op).id
    generalize recOf l op = r at *
    have hrone := hr7.one
    have hm7 : clean M6 N7 := hw7.m
    refine nw_r (fun b7 hb7 => ?_)
    refine stM (cs' := rs) ?_ (upd_same _ _ _) (by obtain ⟨nv, fv, ep, sv, ev, e, _⟩ := hr7; rw [e]; rfl) (by obtain ⟨nv, fv, ep, sv, ev, e, _⟩ := hr7; rw [e]; rfl) hrone.2 (by exact Nat.le_of_ble_eq_true rfl)
    rw [upd_upd]
    obtain ⟨M7, hM7⟩ : ∃ M7, M7 = upd M6 b7 (some (.cells 44 rs [Value.int .u8 0, Value.int .u32 0, Value.int .u32 0, Value.slice none 0 0, Value.slice none 0 0, Value.int .u32 0, Value.slice none 0 0, Value.int .i64 0, Value.int .i64 0, Value.slice none 0 0].length)) := ⟨_, rfl⟩
    rw [← hM7]
    have P7 : isPart F7 M7 N3 p g mb hv6 dv rows6 l hh bs tk := by rw [hM7]; exact (P6.keep (M' := M6) hF7 (fun _ _ => rfl)).box hm7 hb7 _
    have X7 : isPart F7 M7 N4 p2 g2 mb2 hx6 dv2 rowsx6 l hh bs tk := by rw [hM7]; exact (X6.keep (M' := M6) hF7 (fun _ _ => rfl)).box hm7 hb7 _
    have hm8 : clean M7 (b7 + 1) := by rw [hM7]; exact hm7.new hb7 _
    have q7 : M7 b7 = some (.cells 44 rs 10) := by rw [hM7]; exact upd_same _ _ _
    have g7 : M7 b0 = some (.cells 55 cs 3) := by rw [hM7]; exact (upd_ne _ _ (by omega)).trans g6
    clear hM7
    have nlt : ∀ {q : Nat}, q = p ∨ q = mb ∨ q = g ∨ hv6.ownBlock = some q → b7 ≠ q := fun hq e => by have := (hpl6 _ hq).2; omega
    have nlx : ∀ {q : Nat}, q = p2 ∨ q = mb2 ∨ q = g2 ∨ hx6.ownBlock = some q → b7 ≠ q := fun hq e => by have := (hxl6 _ hq).2; omega
    refine ldMa (vs := rs) ?_ q7 (by rw [List.drop_zero, List.take_of_length_le (by omega)]) (by omega)
    refine papply_c P7 (by omega) o6.oh (by omega) hr7 rok (by omega) (fun hv8 F8 M8 N8 rows8 hF8 P8 hM8 hN8 hm9 hw8 => ?_)
    have o8 := o6.ap rok rD tk
    have g8 := hM8 b0 v6 nb.1 nb.2.1 nb.2.2 (by omega)
    have q8 := hM8 b7 (fun e => nlt (.inr (.inr (.inr e))) rfl) (nlt (.inr (.inr (.inl rfl)))) (nlt (.inr (.inl rfl))) (nlt (.inl rfl)) (by omega)
    have x8 : ∀ q, q = p2 ∨ q = mb2 ∨ q = g2 ∨ hx6.ownBlock = some q → M8 q = M7 q ∧ hv8.ownBlock ≠ some q := fun q hq =>
      hM8 q (d6 q hq) (fun e => by have := low g (.inr (.inr rfl)); have := (hxl6 q hq).1; omega) (fun e => by have := low mb (.inr (.inl rfl)); have := (hxl6 q hq).1; omega) (fun e => by have := low p (.inl rfl); have := (hxl6 q hq).1; omega) (by have := (hxl6 q hq).2; omega)
    have X8 := X7.keep (M' := M8) hF8 (fun q hq => (x8 q hq).1)
    have hno := ap_no (l := l) (h := hh) (bs := bs) (tk := tk) (r := r)
    refine eql_r (fun hz => ?_) (fun hz => ?_)
    · have hz' : apE l hh bs tk r = 0 := by omega
      try simp only [sS]
      refine ldMa (vs := rs) ?_ (q8.1.trans q7) (by rw [List.drop_zero, List.take_of_length_le (by omega)]) (by omega)
      refine papply_c X8 (by omega) o6.oh (by omega) (hr7.mono hF8) rok (by omega) (fun hx9 F9 M9 N9 rows9 hF9 X9 hM9 hN9 hmA hw9 => ?_)
      have hxl8 := X8.lt hm9
      have hpl8 := P8.lt hm9
      have xlow : ∀ (q : Nat), (q = p2 ∨ q = mb2 ∨ q = g2 ∨ hx6.ownBlock = some q) → ∀ q' : Nat, (q' = p ∨ q' = mb ∨ q' = g) → q' ≠ q := fun q hq q' hq' e => by have := low q' hq'; have := (hxl6 q hq).1; omega
      have p9 : ∀ q, q = p ∨ q = mb ∨ q = g ∨ hv8.ownBlock = some q → M9 q = M8 q ∧ hx9.ownBlock ≠ some q := fun q hq => by
        have hq1 : hx6.ownBlock ≠ some q ∧ q ≠ g2 ∧ q ≠ mb2 ∧ q ≠ p2 := by
          rcases hq with h | h | h | h
          · exact ⟨fun e => xlow _ (.inr (.inr (.inr e))) _ (.inl h) rfl, fun e => xlow _ (.inr (.inr (.inl e))) _ (.inl h) rfl, fun e => xlow _ (.inr (.inl e)) _ (.inl h) rfl, fun e => xlow _ (.inl e) _ (.inl h) rfl⟩
          · exact ⟨fun e => xlow _ (.inr (.inr (.inr e))) _ (.inr (.inl h)) rfl, fun e => xlow _ (.inr (.inr (.inl e))) _ (.inr (.inl h)) rfl, fun e => xlow _ (.inr (.inl e)) _ (.inr (.inl h)) rfl, fun e => xlow _ (.inl e) _ (.inr (.inl h)) rfl⟩
          · exact ⟨fun e => xlow _ (.inr (.inr (.inr e))) _ (.inr (.inr h)) rfl, fun e => xlow _ (.inr (.inr (.inl e))) _ (.inr (.inr h)) rfl, fun e => xlow _ (.inr (.inl e)) _ (.inr (.inr h)) rfl, fun e => xlow _ (.inl e) _ (.inr (.inr h)) rfl⟩
          · exact ⟨fun e => (x8 q (.inr (.inr (.inr e)))).2 h, fun e => (x8 q (.inr (.inr (.inl e)))).2 h, fun e => (x8 q (.inr (.inl e))).2 h, fun e => (x8 q (.inl e)).2 h⟩
        exact hM9 q hq1.1 hq1.2.1 hq1.2.2.1 hq1.2.2.2 (hpl8 q hq).2
      have g9 := hM9 b0 w6 nx.1 nx.2.1 nx.2.2 (by omega)
      have P9 := P8.keep (M' := M9) hF9 (fun q hq => (p9 q hq).1)
      refine neq_f (by omega) ?_
      try simp only [sS]
      refine inc_r (by omega) ?_
      exact next (s + 1) _ _ (by omega) (fun hw13 => ⟨_, wk_refl hw13, F9, M9, N9, hv8, rows8, hx9, rows9, _, _, _, rfl, hF6.trans (hF7.trans (hF8.trans hF9)), by omega, hmA, i1, P9, X9, o8, g9.1.trans (g8.1.trans g7), g8.2, g9.2, fun q hq e => by
        rcases hq with h | h | h | h
        · exact (x8 q (.inl h)).2 e
        · exact (x8 q (.inr (.inl h))).2 e
        · exact (x8 q (.inr (.inr (.inl h)))).2 e
        · exact (p9 q (.inr (.inr (.inr e)))).2 h⟩)
    · obtain ⟨e1, e2, e3⟩ := hno (by omega)
      rw [e1, e2, e3] at P8
      try simp only [sS]
      refine inc_r (by omega) ?_
      exact next (s + 1) _ _ (by omega) (fun hw13 => ⟨_, wk_refl hw13, F8, M8, N8, hv8, rows8, hx6, rowsx6, hh, bs, tk, rfl, hF6.trans (hF7.trans hF8), by omega, hm9, i1, P8, X8, o6, g8.1.trans g7, g8.2, w6, fun q hq => (x8 q hq).2⟩)
  · try simp only [sS]
    have hqA : queryD F6 cs qm qlo qhi := hq.mono hF6
    have h12 : bs.length ≤ 12 := Nat.le_trans o6.len (by decide)
    refine ldMa (vs := cs) ?_ g6 (by rw [← hq3, List.drop_zero, List.take_length]) (by omega)
    refine pq_c hE P6 o6 (by decide) hgd hqA hqi (fun uB FB NB hwB hFB hNB htB => ?_)
    try simp only [sS]
    refine ldMa (vs := cs) ?_ g6 (by rw [← hq3, List.drop_zero, List.take_length]) (by omega)
    refine pq_c hE (X6.keep (M' := M6) hFB (fun _ _ => rfl)) o6 (by decide) hgd (hqA.mono hFB) hqi (fun uC FC NC hwC hFC hNC htC => ?_)
    have hql := qres_len hgd o6.oh (bs := bs) (t := 40) (m := qm) (lo := qlo) (hi := qhi)
    generalize qres l hh bs 40 qm qlo qhi = QR at *
    try simp only [sS]
    refine eql_t rfl ?_
    try simp only [sS]
    refine same_c (htB.mono hFC) htC hql ?_
    rw [decide_eq_true rfl]
    try simp only [sS]
    refine pwait_c hE (P6.keep (M' := M6) (hFB.trans hFC) (fun _ _ => rfl)) h12 (fun v9 ws F9 N9 hw9 hF9 hN9 hws hsw => ?_)
    refine pwait_c hE (X6.keep (M' := M6) (hFB.trans (hFC.trans hF9)) (fun _ _ => rfl)) h12 (fun v10 ws2 F10 N10 hw10 hF10 hN10 hws2 hsw2 => ?_)
    have hwe := nwaits hws2 hws
    subst hwe
    have hwl : ws2.length ≤ 12 := by
      have n3 : ws2.Nodup := hws.1.imp (fun {x y} h => by omega)
      have := nodup_le (b := bs.map (·.1)) n3 (fun x hx => by
        obtain ⟨y, hy, e⟩ := hasB_iff.1 ((hws.2 x).1 hx).1
        exact List.mem_map.2 ⟨y, hy, e⟩)
      rw [List.length_map] at this; omega
    refine sameids_c (hsw.mono hF10) hsw2 (by omega) (fun hw11 => ?_)
    try simp only [sS]
    refine ptaken_c (P6.keep (M' := M6) (hFB.trans (hFC.trans (hF9.trans hF10))) (fun _ _ => rfl)) (fun hw12 => ?_)
    refine ptaken_c (X6.keep (M' := M6) (hFB.trans (hFC.trans (hF9.trans hF10))) (fun _ _ => rfl)) (fun hw13 => ?_)
    refine eql_t rfl ?_
    try simp only [sS]
    exact fun hc => ⟨_, wk_refl hc, fun _ => k _⟩
end Go.Proofs.YtgcmbkoejjcjlaaGreatDoor.A
open Go Go.RowKit Go.Proofs.YtgcmbkoejjcjlaaGreatDoor.K Go.Proofs.YtgcmbkoejjcjlaaGreatDoor.T
set_option linter.unusedVariables false
set_option linter.unusedSimpArgs false
namespace Go.Proofs.YtgcmbkoejjcjlaaGreatDoor.A
variable {F F' : Nat → Option (List Value)} {M M' : Nat → Option Chunk} {N N' : Nat} {K : Kont} {E : PanK}
theorem wf_u32 {x : Int} (h : (Lit.int .u32 x).wf = true) : 0 ≤ x ∧ x < 4294967296 := by
  simp [Lit.wf, IntKind.min, IntKind.max, IntKind.bits, IntKind.signed] at h
  omega
theorem fin_trueL {f : FuncId} {args : Array Value} {W : World} (h : call Tryz.prog f args (fun v _ => v = .bool true) (fun _ h => h = badH) (h0 W)) : Calls Tryz.prog f args W fun e w' => e = .returned (.bool true) ∧ Below W.heap.size W w' :=
  (calls0L (K := fun v => v = .bool true) h).mono fun e w' ⟨⟨v, he, hv⟩, hb⟩ => ⟨by rw [he, hv], hb⟩
end Go.Proofs.YtgcmbkoejjcjlaaGreatDoor.A
open Go Go.RowKit Go.Proofs.YtgcmbkoejjcjlaaGreatDoor.K Go.Proofs.YtgcmbkoejjcjlaaGreatDoor.T
set_option linter.unusedVariables false
set_option linter.unusedSimpArgs false
namespace Go.Proofs.YtgcmbkoejjcjlaaGreatDoor.A
variable {F F' : Nat → Option (List Value)} {M M' : Nat → Option Chunk} {N N' : Nat} {K : Kont} {E : PanK}
end Go.Proofs.YtgcmbkoejjcjlaaGreatDoor.A
open Go Go.RowKit Go.MapKept
set_option linter.unusedVariables false
set_option linter.unusedSimpArgs false
namespace Go.Proofs.YtgcmbkoejjcjlaaGreatDoor.K
def rSB {α : Type} (B sz : Nat) (R : (Nat → Option (List Value)) → List Value → α → Prop) (F : Nat → Option (List Value)) (cs : List Value) (ys : List α) : Prop := rS sz R F cs ys ∧ ys.length * B ≤ 140737488351232
theorem opensK_sliceB {α : Type} {P : Program} {t e : TypeId} {B sz : Nat} {R : (Nat → Option (List Value)) → List Value → α → Prop} (ht : P.underlying t = some (.slice e)) (hs : P.cellsOf t = 1) (hby : P.bytesOf e = B) (hB : 0 < B) (hz : 0 < sz) (he : OpensK P e sz R) :
    OpensK P t 1 (rSB B sz R) := by
  have h0 := opensK_slice ht hs (by rw [hby]; exact Nat.ble_eq_true_of_le hB) hz he
  refine ⟨hs, fun {H enc w base sp hd fuel cs x} h hwt => ?_, fun h => h0.one h.1⟩
  obtain ⟨y, hy⟩ := h0.get h hwt
  refine ⟨y, hy, ?_⟩
  obtain ⟨v, rows, hcs, hv, _⟩ := hy
  obtain ⟨a', c', hv', _⟩ := hv.form
  rcases DataW.trod_slice ht h with ⟨h1, h2⟩ | ⟨a, len, cap, elems, rest, n, _, h1, h2, hb, hl, hm, hlen, hel, hsp, hns⟩
  · rw [hcs, hv'] at h1
    simp only [List.cons.injEq, Value.slice.injEq, and_true] at h1
    have : y.length = 0 := by omega
    rw [this]; omega
  · rw [hcs, hv'] at h1
    simp only [List.cons.injEq, Value.slice.injEq, and_true] at h1
    subst h2
    simp only [DataW.weights, ht] at hwt
    have h3 := hwt _ List.mem_cons_self
    simp only [List.length_map, hlen] at h3
    have h4 : reachBytes = 140737488351232 := by decide
    rw [hby] at h3
    have h5 : len * B ≤ (len + rest.length) * B := Nat.mul_le_mul_right _ (by omega)
    have h6 : y.length = len := by omega
    rw [h6]; omega
end Go.Proofs.YtgcmbkoejjcjlaaGreatDoor.K
open Go Go.RowKit Go.Proofs.YtgcmbkoejjcjlaaGreatDoor.K Go.Proofs.YtgcmbkoejjcjlaaGreatDoor.T
set_option linter.unusedVariables false
set_option linter.unusedSimpArgs false
namespace Go.Proofs.YtgcmbkoejjcjlaaGreatDoor.A
variable {F F' : Nat → Option (List Value)} {M M' : Nat → Option Chunk} {N N' : Nat} {K : Kont} {E : PanK}
abbrev rFact : (Nat → Option (List Value)) → List Value → List Int × Int → Prop := rP (rS 1 (rI .i64)) (rI .i64)
abbrev rEnt : (Nat → Option (List Value)) → List Value → Int × List (List Int × Int) → Prop := rP (rI .u32) (rS 2 rFact)
abbrev OpZ := Int × Int × Int × List Int × List (List Int) × List Int × List (List Int × Int) × List (Int × List (List Int × Int))
abbrev rOpP : (Nat → Option (List Value)) → List Value → OpZ → Prop := rP (rI .u8) (rP (rI .u32) (rP (rI .u32) (rP (rSB 8 1 (rI .i64)) (rP (rS 1 (rS 1 (rI .u16))) (rP (rS 1 (rI .i64)) (rP (rS 2 rFact) (rS 2 rEnt)))))))
def toOpP (y : OpZ) : OpP := ⟨y.1, y.2.1, y.2.2.1, y.2.2.2.1, y.2.2.2.2.1, y.2.2.2.2.2.1, y.2.2.2.2.2.2.1, y.2.2.2.2.2.2.2⟩
theorem rS_one {α : Type} {R : (Nat → Option (List Value)) → List Value → α → Prop} {sz : Nat} {cs : List Value} {y : List α} (h : rS sz R F cs y) : ∃ v, cs = [v] := let ⟨v, _, e, _⟩ := h; ⟨v, e⟩
theorem ents_of {v : Value} {y : List (Int × List (List Int × Int))} (h : rS 2 rEnt F [v] y) : entsD F v y ∧ y.length ≤ 140737488351232 ∧ ∀ e ∈ y, (0 ≤ e.1 ∧ e.1 < 4294967296) ∧ ∀ f ∈ e.2, i64 f.2 := by
  obtain ⟨v', rows, e, hv, hr, hl⟩ := h
  injection e with e _
  subst e
  have hr' : rowsF (fun r e => entD F r e ∧ (0 ≤ e.1 ∧ e.1 < 4294967296) ∧ ∀ f ∈ e.2, i64 f.2) 2 rows y := hr.mono fun r e ⟨c1, c2, ee, ⟨ha, hb⟩, hc⟩ => by
    obtain ⟨u, hu⟩ := rS_one hc
    rw [hu] at hc
    obtain ⟨h1, h2, h3⟩ := facts_of hc
    exact ⟨⟨u, by rw [ee, ha, hu]; rfl, h1, h2⟩, wf_u32 hb, fun f hf => (h3 f hf).2⟩
  exact ⟨⟨rows, hv, hr'.mono fun _ _ h => h.1⟩, hl, fun e he => by obtain ⟨r, h⟩ := rowsF_all hr' e he; exact h.2⟩
theorem opP_of {cs : List Value} {y : OpZ} (h : rOpP F cs y) : opP F cs (toOpP y) := by
  obtain ⟨c1, d1, e1, ⟨h1, w1⟩, c2, d2, e2, ⟨h2, w2⟩, c3, d3, e3, ⟨h3, w3⟩, c4, d4, e4, ⟨h4, b4⟩, c5, d5, e5, h5, c6, d6, e6, h6, c7, d7, e7, h7, h8⟩ := h
  obtain ⟨v4, u4⟩ := rS_one h4
  obtain ⟨v5, u5⟩ := rS_one h5
  obtain ⟨v6, u6⟩ := rS_one h6
  obtain ⟨v7, u7⟩ := rS_one h7
  obtain ⟨v8, u8⟩ := rS_one h8
  rw [u4] at h4; rw [u5] at h5; rw [u6] at h6; rw [u7] at h7; rw [u8] at h8
  have a4 := list_of h4
  have a5 := lists_of h5
  have a6 := list_of h6
  have a7 := facts_of h7
  have a8 := ents_of h8
  refine ⟨v4, v5, v6, v7, v8, ?_, a4.1, a5.1, a6.1, a7.1, a8.1, ⟨wf_u8 w1, wf_u32 w2, wf_u32 w3, by show y.2.2.2.1.length ≤ _; omega, a5.2.1, fun l hl x hx => wf_u16 (a5.2.2 l hl x hx), a6.2.2, fun x hx => wf_i64 (a6.2.1 x hx), a7.2.1, fun f hf => (a7.2.2 f hf).2, a8.2.1, fun e he => (a8.2.2 e he).1, fun e he => (a8.2.2 e he).2⟩⟩
  rw [e1, e2, e3, e4, e5, e6, e7, h1, h2, h3, u4, u5, u6, u7, u8]; rfl
theorem opsP_of {v : Value} {y : List OpZ} (h : rS 8 rOpP F [v] y) : opsP F v (y.map toOpP) ∧ (y.map toOpP).length ≤ 140737488351232 := by
  obtain ⟨v', rows, e, hv, hr, hl⟩ := h
  injection e with e _
  subst e
  have hr' : rowsF (fun r x => opP F r (toOpP x)) 8 rows y := hr.mono fun r f h => opP_of h
  exact ⟨⟨rows, by rw [List.length_map]; exact hv, rowsF_map toOpP hr'⟩, by rw [List.length_map]; exact hl⟩
end Go.Proofs.YtgcmbkoejjcjlaaGreatDoor.A
open Go Go.RowKit Go.Proofs.YtgcmbkoejjcjlaaGreatDoor.K Go.Proofs.YtgcmbkoejjcjlaaGreatDoor.T
set_option linter.unusedVariables false
set_option linter.unusedSimpArgs false
namespace Go.Proofs.YtgcmbkoejjcjlaaGreatDoor.A
variable {F F' : Nat → Option (List Value)} {M M' : Nat → Option Chunk} {N N' : Nat} {K : Kont} {E : PanK}
end Go.Proofs.YtgcmbkoejjcjlaaGreatDoor.A
open Go Go.RowKit Go.Proofs.YtgcmbkoejjcjlaaGreatDoor.K Go.Proofs.YtgcmbkoejjcjlaaGreatDoor.T
set_option linter.unusedVariables false
set_option linter.unusedSimpArgs false
namespace Go.Proofs.YtgcmbkoejjcjlaaGreatDoor.A
variable {F F' : Nat → Option (List Value)} {M M' : Nat → Option Chunk} {N N' : Nat} {K : Kont} {E : PanK}
end Go.Proofs.YtgcmbkoejjcjlaaGreatDoor.A
open Go Go.RowKit Go.Proofs.YtgcmbkoejjcjlaaGreatDoor.K Go.Proofs.YtgcmbkoejjcjlaaGreatDoor.T
set_option linter.unusedVariables false
set_option linter.unusedSimpArgs false
namespace Go.Proofs.YtgcmbkoejjcjlaaGreatDoor.A
variable {F F' : Nat → Option (List Value)} {M M' : Nat → Option Chunk} {N N' : Nat} {K : Kont} {E : PanK}
theorem PartAgain_true (v0 v1 v2 v3 v4 : Value) {y0 : List (Int × List Int)} {y1 : List OpZ} {y2 y3 y4 : List Int} (W : World) (h0 : rS 2 rCut (F0 W) [v0] y0) (h1 : rS 8 rOpP (F0 W) [v1] y1) (h2 : rS 1 (rI .u8) (F0 W) [v2] y2) (h3 : rS 1 (rI .u16) (F0 W) [v3] y3) (h4 : rS 1 (rI .u16) (F0 W) [v4] y4) :
    Calls Tryz.prog 6 #[v0, v1, v2, v3, v4] W fun e w' => e = .returned (.bool true) ∧ Below W.heap.size W w' :=
  have b := cuts_of h0
  have o := opsP_of h1
  have c := list_of h2
  have p := list_of h3
  have q := list_of h4
  fin_trueL (partAgain_c rfl b.1 b.2.1 b.2.2 o.1 o.2 c.1 c.2.2 (fun x hx => wf_u8 (c.2.1 x hx)) p.1 p.2.2 (fun x hx => wf_u16 (p.2.1 x hx)) q.1 q.2.2 (fun x hx => wf_u16 (q.2.1 x hx)) fun _ => rfl)
end Go.Proofs.YtgcmbkoejjcjlaaGreatDoor.A
