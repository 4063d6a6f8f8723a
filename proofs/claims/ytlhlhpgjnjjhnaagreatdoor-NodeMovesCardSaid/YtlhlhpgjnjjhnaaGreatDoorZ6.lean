import Derived.Test.YtlhlhpgjnjjhnaaGreatDoorZ5
import Derived.Test.YtlhlhpgjnjjhnaaGreatDoorZ3
import Derived.Test.YtlhlhpgjnjjhnaaGreatDoorZ4
set_option maxHeartbeats 16000000
set_option maxRecDepth 20000
open Go Go.RowKit Go.Proofs.YtlhlhpgjnjjhnaaGreatDoor.K Go.Proofs.YtlhlhpgjnjjhnaaGreatDoor.T
set_option linter.unusedVariables false
set_option linter.unusedSimpArgs false
namespace Go.Proofs.YtlhlhpgjnjjhnaaGreatDoor.A
variable {F F':Nat -> Option (List Value)} {M M':Nat -> Option zak} {N N':Nat} {K:zae} {E:zb2}
section
variable {B nb lg pd:Nat} {v:Value} {bs:List Int} {lasts room:Int} {p g mb:Nat} {hv dv:Value} {rows:List (List Value)} {l:List Dm} {h:List En} {bt:Bts} {tk me:Int} {ov:Value}
def zkc (bs:List Int) (room:Int) (r:zaj):Prop:=zbn r=true∧(zah r).length≤60000∧(bs.length:Int)+((zah r).length+7:Nat)≤room
def rCo (id at':Int):zaj:=⟨2,id,at',[],[],0,0,[]⟩
def yom (id at':Int):List Value:=[.int .u8 2,.int .u32 id,.int .u32 at',.slice none 0 0,.slice none 0 0,.int .u32 0,.slice none 0 0,.int .i64 0,.int .i64 0,.slice none 0 0]
theorem yut (id at':Int):zdr F (yom id at') (rCo id at'):=⟨none,0,.slice none 0 0,none,0,.slice none 0 0,rfl,sF.nil _ _ _,⟨[],sF.nil _ _ _,zag.nil _ _⟩,zc6.nil⟩
theorem yjz (id at':Int):(rCo id at').lens:=⟨by simp [rCo],by simp [rCo],by simp [rCo],λx hx=>absurd hx List.not_mem_nil⟩
theorem ymy {id at':Int} (h:0≤id∧id<4294967296) (h2:0≤at'∧at'<4294967296):(rCo id at').typ:=⟨h,h2,λx hx=>absurd hx List.not_mem_nil,λx hx=>absurd hx List.not_mem_nil⟩
theorem yor {id at':Int} (h:0≤id∧id<4294967296) (h2:0≤at'∧at'<4294967296):(rCo id at').ok:=⟨h,h2.1,by simp [rCo],by simp [rCo],by simp [rCo],λx hx=>absurd hx List.not_mem_nil⟩
theorem ydg (id at':Int):(zah (rCo id at')).length=10:=by rw [zcw]; simp [rCo,zco,za9]
theorem ylh {id st:Int} (H:zao F M B nb lg pd v bs lasts room p g mb hv dv rows l h bt tk me ov) (hB:B≤N) (hr0:0≤room) (hroom:room≤2000000) (o:okH l 5000 200 h) (hdl:l.length≤1000) (hid:0≤id∧id<4294967296) (hfb:(zal bt id).fs.length≤140737488351232)
  (kS:st≠0 -> (Hp.mk F M N).wf -> K (.bool (decide (st=3))) ⟨F,M,N⟩)
  (k0:st=0 -> ¬ zkc bs room (rAb id) -> ∀ M' N',zao F M' B nb lg pd v bs lasts room p g mb hv dv rows l h bt tk me ov -> (∀ q,¬ nft nb lg pd p g mb v hv q -> q<N -> M' q=M q) -> N≤N' -> za5 M' N' -> (Hp.mk F M' N').wf -> K (.bool false) ⟨F,M',N'⟩)
  (k1:st=0 -> zkc bs room (rAb id) -> ∀ v' hv' F' M' N' rows',za7 F F' -> zao F' M' B nb lg pd v' (bs++zbd (zah (rAb id))) ((bs++zbd (zah (rAb id))).length:Nat) room p g mb hv' dv rows' l (apH l h bt tk (rAb id)) (apS l h bt (rAb id)) (apT l h tk (rAb id)) me ov ->
   (∀ q,¬ nft nb lg pd p g mb v hv q -> q<N -> M' q=M q∧¬ nft nb lg pd p g mb v' hv' q) -> N≤N' -> za5 M' N' -> (Hp.mk F' M' N').wf -> K (.bool (decide (apE l h bt tk (rAb id)=0))) ⟨F',M',N'⟩) :
  cF 48 #[.pointer (some ⟨nb,0,none⟩),.int .u32 id,.int .u8 st] K E ⟨F,M,N⟩:=by
 refine za4 za8 Tryz.func48 (by kernel_rfl) (t48 _ E _ _ _) (λhw=>?_);have hm:za5 M N:=hw.m;refine zau (λh3=>?_) (λh3=>?_)
 ·try simp only [sS]
  exact λhc=>⟨_,za1 hc,λhw'=>by have := kS (by omega) hw'; rwa [decide_eq_true h3] at this⟩
 try simp only [sS]
 refine zau (λh0=>?_) (λh0=>?_)
 rotate_left
 ·try simp only [sS]
  exact λhc=>⟨_,za1 hc,λhw'=>by have := kS h0 hw'; rwa [decide_eq_false h3] at this⟩
 try simp only [sS]
 refine zaa (v:=.agg (zo3 id).toArray) (by kernel_rfl) ?_;refine zns H hB hr0 hroom o hdl (ykd id) (zzo id) (ycz hid) (by simp [rAb]) (by rw [znh]; omega) (yhm hid) hfb (λhno M' N' H' hf hN' hm' hw'=>?_) (λhs hle hyes v' hv' F' M' N' rows' hF' H' hf hN' hm' hw'=>?_)
 ·try simp only [sS]
  exact λhc=>⟨_,za1 hc,λhw'=>k0 h0 hno M' N' H' hf hN' hm' hw'⟩
 ·try simp only [sS]
  exact λhc=>⟨_,za1 hc,λhw'=>k1 h0 ⟨hs,hle,hyes⟩ v' hv' F' M' N' rows' hF' H' hf hN' hm' hw'⟩
theorem ygu {st:Int} {cs:List Value} {m:zaj} (H:zao F M B nb lg pd v bs lasts room p g mb hv dv rows l h bt tk me ov) (hB:B≤N) (hr0:0≤room) (hroom:room≤2000000) (o:okH l 5000 200 h) (hdl:l.length≤1000) (hr:zfz F cs m) (ht:m.typ) (hfb:(zal bt m.id).fs.length≤140737488351232)
  (kS:st≠1 -> ∀ M' N',zao F M' B nb lg pd v bs lasts room p g mb hv dv rows l h bt tk me ov -> (∀ q,q<N -> M' q=M q) -> N≤N' -> za5 M' N' -> (Hp.mk F M' N').wf -> K (.bool (decide (st=2))) ⟨F,M',N'⟩)
  (k0:st=1 -> ¬ zkc bs room (rCo m.id m.tm) -> ∀ M' N',zao F M' B nb lg pd v bs lasts room p g mb hv dv rows l h bt tk me ov -> (∀ q,¬ nft nb lg pd p g mb v hv q -> q<N -> M' q=M q) -> N≤N' -> za5 M' N' -> (Hp.mk F M' N').wf -> K (.bool false) ⟨F,M',N'⟩)
  (k1:st=1 -> zkc bs room (rCo m.id m.tm) -> ∀ v' hv' F' M' N' rows',za7 F F' -> zao F' M' B nb lg pd v' (bs++zbd (zah (rCo m.id m.tm))) ((bs++zbd (zah (rCo m.id m.tm))).length:Nat) room p g mb hv' dv rows' l (apH l h bt tk (rCo m.id m.tm)) (apS l h bt (rCo m.id m.tm)) (apT l h tk (rCo m.id m.tm)) me ov ->
   (∀ q,¬ nft nb lg pd p g mb v hv q -> q<N -> M' q=M q∧¬ nft nb lg pd p g mb v' hv' q) -> N≤N' -> za5 M' N' -> (Hp.mk F' M' N').wf -> K (.bool (decide (apE l h bt tk (rCo m.id m.tm)=0))) ⟨F',M',N'⟩) :
  cF 46 #[.pointer (some ⟨nb,0,none⟩),.agg cs.toArray,.int .u8 st] K E ⟨F,M,N⟩:=by
 refine za4 za8 Tryz.func46 (by kernel_rfl) (t46 _ E _ _ _) (λhw=>?_);have hm:za5 M N:=hw.m;obtain ⟨na,nc,fv,ev,rfl,hn,hf,he⟩:=hr;obtain ⟨fa,fc,rfl⟩:=hf.form;obtain ⟨ea,ec,rfl⟩:=he.form;refine zap (cs:=[.int .u8 m.kind,.int .u32 m.id,.int .u32 m.tm,.slice na m.ns.length nc,.slice fa m.fs.length fc,.int .i64 m.lo,.int .i64 m.hi,.slice ea m.es.length ec]) (λb hb=>?_);have hx:=za0 M b (some (.cells 49 [.int .u8 m.kind,.int .u32 m.id,.int .u32 m.tm,.slice na m.ns.length nc,.slice fa m.fs.length fc,.int .i64 m.lo,.int .i64 m.hi,.slice ea m.es.length ec] 8));have hM1:∀ q,q<N -> upd M b (some (.cells 49 [.int .u8 m.kind,.int .u32 m.id,.int .u32 m.tm,.slice na m.ns.length nc,.slice fa m.fs.length fc,.int .i64 m.lo,.int .i64 m.hi,.slice ea m.es.length ec] 8)) q=M q:=λq hq=>za3 _ _ (by omega);have hm1:=hm.new hb (some (.cells 49 [.int .u8 m.kind,.int .u32 m.id,.int .u32 m.tm,.slice na m.ns.length nc,.slice fa m.fs.length fc,.int .i64 m.lo,.int .i64 m.hi,.slice ea m.es.length ec] 8));simp only [List.length_cons,List.length_nil,Nat.zero_add];generalize upd M b _=M1 at *;have H1:=H.up hm (za7.refl _) hM1;refine zau (λh2=>?_) (λh2=>?_)
 ·try simp only [sS]
  exact λhc=>⟨_,za1 hc,λhw'=>by have := kS (by omega) M1 _ H1 hM1 (by omega) hm1 hw'; rwa [decide_eq_true h2] at this⟩
 try simp only [sS]
 refine zau (λh1=>?_) (λh1=>?_)
 rotate_left
 ·try simp only [sS]
  exact λhc=>⟨_,za1 hc,λhw'=>by have := kS h1 M1 _ H1 hM1 (by omega) hm1 hw'; rwa [decide_eq_false h2] at this⟩
 try simp only [sS]
 refine ldM (v:=.int .u32 m.id) ?_ hx;try simp only [sS]
 refine ldM (v:=.int .u32 m.tm) ?_ hx;refine zaa (v:=.agg (yom m.id m.tm).toArray) (by kernel_rfl) ?_;refine zns H1 (by omega) hr0 hroom o hdl (yut m.id m.tm) (yjz m.id m.tm) (ymy ht.i0 ht.t0) (by simp [rCo]) (by rw [ydg]; omega) (yor ht.i0 ht.t0) hfb (λhno M' N' H' hf hN' hm' hw'=>?_) (λhs hle hyes v' hv' F' M' N' rows' hF' H' hf hN' hm' hw'=>?_)
 ·try simp only [sS]
  exact λhc=>⟨_,za1 hc,λhw'=>k0 h1 hno M' N' H' (λq q1 q2=>(hf q q1 (by omega)).trans (hM1 q q2)) (by omega) hm' hw'⟩
 ·try simp only [sS]
  exact λhc=>⟨_,za1 hc,λhw'=>k1 h1 ⟨hs,hle,hyes⟩ v' hv' F' M' N' rows' hF' H' (λq q1 q2=>⟨(hf q q1 (by omega)).1.trans (hM1 q q2),(hf q q1 (by omega)).2⟩) (by omega) hm' hw'⟩
end
section
variable {B nb lg pd:Nat} {v:Value} {bs:List Int} {lasts room:Int} {p g mb:Nat} {hv dv:Value} {rows:List (List Value)} {l:List Dm} {h:List En} {bt:Bts} {tk me:Int} {ov:Value}
def rPr (m:zaj):zaj:=⟨1,m.id,0,m.ns,m.fs,0,0,[]⟩
def prS (st:Int):Int:=if st=1 then 2 else if st=2 then 6 else 3
theorem ync {st:Int} {cs:List Value} {m:zaj} (H:zao F M B nb lg pd v bs lasts room p g mb hv dv rows l h bt tk me ov) (hB:B≤N) (hr0:0≤room) (hroom:room≤2000000) (o:okH l 5000 200 h) (hdl:l.length≤1000) (hr:zfz F cs m) (hL:m.lens) (ht:m.typ) (hE:(zah (rPr m)).length≤2000000) (hnl:m.ns.length≤17592186043904) (hfb:(zal bt m.id).fs.length≤140737488351232)
  (kS:(st=1∨st=2∨st=3) -> ∀ M' N',zao F M' B nb lg pd v bs lasts room p g mb hv dv rows l h bt tk me ov -> (∀ q,q<N -> M' q=M q) -> N≤N' -> za5 M' N' -> (Hp.mk F M' N').wf -> K (.int .u8 (prS st)) ⟨F,M',N'⟩)
  (k0:¬ (st=1∨st=2∨st=3) -> ¬ (zcc l m.fs=true∧zkc bs room (rPr m)) -> ∀ M' N',zao F M' B nb lg pd v bs lasts room p g mb hv dv rows l h bt tk me ov -> (∀ q,¬ nft nb lg pd p g mb v hv q -> q<N -> M' q=M q) -> N≤N' -> za5 M' N' -> (Hp.mk F M' N').wf -> K (.int .u8 3) ⟨F,M',N'⟩)
  (k1:¬ (st=1∨st=2∨st=3) -> zcc l m.fs=true -> zkc bs room (rPr m) -> ∀ v' hv' F' M' N' rows',za7 F F' -> zao F' M' B nb lg pd v' (bs++zbd (zah (rPr m))) ((bs++zbd (zah (rPr m))).length:Nat) room p g mb hv' dv rows' l (apH l h bt tk (rPr m)) (apS l h bt (rPr m)) (apT l h tk (rPr m)) me ov ->
   (∀ q,¬ nft nb lg pd p g mb v hv q -> q<N -> M' q=M q∧¬ nft nb lg pd p g mb v' hv' q) -> N≤N' -> za5 M' N' -> (Hp.mk F' M' N').wf -> K (.int .u8 (if apE l h bt tk (rPr m)=0 then 2 else 3)) ⟨F',M',N'⟩) :
  cF 45 #[.pointer (some ⟨nb,0,none⟩),.agg cs.toArray,.int .u8 st] K E ⟨F,M,N⟩:=by
 refine za4 za8 Tryz.func45 (by kernel_rfl) (t45 _ E _ _ _) (λhw=>?_);have hm:za5 M N:=hw.m;obtain ⟨na,nc,fv,ev,rfl,hn,hf,he⟩:=hr;obtain ⟨fa,fc,rfl⟩:=hf.form;obtain ⟨ea,ec,rfl⟩:=he.form;refine zap (cs:=[.int .u8 m.kind,.int .u32 m.id,.int .u32 m.tm,.slice na m.ns.length nc,.slice fa m.fs.length fc,.int .i64 m.lo,.int .i64 m.hi,.slice ea m.es.length ec]) (λb hb=>?_);have hx:=za0 M b (some (.cells 49 [.int .u8 m.kind,.int .u32 m.id,.int .u32 m.tm,.slice na m.ns.length nc,.slice fa m.fs.length fc,.int .i64 m.lo,.int .i64 m.hi,.slice ea m.es.length ec] 8));have hM1:∀ q,q<N -> upd M b (some (.cells 49 [.int .u8 m.kind,.int .u32 m.id,.int .u32 m.tm,.slice na m.ns.length nc,.slice fa m.fs.length fc,.int .i64 m.lo,.int .i64 m.hi,.slice ea m.es.length ec] 8)) q=M q:=λq hq=>za3 _ _ (by omega);have hm1:=hm.new hb (some (.cells 49 [.int .u8 m.kind,.int .u32 m.id,.int .u32 m.tm,.slice na m.ns.length nc,.slice fa m.fs.length fc,.int .i64 m.lo,.int .i64 m.hi,.slice ea m.es.length ec] 8));simp only [List.length_cons,List.length_nil,Nat.zero_add];generalize upd M b _=M1 at *;have H1:=H.up hm (za7.refl _) hM1
 have said:(st=1∨st=2∨st=3) -> ∀ y,prS st=y -> (Hp.mk F M1 (b+1)).wf -> ∃ h',(Hp.mk F M1 (b+1)).wk h'∧(h'.wf -> K (.int .u8 y) h'):=λhs y e hc=>by
  subst e;exact ⟨_,za1 hc,λhw'=>kS hs M1 _ H1 hM1 (by omega) hm1 hw'⟩
 refine zau (λh1=>zax ?_) (λh1=>zaq ?_)
 ·exact said (.inl h1) 2 (by unfold prS; rw [if_pos h1])
 refine zau (λh2=>zax ?_) (λh2=>zaq ?_)
 ·exact said (.inr (.inl h2)) 6 (by unfold prS; rw [if_neg h1,if_pos h2])
 refine zau (λh3=>zax ?_) (λh3=>zaq ?_)
 ·exact said (.inr (.inr h3)) 3 (by unfold prS; rw [if_neg h1,if_neg h2])
 have hno:¬ (st=1∨st=2∨st=3):=by omega
 try simp only [sS]
 refine ldM (v:=.int .u32 m.id) ?_ hx;try simp only [sS]
 refine ldM (v:=.slice na m.ns.length nc) ?_ hx;try simp only [sS]
 refine ldM (v:=.slice fa m.fs.length fc) ?_ hx;refine zaa (v:=.agg ([.int .u8 1,.int .u32 m.id,.int .u32 0,.slice na m.ns.length nc,.slice fa m.fs.length fc,.int .u32 0,.slice none 0 0,.int .i64 0,.int .i64 0,.slice none 0 0]:List Value).toArray) (by kernel_rfl) ?_;refine zap (cs:=zac) (λrb hrb=>?_);refine stM (cs':=[.int .u8 1,.int .u32 m.id,.int .u32 0,.slice na m.ns.length nc,.slice fa m.fs.length fc,.int .u32 0,.slice none 0 0,.int .i64 0,.int .i64 0,.slice none 0 0]) ?_ (za0 _ _ _) rfl rfl (List.all_eq_true.1 rfl);rw [zan];have hel:zac.length=10:=rfl;try simp only [hel]
 have hy:=za0 M1 rb (some (.cells 77 [.int .u8 1,.int .u32 m.id,.int .u32 0,.slice na m.ns.length nc,.slice fa m.fs.length fc,.int .u32 0,.slice none 0 0,.int .i64 0,.int .i64 0,.slice none 0 0] 10));have hM2:∀ q,q<b+1 -> upd M1 rb (some (.cells 77 [.int .u8 1,.int .u32 m.id,.int .u32 0,.slice na m.ns.length nc,.slice fa m.fs.length fc,.int .u32 0,.slice none 0 0,.int .i64 0,.int .i64 0,.slice none 0 0] 10)) q=M1 q:=λq hq=>za3 _ _ (by omega);have hm2:=hm1.new hrb (some (.cells 77 [.int .u8 1,.int .u32 m.id,.int .u32 0,.slice na m.ns.length nc,.slice fa m.fs.length fc,.int .u32 0,.slice none 0 0,.int .i64 0,.int .i64 0,.slice none 0 0] 10));generalize upd M1 rb _=M2 at *;have H2:=H1.up hm1 (za7.refl _) hM2;have hM2':∀ q,q<N -> M2 q=M q:=λq hq=>(hM2 q (by omega)).trans (hM1 q hq);try simp only [sS]
 refine ldM (v:=.pointer (some ⟨p,0,none⟩)) ?_ H2.nn;try simp only [sS]
 refine ldM (v:=.pointer (some ⟨g,0,none⟩)) ?_ H2.pt.pp;try simp only [sS]
 refine ldM (v:=.slice fa m.fs.length fc) ?_ ((hM2 b (by omega)).trans hx);refine zvb H2.pt.cc.gg H2.pt.cc.dd (by omega) hf hL.fl (λN3 hN3 hw3=>?_);have hm3:=hm2.up hN3;cases hft:zcc l m.fs
 ·try simp only [sS]
  exact λhc=>⟨_,za1 hc,λhw'=>k0 hno (λh=>by rw [hft] at h; cases h.1) M2 N3 H2 (λq _ q2=>hM2' q q2) (by omega) hm3 hw'⟩
 try simp only [sS]
 refine zb6 (vs:=[.int .u8 1,.int .u32 m.id,.int .u32 0,.slice na m.ns.length nc,.slice fa m.fs.length fc,.int .u32 0,.slice none 0 0,.int .i64 0,.int .i64 0,.slice none 0 0]) ?_ hy;have hz:zdr F [.int .u8 1,.int .u32 m.id,.int .u32 0,.slice na m.ns.length nc,.slice fa m.fs.length fc,.int .u32 0,.slice none 0 0,.int .i64 0,.int .i64 0,.slice none 0 0] (rPr m):=⟨na,nc,_,none,0,_,rfl,hn,hf,zc6.nil⟩
 refine zns H2 (by omega) hr0 hroom o hdl hz ⟨hL.nl,hL.fl,by simp [rPr],λx hx=>absurd hx List.not_mem_nil⟩ ⟨ht.i0,⟨Int.le_refl _,by simp [rPr]⟩,ht.fv,λx hx=>absurd hx List.not_mem_nil⟩ (by simp [rPr]) hE ⟨ht.i0,Int.le_refl _,hnl,hL.fl,by simp [rPr],λx hx=>absurd hx List.not_mem_nil⟩ hfb
  (λhno2 M' N' H' hf' hN' hm' hw'=>?_) (λhs hle hyes v' hv' F' M' N' rows' hF' H' hf' hN' hm' hw'=>?_)
 ·try simp only [sS]
  exact λhc=>⟨_,za1 hc,λhw'=>k0 hno (λh=>hno2 h.2) M' N' H' (λq q1 q2=>(hf' q q1 (by omega)).trans (hM2' q q2)) (by omega) hm' hw'⟩
 ·have last:=k1 hno hft ⟨hs,hle,hyes⟩ v' hv' F' M' N' rows' hF' H' (λq q1 q2=>⟨(hf' q q1 (by omega)).1.trans (hM2' q q2),(hf' q q1 (by omega)).2⟩) (by omega) hm'
  by_cases ha:apE l h bt tk (rPr m)=0
  ·rw [decide_eq_true ha];rw [if_pos ha] at last;try simp only [sS]
   exact λhc=>⟨_,za1 hc,last⟩
  ·rw [decide_eq_false ha];rw [if_neg ha] at last;try simp only [sS]
   exact λhc=>⟨_,za1 hc,last⟩
end
section
variable {B nb lg pd:Nat} {v:Value} {bs:List Int} {lasts room:Int} {p g mb:Nat} {hv dv:Value} {rows:List (List Value)} {l:List Dm} {h:List En} {bt:Bts} {tk me:Int} {ov:Value}
theorem zhu (H:zao F M B nb lg pd v bs lasts room p g mb hv dv rows l h bt tk me ov) (k:(Hp.mk F M N).wf -> K (.pointer (some ⟨p,0,none⟩)) ⟨F,M,N⟩) :
  cF 13 #[.pointer (some ⟨nb,0,none⟩)] K E ⟨F,M,N⟩:=by
 refine za4 za8 Tryz.func13 (by kernel_rfl) (t13 _ E _) (λhw=>?_);try simp only [sS]
 refine ldM (v:=.pointer (some ⟨p,0,none⟩)) ?_ H.nn;exact λhc=>⟨_,za1 hc,k⟩
def zcb (kind id:Int):zaj:=⟨kind,id,0,[],[],0,0,[]⟩
def zij (kind id:Int):List Value:=[.int .u8 kind,.int .u32 id,.int .u32 0,.slice none 0 0,.slice none 0 0,.int .i64 0,.int .i64 0,.slice none 0 0]
theorem yf6 (kind id:Int):zfz F (zij kind id) (zcb kind id):=⟨none,0,.slice none 0 0,.slice none 0 0,rfl,sF.nil _ _ _,⟨[],sF.nil _ _ _,zag.nil _ _⟩,zc6.nil⟩
theorem zpn (kind id:Int):(zcb kind id).lens:=⟨by simp [zcb],by simp [zcb],by simp [zcb],λx hx=>absurd hx List.not_mem_nil⟩
theorem zsh {kind id:Int} (h:0≤id∧id<4294967296):(zcb kind id).typ:=⟨h,⟨Int.le_refl _,by simp [zcb]⟩,λx hx=>absurd hx List.not_mem_nil,λx hx=>absurd hx List.not_mem_nil⟩
theorem yaa {kind id:Int} (h:kind=2∨kind=3∨kind=5∨kind=6∨kind=7∨kind=11):zbp (zcb kind id)=true∧(zah (zav (zcb kind id))).length=5:=by
 rcases h with rfl | rfl | rfl | rfl | rfl | rfl<;>exact ⟨by simp [zbp,zcb,zav,zbv,zbn],by rw [zcw]; simp [zcb,zav,zbv]⟩
theorem ypg {C:Nat} {kind id frm:Int} {t1 t2 t6:Nat} {cs:List Value} {ms:List (Int×Int×List Int)} (H:zao F M B nb lg pd v bs lasts room p g mb hv dv rows l h bt tk me ov) (hB:C≤N) (O:zjq M C ov ms) (hms:ms.length≤1000000) (hk:kind=2∨kind=3∨kind=5∨kind=6∨kind=7∨kind=11) (hid:0≤id∧id<4294967296)
  (h1:M t1=some (.cells 31 [.pointer (some ⟨nb,0,none⟩)] 1)) (h2:M t2=some (.cells 3 [.int .i64 frm] 1)) (h6:M t6=some (.cells 49 cs 8)) (hc:cs[1]?=some (.int .u32 id))
  (k:∀ ov' M' N',zao F M' B nb lg pd v bs lasts room p g mb hv dv rows l h bt tk me ov' -> zjq M' C ov' (ms++[(me,frm,zbe (zcb kind id))]) -> (∀ q,q≠nb -> ov.ownBlock≠some q -> q<N -> M' q=M q∧ov'.ownBlock≠some q) -> N≤N' -> za5 M' N' -> (Hp.mk F M' N').wf -> K (.tuple #[]) ⟨F,M',N'⟩) :
  zbs Tryz.prog (.func (.func 43) #[] #[.pointer (some ⟨t1,0,none⟩),.pointer (some ⟨t2,0,none⟩),.pointer (some ⟨t6,0,none⟩)]) #[.int .u8 kind] K E ⟨F,M,N⟩:=by
 refine za4 za8 Tryz.func43 (by kernel_rfl) (t43 _ E _ _ _ _) (λhw=>?_);refine ldM (v:=.pointer (some ⟨nb,0,none⟩)) ?_ h1;refine ldM (v:=.int .i64 frm) ?_ h2;try simp only [sS]
 refine ldM (v:=.int .u32 id) ?_ h6 hc;refine zaa (v:=.agg (zij kind id).toArray) (by kernel_rfl) ?_;obtain ⟨g1,g2⟩:=yaa (id:=id) hk;refine zp5 H hB O hms (yf6 kind id) (zpn kind id) (zsh hid) (by omega) (λhno=>absurd ⟨g1,by omega⟩ hno) (λ_ _ ov' M' N' H' O' hf hN hm' hw'=>?_);exact λhc=>⟨_,za1 hc,k ov' M' N' H' O' hf hN hm'⟩
end
def zcn (l:List Dm):List zaj -> (List En×Bts×Int) -> (List En×Bts×Int)
 | [],s=>s
 | r::rs,s=>zcn l rs (apH l s.1 s.2.1 s.2.2 r,apS l s.1 s.2.1 r,apT l s.1 s.2.2 r)
theorem zv7 (l:List Dm) (r:zaj):∀ (rs:List zaj) (s:List En×Bts×Int),zcn l (rs++[r]) s=(apH l (zcn l rs s).1 (zcn l rs s).2.1 (zcn l rs s).2.2 r,apS l (zcn l rs s).1 (zcn l rs s).2.1 r,apT l (zcn l rs s).1 (zcn l rs s).2.2 r)
 | [],s=>rfl
 | x::rs,s=>by rw [List.cons_append,zcn,zv7 l r rs]; rfl
section
variable {B p g mb:Nat} {hv dv:Value} {rows:List (List Value)} {l:List Dm} {h:List En} {bt:Bts} {tk:Int}
theorem yrj (P:zb8 F M B p g mb hv dv rows l h bt tk) {q:Nat} {e:TypeId} {c:List Value} {t:Nat} (hq:M q=some (.cells e c t)) (he:e≠58∧e≠141∧e≠143):hv.ownBlock≠some q∧q≠g∧q≠mb∧q≠p:=by
 refine ⟨λe'=>?_,zef hq P.cc.gg he.2.1,λe'=>?_,zef hq P.pp he.1⟩
 ·obtain ⟨c',t',h'⟩:=zc7 P.cc.oo _ e';exact zef hq h' he.2.2 rfl
 ·obtain ⟨es,h1,_⟩:=P.mm;subst e'; rw [hq] at h1; cases h1
theorem yqe {B':Nat} (P:zb8 F M B p g mb hv dv rows l h bt tk) (hB:B'≤B):zb8 F M B' p g mb hv dv rows l h bt tk :=
 ⟨P.pp,by have := P.pB; omega,by have := P.mB; omega,P.mm,⟨P.cc.gg,by have := P.cc.gB; omega,P.cc.oo.keep (λ_ _=>rfl) hB,P.cc.rr,P.cc.vg,P.cc.dd,P.cc.rs⟩⟩
end
theorem ymi {B pd:Nat} {v dv:Value} {bs:List Int} {lasts room me:Int} {l:List Dm} {rs:List zaj} (P:zc2 M B pd v bs lasts room (-1)) (hB:B≤N) (hd:zeh F dv l) (hdl:l.length≤1000) (h8:zbg bs) (h6:∀ xs e,chain bs 0 xs e -> zck (bs.drop e)=none -> ∀ x∈xs,∀ k q,rd 1 x=some (k,q) -> k≠6)
  (hall:∀ xs e,chain bs 0 xs e -> zck (bs.drop e)=none -> zdg xs=rs∧flen (xs.take (zdg xs).length)=bs.length) (hrl:rs.length≤1000000)
  (hok:∀ i (hi:i<rs.length),okH l 5000 200 (zcn l (rs.take i) ([],[],0)).1∧(zal (zcn l (rs.take i) ([],[],0)).2.1 rs[i].id).fs.length≤140737488351232∧rs[i].ok)
  (k0:zd1 l=false -> ∀ N',N≤N' -> (Hp.mk F M N').wf -> K (.tuple #[.pointer none,.int .u16 30]) ⟨F,M,N'⟩)
  (k1:zd1 l=true -> ∀ nb lg p g mb hv dv' rows F' M' N',za7 F F' -> zao F' M' B nb lg pd v bs (bs.length:Nat) room p g mb hv dv' rows l (zcn l rs ([],[],0)).1 (zcn l rs ([],[],0)).2.1 (zcn l rs ([],[],0)).2.2 me (.slice none 0 0) ->
   (∀ q,q≠pd -> v.ownBlock≠some q -> q<N -> M' q=M q∧¬ nft nb lg pd p g mb v hv q) -> N≤N' -> za5 M' N' -> (Hp.mk F' M' N').wf -> K (.tuple #[.pointer (some ⟨nb,0,none⟩),.int .u16 0]) ⟨F',M',N'⟩) :
  cF 12 #[.int .i64 me,dv,.pointer (some ⟨pd,0,none⟩)] K E ⟨F,M,N⟩:=by
 refine za4 za8 Tryz.func12 (by kernel_rfl) (t12 _ E _ _ _) (λhw=>?_);have hm:za5 M N:=hw.m;obtain ⟨lr0,hp0⟩:=P.pp;have hpN:=hm.lt hp0;have hvl:=P.ow.lt hm;refine ypf hd (by omega) (λhno N1 hN1 hw1=>?_) (λhyes p g mb dv' F1 M1 N1 hF1 PT1 hM1 hN1 hm1 hw1=>?_)
 ·refine zaa (v:=.bool true) rfl ?_;try simp only [sS]
  exact λhc=>⟨_,za1 hc,k0 hno N1 hN1⟩
 refine zgc ?_;try simp only [sS]
 have P1:=zbc.frame P hm hM1;refine yne P1 (by omega) h8 h6 hall (λlg w F2 M2 N2 P2 hlg2 hlgN hwlg hrec hF2 hf2 hN2 hm2 hw2=>?_);have PT2:zb8 F2 M2 N p g mb (.slice none 0 0) dv' [] l [] [] 0:=PT1.keep hF2 λq hq=>(hf2 q (by have := (PT1.lt hm1 q hq).1; omega) (λe=>by have := (PT1.lt hm1 q hq).1; have := hvl q e; omega) (PT1.lt hm1 q hq).2).1;obtain ⟨rows,ho,hrows⟩:=hrec;obtain ⟨wa,wc,rfl,_⟩:=ho.form;have hout2:∀ q,q≠pd -> v.ownBlock≠some q -> q<N -> M2 q=M q:=λq q1 q2 q3=>((hf2 q q1 q2 (by omega)).1).trans (hM1 q q3);try simp only [sS]
 refine zc3 rfl ?_;try simp only [sS]
 refine zna (σ:=Nat) (λi=>.int .i64 (i:Nat))
  (λi h=>∃ hv rows' F' M' N',h=⟨F',M',N'⟩∧za7 F2 F'∧N2≤N'∧za5 M' N'∧i≤rs.length∧zb8 F' M' N p g mb hv dv' rows' l (zcn l (rs.take i) ([],[],0)).1 (zcn l (rs.take i) ([],[],0)).2.1 (zcn l (rs.take i) ([],[],0)).2.2 ∧
   (∀ q,q<N2 -> ¬ (q=p∨q=mb∨q=g) -> (q<N∨∀ c t,M2 q≠some (.cells 143 c t)) -> M' q=M2 q)∧(∀ q,q<N2 -> (q<N∨∀ c t,M2 q≠some (.cells 143 c t)) -> hv.ownBlock≠some q)) (λi=>rs.length - i) 0 rfl
  (λhw3=>⟨_,za1 hw3,.slice none 0 0,[],F2,M2,N2,rfl,za7.refl _,Nat.le_refl _,hm2,Nat.zero_le _,PT2,λ_ _ _ _=>rfl,λq _ _=>by simp [Value.ownBlock]⟩) (λk1' i j h1 hI hw3 next=>?_)
 rw [zng];obtain ⟨hv,rows',F3,M3,N3,rfl,hF3,hN3,hm3,hi,PT3,hk3,hv3⟩:=hI
 have tyE:∀ {q e c t},M2 q=some (.cells e c t) -> e≠143 -> ∀ c' t',M2 q≠some (.cells 143 c' t'):=λ{q e c t} hq he c' t' hq'=>by
  rw [hq] at hq'; simp only [Option.some.injEq,zak.cells.injEq] at hq'; exact he hq'.1
 have kp:∀ {q e c t},M2 q=some (.cells e c t) -> (e≠58∧e≠141∧e≠143) -> M3 q=M2 q:=λ{q e c t} hq he=>by
  have := yrj PT2 hq he;exact hk3 q (hm2.lt hq) (λhh=>by rcases hh with hh | hh | hh; exact this.2.2.2 hh; exact this.2.2.1 hh; exact this.2.1 hh) (.inr (tyE hq he.2.2))
 have ho3:own M3 N1 77 10 (.slice wa rs.length wc) rs.length rows.flatten:=ho.keep (λq hq=>by
  obtain ⟨c,t,h'⟩:=zc7 ho _ hq;exact kp h' ⟨by decide,by decide,by decide⟩) (Nat.le_refl _)
 refine zat (λhlt=>?_) (λhge=>?_)
 ·have h1:i<rs.length:=by omega
  try simp only [sS]
  refine zkj ho3 hrows (by decide) h1 (λpp r hri hR hrl1 hr1=>?_);obtain ⟨hz,hL,ht⟩:=hR;have hc1:=hz.keep;refine zap (cs:=zac) (λrb hrb=>?_);refine stM (cs':=r) ?_ (za0 _ _ _) (by show zb3 zac 0 r.toArray.toList=r; unfold zb3; rw [List.drop_eq_nil_of_le (by simp [zac]; omega)]; simp) (by simpa [Value.cells] using hc1.1) (by simpa [Value.cells] using hc1.2) (by simp [zac]);rw [zan];have hel:zac.length=10:=rfl;try simp only [hel]
  have hrb4:=za0 M3 rb (some (.cells 77 r 10));have hM4:∀ q,q<N3 -> upd M3 rb (some (.cells 77 r 10)) q=M3 q:=λq hq=>za3 _ _ (by omega);have hm4:=hm3.new hrb (some (.cells 77 r 10));generalize upd M3 rb _=M4 at *;refine zb6 (vs:=r) ?_ hrb4 (by exact (show (List.drop 0 r).take 10=r by rw [List.drop_zero,← hc1.1,List.take_length])) (by exact (show 0+10≤r.length by omega));have PT4:=PT3.up hm3 (za7.refl _) hM4;obtain ⟨o1,o2,o3⟩:=hok i h1;refine zsz PT4 (by omega) o1 hdl ((hz.mono hF3).rec) o3 o2 (λhv5 F5 M5 N5 rows5 hF5 PT5 hf5 hN5 hm5 hw5=>?_);refine zas (by omega) ?_;have et:rs.take (i+1)=rs.take i++[rs[i]]:=by rw [List.take_add_one,List.getElem?_eq_getElem h1,Option.toList_some]
  refine next (i+1) _ _ (by omega) (λhw6=>⟨_,za1 hw6,hv5,rows5,F5,M5,N5,rfl,hF3.trans hF5,by omega,hm5,h1,?_,λq q1 q2 q3=>?_,λq q1 q2=>?_⟩)
  ·rw [et,zv7]; exact PT5
  ·exact ((hf5 q (hv3 q q1 q3) (λe=>q2 (.inr (.inr e))) (λe=>q2 (.inr (.inl e))) (λe=>q2 (.inl e)) (by omega)).1).trans ((hM4 q (by omega)).trans (hk3 q q1 q2 q3))
  ·by_cases hh:q=p∨q=mb∨q=g
   ·have hpg:=PT5.pg
    rcases hh with rfl | rfl | rfl
    ·exact hpg.2.2.2.1
    ·exact hpg.2.2.2.2
    ·exact PT5.cc.vg
   ·exact (hf5 q (hv3 q q1 q2) (λe=>hh (.inr (.inr e))) (λe=>hh (.inr (.inl e))) (λe=>hh (.inl e)) (by omega)).2
 ·try simp only [sS]
  rw [List.take_of_length_le (by omega)] at PT3;refine zaa (v:=.agg #[.pointer (some ⟨lg,0,none⟩),.pointer (some ⟨p,0,none⟩),.int .i64 me,.slice none 0 0]) (by kernel_rfl) ?_;refine zap (cs:=[.pointer (some ⟨lg,0,none⟩),.pointer (some ⟨p,0,none⟩),.int .i64 me,.slice none 0 0]) (λnb hnb=>?_);obtain ⟨lr2,hp2⟩:=P2.pp
  have P3:zc2 M3 B pd v bs (bs.length:Nat) room (-1):=⟨⟨lr2,(kp hp2 ⟨by decide,by decide,by decide⟩).trans hp2⟩,P2.ow.keep (λq hq=>by
   obtain ⟨c,t,h'⟩:=zc7 P2.ow _ hq;exact kp h' ⟨by decide,by decide,by decide⟩) (Nat.le_refl _),P2.ne,P2.bl⟩
  have hup:∀ q,q<N3 -> upd M3 nb (some (.cells 126 [.pointer (some ⟨lg,0,none⟩),.pointer (some ⟨p,0,none⟩),.int .i64 me,.slice none 0 0] 4)) q=M3 q:=λq hq=>za3 _ _ (by omega)
  have H:zao F3 (upd M3 nb (some (.cells 126 [.pointer (some ⟨lg,0,none⟩),.pointer (some ⟨p,0,none⟩),.int .i64 me,.slice none 0 0] 4))) B nb lg pd v bs (bs.length:Nat) room p g mb hv dv' rows' l (zcn l rs ([],[],0)).1 (zcn l rs ([],[],0)).2.1 (zcn l rs ([],[],0)).2.2 me (.slice none 0 0) :=
   ⟨za0 _ _ _,(hup lg (by have := hm2.lt hlg2; omega)).trans ((kp hlg2 ⟨by decide,by decide,by decide⟩).trans hlg2),zbc.frame P3 hm3 hup,(yqe PT3 (by omega)).up hm3 (za7.refl _) hup⟩
  have hpl:=PT3.lt hm3;refine λhc=>⟨_,za1 hc,λhw'=>k1 hyes nb lg p g mb hv dv' rows' F3 _ (nb+1) (hF1.trans (hF2.trans hF3)) H (λq q1 q2 q3=>⟨?_,λhh=>?_⟩) (by omega) (hm3.new hnb _) hw'⟩
  ·refine (hup q (by omega)).trans ((hk3 q (by omega) (λhh=>?_) (.inl q3)).trans (hout2 q q1 q2 q3));have := (hpl q (by rcases hh with hh | hh | hh; exact .inl hh; exact .inr (.inl hh); exact .inr (.inr (.inl hh)))).1;omega
  ·rcases hh with hh | hh | hh | hh | hh
   ·omega
   ·omega
   ·exact q1 hh
   ·exact q2 hh
   ·have := (hpl q hh).1; omega
section
variable {B nb lg pd:Nat} {v:Value} {bs:List Int} {lasts room:Int} {p g mb:Nat} {hv dv:Value} {rows:List (List Value)} {l:List Dm} {h:List En} {bt:Bts} {tk me:Int} {ov:Value}
def rTk (m:zaj):zaj:=⟨7,m.id,0,[],[],m.lo,m.hi,m.es⟩
theorem ymo {cs:List Value} {m:zaj} (H:zao F M B nb lg pd v bs lasts room p g mb hv dv rows l h bt tk me ov) (hB:B≤N) (hr0:0≤room) (hroom:room≤2000000) (o:okH l 5000 200 h) (hdl:l.length≤1000) (hr:zfz F cs m) (hL:m.lens) (ht:m.typ) (hE:(zah (rTk m)).length≤2000000) (hfb:(zal bt m.id).fs.length≤140737488351232)
  (kS:m.id≤tk -> ∀ M' N',zao F M' B nb lg pd v bs lasts room p g mb hv dv rows l h bt tk me ov -> (∀ q,q<N -> M' q=M q) -> N≤N' -> za5 M' N' -> (Hp.mk F M' N').wf -> K (.bool true) ⟨F,M',N'⟩)
  (k0:¬ m.id≤tk -> ¬ zkc bs room (rTk m) -> ∀ M' N',zao F M' B nb lg pd v bs lasts room p g mb hv dv rows l h bt tk me ov -> (∀ q,¬ nft nb lg pd p g mb v hv q -> q<N -> M' q=M q) -> N≤N' -> za5 M' N' -> (Hp.mk F M' N').wf -> K (.bool false) ⟨F,M',N'⟩)
  (k1:¬ m.id≤tk -> zkc bs room (rTk m) -> ∀ v' hv' F' M' N' rows',za7 F F' -> zao F' M' B nb lg pd v' (bs++zbd (zah (rTk m))) ((bs++zbd (zah (rTk m))).length:Nat) room p g mb hv' dv rows' l (apH l h bt tk (rTk m)) (apS l h bt (rTk m)) (apT l h tk (rTk m)) me ov ->
   (∀ q,¬ nft nb lg pd p g mb v hv q -> q<N -> M' q=M q∧¬ nft nb lg pd p g mb v' hv' q) -> N≤N' -> za5 M' N' -> (Hp.mk F' M' N').wf -> K (.bool (decide (apE l h bt tk (rTk m)=0))) ⟨F',M',N'⟩) :
  cF 49 #[.pointer (some ⟨nb,0,none⟩),.agg cs.toArray] K E ⟨F,M,N⟩:=by
 refine za4 za8 Tryz.func49 (by kernel_rfl) (t49 _ E _ _) (λhw=>?_);have hm:za5 M N:=hw.m;obtain ⟨na,nc,fv,ev,rfl,hn,hf,he⟩:=hr;obtain ⟨fa,fc,rfl⟩:=hf.form;have he0:=he;obtain ⟨ea,ec,rfl⟩:=he.form;refine zap (cs:=[.int .u8 m.kind,.int .u32 m.id,.int .u32 m.tm,.slice na m.ns.length nc,.slice fa m.fs.length fc,.int .i64 m.lo,.int .i64 m.hi,.slice ea m.es.length ec]) (λb hb=>?_);have hx:=za0 M b (some (.cells 49 [.int .u8 m.kind,.int .u32 m.id,.int .u32 m.tm,.slice na m.ns.length nc,.slice fa m.fs.length fc,.int .i64 m.lo,.int .i64 m.hi,.slice ea m.es.length ec] 8));have hM1:∀ q,q<N -> upd M b (some (.cells 49 [.int .u8 m.kind,.int .u32 m.id,.int .u32 m.tm,.slice na m.ns.length nc,.slice fa m.fs.length fc,.int .i64 m.lo,.int .i64 m.hi,.slice ea m.es.length ec] 8)) q=M q:=λq hq=>za3 _ _ (by omega);have hm1:=hm.new hb (some (.cells 49 [.int .u8 m.kind,.int .u32 m.id,.int .u32 m.tm,.slice na m.ns.length nc,.slice fa m.fs.length fc,.int .i64 m.lo,.int .i64 m.hi,.slice ea m.es.length ec] 8));simp only [List.length_cons,List.length_nil,Nat.zero_add];generalize upd M b _=M1 at *;have H1:=H.up hm (za7.refl _) hM1;try simp only [sS]
 refine ldM (v:=.int .u32 m.id) ?_ hx;try simp only [sS]
 refine ldM (v:=.pointer (some ⟨p,0,none⟩)) ?_ H1.nn;refine ykq H1.pt (λhw1=>?_);refine ⟨zaz (zb4 hx) rfl,?_⟩;refine zds (λh1=>?_) (λh1=>?_)
 ·try simp only [sS]
  exact λhc=>⟨_,za1 hc,λhw'=>kS h1 M1 _ H1 hM1 (by omega) hm1 hw'⟩
 try simp only [sS]
 refine ldM (v:=.int .u32 m.id) ?_ hx;try simp only [sS]
 refine ldM (v:=.int .i64 m.lo) ?_ hx;try simp only [sS]
 refine ldM (v:=.int .i64 m.hi) ?_ hx;try simp only [sS]
 refine ldM (v:=.slice ea m.es.length ec) ?_ hx;refine zaa (v:=.agg ([.int .u8 7,.int .u32 m.id,.int .u32 0,.slice none 0 0,.slice none 0 0,.int .u32 0,.slice none 0 0,.int .i64 m.lo,.int .i64 m.hi,.slice ea m.es.length ec]:List Value).toArray) (by kernel_rfl) ?_;have hz:zdr F [.int .u8 7,.int .u32 m.id,.int .u32 0,.slice none 0 0,.slice none 0 0,.int .u32 0,.slice none 0 0,.int .i64 m.lo,.int .i64 m.hi,.slice ea m.es.length ec] (rTk m):=⟨none,0,.slice none 0 0,none,0,_,rfl,sF.nil _ _ _,⟨[],sF.nil _ _ _,zag.nil _ _⟩,he0⟩
 refine zns H1 (by omega) hr0 hroom o hdl hz ⟨by simp [rTk],by simp [rTk],hL.el,hL.et⟩ ⟨ht.i0,⟨Int.le_refl _,by simp [rTk]⟩,λx hx=>absurd hx List.not_mem_nil,ht.ev⟩ (by simp [rTk]) hE ⟨ht.i0,Int.le_refl _,by simp [rTk],by simp [rTk],hL.el,λx hx=>(ht.ev x hx).2.1⟩ hfb
  (λhno2 M' N' H' hf' hN' hm' hw'=>?_) (λhs hle hyes v' hv' F' M' N' rows' hF' H' hf' hN' hm' hw'=>?_)
 ·try simp only [sS]
  exact λhc=>⟨_,za1 hc,λhw'=>k0 h1 hno2 M' N' H' (λq q1 q2=>(hf' q q1 (by omega)).trans (hM1 q q2)) (by omega) hm' hw'⟩
 ·try simp only [sS]
  exact λhc=>⟨_,za1 hc,λhw'=>k1 h1 ⟨hs,hle,hyes⟩ v' hv' F' M' N' rows' hF' H' (λq q1 q2=>⟨(hf' q q1 (by omega)).1.trans (hM1 q q2),(hf' q q1 (by omega)).2⟩) (by omega) hm' hw'⟩
end
structure NS where
 bs:List Int
 ls:Int
 h:List En
 bt:Bts
 tk:Int
def NS.ap (l:List Dm) (s:NS) (r:zaj):NS:=⟨s.bs++zbd (zah r),((s.bs++zbd (zah r)).length:Nat),apH l s.h s.bt s.tk r,apS l s.h s.bt r,apT l s.h s.tk r⟩
def zjg (bs:List Int) (room:Int) (r:zaj):Bool:=zbn r&&(decide ((zah r).length≤60000)&&decide ((bs.length:Int)+((zah r).length+7:Nat)≤room))
theorem zlw {bs:List Int} {room:Int} {r:zaj} (h:zkc bs room r):zjg bs room r=true:=by
 obtain ⟨h1,h2,h3⟩:=h;simp only [zjg,h1,decide_eq_true h2,decide_eq_true h3,Bool.and_true]
theorem zvj {bs:List Int} {room:Int} {r:zaj} (h:¬ zkc bs room r):zjg bs room r=false:=by
 cases hh:zjg bs room r
 ·rfl
 ·simp only [zjg,Bool.and_eq_true,decide_eq_true_eq] at hh;exact absurd ⟨hh.1,hh.2.1,hh.2.2⟩ h
def zjn (bt:Bts):Bool:=bt.all λx=>!zq2 bt x.1
theorem zxz {bt:Bts} {ws:List Int} (h:zyv bt ws):ws=[]↔zjn bt=true:=by
 unfold zjn;rw [List.all_eq_true,List.eq_nil_iff_forall_not_mem]
 constructor
 ·intro hn x hx;cases ho:zq2 bt x.1
  ·rfl
  ·exact absurd ((h.2 x.1).2 ⟨zff.2 ⟨x,hx,rfl⟩,ho⟩) (hn x.1)
 ·intro ha x hx;obtain ⟨h1,h2⟩:=(h.2 x).1 hx;obtain ⟨y,hy,e⟩:=zff.1 h1;have := ha y hy;rw [e,h2] at this;cases this
def mGv (m:zaj) (h:List En):zaj:=⟨9,m.id,0,[],[],0,0,zce m.lo m.hi h⟩
def gvB (m:zaj) (h:List En):Bool:=zbp (mGv m h)&&decide ((zah (zav (mGv m h))).length≤60000)
def zbi (l:List Dm) (room:Int) (s:NS) (m:zaj):NS×List zaj :=
 if m.kind=1 then (if (zal s.bt m.id).st=1∨(zal s.bt m.id).st=2∨(zal s.bt m.id).st=3 then (s,[zcb (prS (zal s.bt m.id).st) m.id]) else if (zcc l m.fs&&zjg s.bs room (rPr m))=true then (s.ap l (rPr m),[zcb (if apE l s.h s.bt s.tk (rPr m)=0 then 2 else 3) m.id]) else (s,[zcb 3 m.id]))
 else if m.kind=4 then (if (zal s.bt m.id).st=1 then (if zjg s.bs room (rCo m.id m.tm)=true then (s.ap l (rCo m.id m.tm),if apE l s.h s.bt s.tk (rCo m.id m.tm)=0 then [zcb 6 m.id] else []) else (s,[])) else if (zal s.bt m.id).st=2 then (s,[zcb 6 m.id]) else (s,[]))
 else if m.kind=5 then (if (zal s.bt m.id).st>1∨¬ (s.bs.length:Int)+12≤room then (s,[]) else ({ s.ap l (rAb m.id) with ls:=s.ls },[]))
 else if m.kind=7 then (if (zal s.bt m.id).st=2 then (s,[⟨4,m.id,(zal s.bt m.id).tm,[],[],0,0,[]⟩]) else if (zal s.bt m.id).st=0 then (if zjg s.bs room (rAb m.id)=true then (s.ap l (rAb m.id),if apE l s.h s.bt s.tk (rAb m.id)=0 then [zcb 5 m.id] else []) else (s,[])) else if (zal s.bt m.id).st=3 then (s,[zcb 5 m.id]) else (s,[]))
 else if m.kind=8 then (if (zjn s.bt&&gvB m s.h)=true then (s,[mGv m s.h]) else (s,[]))
 else if m.kind=10 then (if m.id≤s.tk then (s,[zcb 11 m.id]) else if zjg s.bs room (rTk m)=true then (s.ap l (rTk m),if apE l s.h s.bt s.tk (rTk m)=0 then [zcb 11 m.id] else []) else (s,[]))
 else (s,[])
section
variable {B nb lg pd:Nat} {v:Value} {bs:List Int} {lasts room:Int} {p g mb:Nat} {hv dv:Value} {rows:List (List Value)} {l:List Dm} {h:List En} {bt:Bts} {tk me:Int} {ov:Value}
theorem zao.keepN (H:zao F M B nb lg pd v bs lasts room p g mb hv dv rows l h bt tk me ov) (hF:za7 F F') (hM:∀ q,nft nb lg pd p g mb v hv q -> M' q=M q):zao F' M' B nb lg pd v bs lasts room p g mb hv dv rows l h bt tk me ov:=by
 obtain ⟨lr,hp⟩:=H.dk.pp;exact ⟨(hM nb (.inl rfl)).trans H.nn,(hM lg (.inr (.inl rfl))).trans H.ll,⟨⟨lr,(hM pd (.inr (.inr (.inl rfl)))).trans hp⟩,H.dk.ow.keep (λq hq=>hM q (.inr (.inr (.inr (.inl hq))))) (Nat.le_refl _),H.dk.ne,H.dk.bl⟩,H.pt.keep hF (λq hq=>hM q (.inr (.inr (.inr (.inr hq)))))⟩
def zk5 (F:Nat -> Option (List Value)) (ov:Value) (ms:List (Int×Int×List Int)):Prop :=
 ∃ rows,sF F 3 ov ms.length rows.flatten∧zag (λcs (m:Int×Int×List Int)=>∃ u,cs=[.int .i64 m.1,.int .i64 m.2.1,u]∧sF F 1 u m.2.2.length (bts m.2.2)) 3 rows ms
theorem zk5.mono {ms:List (Int×Int×List Int)} (O:zk5 F ov ms) (hF:za7 F F'):zk5 F' ov ms :=
 let ⟨rs,h1,h2⟩:=O; ⟨rs,h1.mono hF,h2.mono λ_ _ ⟨u,e,hu⟩=>⟨u,e,hu.mono hF⟩⟩
theorem yba {C:Nat} {ms:List (Int×Int×List Int)} {P:Nat -> Prop} (O:zjq M C ov ms) (hp:∀ q,C≤q -> P q):zk5 (frzP F M P) ov ms :=
 let ⟨rs,h1,h2⟩:=O
 ⟨rs,h1.frzP (λq hq=>hp q (h1.ge q hq).1),h2.mono λ_ _ ⟨u,e,hu⟩=>⟨u,e,hu.frzP (λq hq=>hp q (hu.ge q hq).1)⟩⟩
theorem yqx {id:Int} {C1 C2 C3:Hp -> Prop} {X:Value -> Value -> Hp -> Prop} (P:zb8 F M B p g mb hv dv rows l h bt tk) (hm:za5 M N) (hC:∀ b c,N≤b -> C1 ⟨F,upd M b c,b+1⟩∧C2 ⟨F,upd M b c,b+1⟩∧C3 ⟨F,upd M b c,b+1⟩)
  (k:∀ b M' N',N≤b -> b<N' -> M' b=some (.cells 85 [.int .u8 (zal bt id).st,.int .u32 (zal bt id).tm] 2) -> (∀ q,q<N -> M' q=M q) -> za5 M' N' -> X (.agg #[.int .u8 (zal bt id).st,.int .u32 (zal bt id).tm]) (.pointer (some ⟨b,0,none⟩)) ⟨F,M',N'⟩) :
  bth (cF 28 #[.pointer (some ⟨p,0,none⟩),.int .u32 id] (λt17=>nw 85 [(.int .u8 0),(.int .u32 0)] λt18=>st 2 t18 t17 λ_=>X t17 t18) E)
   (nw 85 [(.int .u8 0),(.int .u32 0)] (λt18 h'=>C1 h'∧C2 h'∧C3 h'∧(cF 28 #[.pointer (some ⟨p,0,none⟩),.int .u32 id] (λt17=>st 2 t18 t17 λ_=>X t17 t18) E) h')) ⟨F,M,N⟩:=by
 constructor
 ·refine zpb P (λN1 hN1 hw1=>?_);refine zap (cs:=[.int .u8 0,.int .u32 0]) (λb hb=>?_);refine stM (cs':=[.int .u8 (zal bt id).st,.int .u32 (zal bt id).tm]) ?_ (za0 _ _ _) rfl;rw [zan];exact k b _ (b+1) (by omega) (by omega) (za0 _ _ _) (λq hq=>za3 _ _ (by omega)) (hm.new (by omega) _)
 ·refine zap (cs:=[.int .u8 0,.int .u32 0]) (λb hb=>?_);obtain ⟨c1,c2,c3⟩:=hC b (some (.cells 85 [.int .u8 0,.int .u32 0] 2)) hb;refine ⟨c1,c2,c3,?_⟩;refine zpb (P.up hm (za7.refl _) (λq hq=>za3 _ _ (by omega))) (λN1 hN1 hw1=>?_);refine stM (cs':=[.int .u8 (zal bt id).st,.int .u32 (zal bt id).tm]) ?_ (za0 _ _ _) rfl;rw [zan];exact k b _ N1 hb (by omega) (za0 _ _ _) (λq hq=>za3 _ _ (by omega)) ((hm.new hb _).up hN1)
theorem zxn {frm:Int} {bv:Value} {bl:List Int} {m:zaj} (H:zao F M B nb lg pd v bs lasts room p g mb hv dv rows l h bt tk me ov) (hB:B≤N) (hr0:0≤room) (hroom:room≤2000000) (o:okH l 5000 200 h) (hdl:l.length≤1000)
  (hv0:sR F M 1 bv bl.length (bts bl)) (ho:∀ q,bv.ownBlock=some q -> q<N) (hb8:zbg bl) (hln:bl.length≤60001) (h6:∀ x r,rd 1 (bl.drop 1)=some (x,r) -> x≠6) (hdec:zml bl=some m) (h8:m.kind=8 -> E [] zcu∧bt.length≤12∧(zah (zav (mGv m h))).length≤2097152∧(mGv m h).lens∧(mGv m h).typ)
  (hE1:(zah (rPr m)).length≤2000000) (hE2:(zah (rTk m)).length≤2000000) (hnl:m.ns.length≤17592186043904) (hfb:(zal bt m.id).fs.length≤140737488351232) (htm:0≤(zal bt m.id).tm∧(zal bt m.id).tm<4294967296)
  (k:∀ s' ans,zbi l room ⟨bs,lasts,h,bt,tk⟩ m=(s',ans) -> ∀ v' hv' F' M' N' rows' ov',za7 F F' -> zao F' M' B nb lg pd v' s'.bs s'.ls room p g mb hv' dv rows' l s'.h s'.bt s'.tk me ov' -> zk5 F' ov' (ans.map λa=>(me,frm,zbe a)) ->
   (∀ q,¬ nft nb lg pd p g mb v hv q -> q<N -> M' q=M q∧¬ nft nb lg pd p g mb v' hv' q) -> N≤N' -> za5 M' N' -> (Hp.mk F' M' N').wf -> K (.tuple #[ov',.int .u16 0]) ⟨F',M',N'⟩) :
  cF 16 #[.pointer (some ⟨nb,0,none⟩),.int .i64 frm,bv] K E ⟨F,M,N⟩:=by
 refine za4 za8 Tryz.func16 (by kernel_rfl) (t16 _ E _ _ _) (λhw=>?_);have hm:za5 M N:=hw.m;have hnlt:=H.lt hm;refine zap (cs:=[.pointer (some ⟨nb,0,none⟩)]) (λb1 hb1=>?_);refine zap (cs:=[.int .i64 frm]) (λb2 hb2=>?_);have hM1:∀ q,q<N -> upd (upd M b1 (some (.cells 31 [.pointer (some ⟨nb,0,none⟩)] 1))) b2 (some (.cells 3 [.int .i64 frm] 1)) q=M q:=λq hq=>(za3 _ _ (by omega)).trans (za3 _ _ (by omega));have h1:upd (upd M b1 (some (.cells 31 [.pointer (some ⟨nb,0,none⟩)] 1))) b2 (some (.cells 3 [.int .i64 frm] 1)) b1=_:=(za3 _ _ (by omega)).trans (za0 _ _ _);have h2:=za0 (upd M b1 (some (.cells 31 [.pointer (some ⟨nb,0,none⟩)] 1))) b2 (some (.cells 3 [.int .i64 frm] 1));have hm1:=(hm.new hb1 (some (.cells 31 [.pointer (some ⟨nb,0,none⟩)] 1))).new hb2 (some (.cells 3 [.int .i64 frm] 1));refine (show (_:Hp -> Prop) ⟨F,upd (upd M b1 (some (.cells 31 [.pointer (some ⟨nb,0,none⟩)] 1))) b2 (some (.cells 3 [.int .i64 frm] 1)),b2+1⟩ from ?_);generalize upd (upd M b1 _) b2 _=M1 at *;have H1:=H.up hm (za7.refl _) hM1;have hv1:sR F M1 1 bv bl.length (bts bl):=zfi hm hv0 hM1;refine yqr hv1 (λq hq=>by have := ho q hq; omega) hb8 hln h6 (λcs F2 M2 N2 m' hd hz hL ht hF2 hN2 hM2 hm2 hw2=>?_) (λhno=>by rw [hdec] at hno; exact absurd hno (by simp));have em:m'=m:=by rw [hdec] at hd; exact (Option.some.inj hd).symm
 subst em;have hz0:=hz;have hz1:=hz.one;obtain ⟨na,nc,fv,ev,ecs,hn,hf,he⟩:=hz0;obtain ⟨fa,fc,rfl⟩:=hf.form;obtain ⟨ea,ec,rfl⟩:=he.form;have hc1:cs[1]?=some (.int .u32 m'.id):=by rw [ecs]; rfl
 have hc0:cs[0]?=some (.int .u8 m'.kind):=by rw [ecs]; rfl
 have hcl:cs.length=8:=by rw [ecs]; rfl
 refine zaa rfl (zaa rfl ?_);refine zap (cs:=zc4) (λb6 hb6=>?_);refine stM (cs':=cs) ?_ (za0 _ _ _) (by show zb3 zc4 0 cs.toArray.toList=cs; unfold zb3; rw [List.drop_eq_nil_of_le (by simp [zc4]; omega)]; simp) (by simpa [Value.cells] using hz1.1) (by simpa [Value.cells] using hz1.2) (by simp [zc4,hcl]);rw [zan];refine (show (_:Hp -> Prop) ⟨F2,upd M2 b6 (some (.cells 49 cs 8)),b6+1⟩ from ?_);have hM3:∀ q,q<N2 -> upd M2 b6 (some (.cells 49 cs 8)) q=M2 q:=λq hq=>za3 _ _ (by omega);have h63:=za0 M2 b6 (some (.cells 49 cs 8));have hm3:=hm2.new hb6 (some (.cells 49 cs 8));generalize upd M2 b6 _=M3 at *;have hM13:∀ q,q<b2+1 -> M3 q=M1 q:=λq hq=>(hM3 q (by omega)).trans (hM2 q hq);have H3:=H1.up hm1 hF2 hM13;refine zc3 rfl (zaq ?_);refine ldM (v:=.pointer (some ⟨nb,0,none⟩)) ?_ ((hM13 b1 (by omega)).trans h1);refine zaa rfl (zaa rfl ?_);refine stM (cs':=[.pointer (some ⟨lg,0,none⟩),.pointer (some ⟨p,0,none⟩),.int .i64 me,.slice none 0 0]) ?_ H3.nn rfl;have H4:=H3.out hm3 (za0 M3 nb (some (.cells 126 [.pointer (some ⟨lg,0,none⟩),.pointer (some ⟨p,0,none⟩),.int .i64 me,.slice none 0 0] 4))) (λq q1 _ _=>za3 _ _ q1);have hnbN:=hnlt nb (.inl rfl);have hM34:∀ q,q≠nb -> upd M3 nb (some (.cells 126 [.pointer (some ⟨lg,0,none⟩),.pointer (some ⟨p,0,none⟩),.int .i64 me,.slice none 0 0] 4)) q=M3 q:=λq hq=>za3 _ _ hq;have hm4:=hm3.set (show nb<b6+1 by omega) (some (.cells 126 [.pointer (some ⟨lg,0,none⟩),.pointer (some ⟨p,0,none⟩),.int .i64 me,.slice none 0 0] 4));generalize upd M3 nb _=M4 at *;have h14:M4 b1=some (.cells 31 [.pointer (some ⟨nb,0,none⟩)] 1):=(hM34 b1 (by omega)).trans ((hM13 b1 (by omega)).trans h1);have h24:M4 b2=some (.cells 3 [.int .i64 frm] 1):=(hM34 b2 (by omega)).trans ((hM13 b2 (by omega)).trans h2);have h64:M4 b6=some (.cells 49 cs 8):=(hM34 b6 (by omega)).trans h63;refine ldM (v:=.pointer (some ⟨nb,0,none⟩)) ?_ h14;refine zaa rfl (zaa rfl ?_);refine ldM (v:=.pointer (some ⟨p,0,none⟩)) ?_ H4.nn;refine zaa rfl ?_;refine ldM (v:=.int .u32 m'.id) ?_ h64 (by simpa using hc1);refine yqx H4.pt hm4 (λb c hb=>⟨zaz (zb4 ((za3 _ _ (by omega)).trans h64)) (by simpa using hc1),zaz (zb4 ((za3 _ _ (by omega)).trans H4.nn)) rfl,zaz (zb4 ((za3 _ _ (by omega)).trans h14)) rfl⟩) (λb8 M5 N5 hb8 hbN5 h85 hM45 hm5=>?_);unfold c16;have H5:=H4.up hm4 (za7.refl _) hM45;have h15:=(hM45 b1 (by omega)).trans h14;have h25:=(hM45 b2 (by omega)).trans h24;have h65:=(hM45 b6 (by omega)).trans h64;have low:∀ q,q<N -> q≠nb -> M5 q=M q:=λq q1 q2=>(hM45 q (by omega)).trans ((hM34 q q2).trans ((hM13 q (by omega)).trans (hM1 q q1)));have O5:zjq M5 N5 (.slice none 0 0) []:=⟨[],own.nil,zag.nil _ _⟩
 have fin:∀ s' ans,zbi l room ⟨bs,lasts,h,bt,tk⟩ m'=(s',ans) -> ∀ C v' hv' F' M' N' rows' ov',za7 F2 F' -> zao F' M' B nb lg pd v' s'.bs s'.ls room p g mb hv' dv rows' l s'.h s'.bt s'.tk me ov' -> zjq M' C ov' (ans.map λa=>(me,frm,zbe a)) -> (N≤C∧∀ q,nft nb lg pd p g mb v' hv' q -> q<C) ->
   (∀ q,¬ nft nb lg pd p g mb v hv q -> q<N5 -> M' q=M5 q∧¬ nft nb lg pd p g mb v' hv' q) -> N5≤N' -> za5 M' N' ->
   (ld false 1 (.pointer (some ⟨b1,0,none⟩)) (λa=>pv (zai a) (λb=>pv (faV 3 b) (λc=>ld false 1 c (λd h=>h.wf -> ∃ h',h.wk h'∧(h'.wf -> K (.tuple #[d,.int .u16 0]) h')))))) ⟨F',M',N'⟩:=by
  intro s' ans es C v' hv' F' M' N' rows' ov' hF' H' O' hC fr hN' hm';have n1:¬ nft nb lg pd p g mb v hv b1:=λe=>by have := hnlt _ e; omega
  refine ldM (v:=.pointer (some ⟨nb,0,none⟩)) ?_ ((fr b1 n1 (by omega)).1.trans h15);try simp only [sS]
  refine ldM (v:=ov') ?_ H'.nn;refine λhc=>⟨_,zog (p:=λq=>N≤q∧¬ nft nb lg pd p g mb v' hv' q) hc,λhw'=>k s' ans es v' hv' _ _ N' rows' ov' ((hF2.trans hF').trans (zc5 hc)) (H'.keepN (zc5 hc) (λq hq=>zch (λe=>e.2 hq))) (yba O' (λq hq=>⟨by have := hC.1; omega,λe=>by have := hC.2 q e; omega⟩)) (λq q1 q2=>?_) (by omega) (zei hm') hw'⟩;have hq:=fr q q1 (by omega);exact ⟨(zch (λe=>by have := e.1; omega)).trans (hq.1.trans (low q q2 (λe=>q1 (.inl e)))),hq.2⟩
 have ans:∀ (kind:Int) (s':NS),(kind=2∨kind=3∨kind=5∨kind=6∨kind=7∨kind=11) -> zbi l room ⟨bs,lasts,h,bt,tk⟩ m'=(s',[zcb kind m'.id]) -> ∀ v' hv' F' M' N' rows',za7 F2 F' -> zao F' M' B nb lg pd v' s'.bs s'.ls room p g mb hv' dv rows' l s'.h s'.bt s'.tk me (.slice none 0 0) ->
   (∀ q,¬ nft nb lg pd p g mb v hv q -> q<N5 -> M' q=M5 q∧¬ nft nb lg pd p g mb v' hv' q) -> N5≤N' -> za5 M' N' -> ∀ X:zae,(∀ t F'' M'' N'',(ld false 1 (.pointer (some ⟨b1,0,none⟩)) (λa=>pv (zai a) (λb=>pv (faV 3 b) (λc=>ld false 1 c (λd h=>h.wf -> ∃ h',h.wk h'∧(h'.wf -> K (.tuple #[d,.int .u16 0]) h')))))) ⟨F'',M'',N''⟩ -> X t ⟨F'',M'',N''⟩) ->
   zbs Tryz.prog (.func (.func 43) #[] #[.pointer (some ⟨b1,0,none⟩),.pointer (some ⟨b2,0,none⟩),.pointer (some ⟨b6,0,none⟩)]) #[.int .u8 kind] X E ⟨F',M',N'⟩:=by
  intro kind s' hk es v' hv' F' M' N' rows' hF' H' fr hN' hm' X hX;have nn:∀ q,N≤q -> ¬ nft nb lg pd p g mb v hv q:=λq hq e=>by have := hnlt _ e; omega
  refine ypg (C:=N') H' (Nat.le_refl _) ⟨[],own.nil,zag.nil _ _⟩ (by simp) hk ht.i0 ((fr b1 (nn _ (by omega)) (by omega)).1.trans h15) ((fr b2 (nn _ (by omega)) (by omega)).1.trans h25) ((fr b6 (nn _ (by omega)) (by omega)).1.trans h65) hc1 (λov'' M'' N'' H'' O'' f'' hN'' hm'' hw''=>hX _ _ _ _ ?_);refine fin s' _ es N' v' hv' F' M'' N'' rows' ov'' hF' H'' O'' ⟨by omega,H'.lt hm'⟩ (λq q1 q2=>?_) (by omega) hm'';have g1:=fr q q1 q2;have g2:=f'' q (λe=>q1 (.inl e)) (by simp [Value.ownBlock]) (by omega);exact ⟨g2.1.trans g1.1,g1.2⟩
 have hcs8:(cs.drop 0).take 8=cs:=by rw [List.drop_zero,← hcl,List.take_length]
 try simp only [sS]
 refine ldM (v:=.int .u8 m'.kind) ?_ h65 (by simpa using hc0);refine zau (λg1=>?_) (λg1=>?_)
 ·try simp only [sS]
  refine ldM (v:=.pointer (some ⟨nb,0,none⟩)) ?_ h15;refine zb6 (vs:=cs) ?_ h65 hcs8 (by omega);refine ldM (v:=.int .u8 (zal bt m'.id).st) ?_ h85;refine ync H5 (by omega) hr0 hroom o hdl hz hL ht hE1 hnl hfb (λhst M6 N6 H6 f6 hN6 hm6 hw6=>?_) (λhst hno M6 N6 H6 f6 hN6 hm6 hw6=>?_) (λhst hfit hlay v6 hv6 F6 M6 N6 rows6 hF6 H6 f6 hN6 hm6 hw6=>?_)
  ·refine ans (prS (zal bt m'.id).st) ⟨bs,lasts,h,bt,tk⟩ (by unfold prS; rcases hst with e | e | e<;>rw [e]<;>simp) (by unfold zbi; rw [if_pos g1,if_pos hst]) v hv F2 M6 N6 rows (za7.refl _) H6 (λq q1 q2=>⟨f6 q q2,q1⟩) hN6 hm6 _ (λt F'' M'' N'' hx=>?_);rw [zar];exact hx
  ·refine ans 3 ⟨bs,lasts,h,bt,tk⟩ (by simp) (by unfold zbi; rw [if_pos g1,if_neg hst,if_neg (λe=>hno (by rw [Bool.and_eq_true] at e; exact ⟨e.1,Classical.byContradiction λe'=>by rw [zvj e'] at e; exact absurd e.2 (by simp)⟩))]) v hv F2 M6 N6 rows (za7.refl _) H6 (λq q1 q2=>⟨f6 q q1 q2,q1⟩) hN6 hm6 _ (λt F'' M'' N'' hx=>?_);rw [zar];exact hx
  ·refine ans (if apE l h bt tk (rPr m')=0 then 2 else 3) (NS.ap l ⟨bs,lasts,h,bt,tk⟩ (rPr m')) (by split<;>simp) (by unfold zbi; rw [if_pos g1,if_neg hst,if_pos (by rw [hfit,zlw hlay]; rfl)]) v6 hv6 F6 M6 N6 rows6 hF6 H6 f6 hN6 hm6 _ (λt F'' M'' N'' hx=>?_);rw [zar];exact hx
 try simp only [sS]
 refine ldM (v:=.int .u8 m'.kind) ?_ h65 (by simpa using hc0);refine zau (λg4=>?_) (λg4=>?_)
 ·try simp only [sS]
  refine ldM (v:=.pointer (some ⟨nb,0,none⟩)) ?_ h15;try simp only [sS]
  refine zb6 (vs:=cs) ?_ h65 hcs8 (by omega);try simp only [sS]
  refine ldM (v:=.int .u8 (zal bt m'.id).st) ?_ h85;try simp only [sS]
  refine ygu H5 (by omega) hr0 hroom o hdl hz ht hfb (λhst M6 N6 H6 f6 hN6 hm6 hw6=>?_) (λhst hno M6 N6 H6 f6 hN6 hm6 hw6=>?_) (λhst hlay v6 hv6 F6 M6 N6 rows6 hF6 H6 f6 hN6 hm6 hw6=>?_)
  ·by_cases h2:(zal bt m'.id).st=2
   ·rw [decide_eq_true h2];try simp only [sS]
    refine ans 6 ⟨bs,lasts,h,bt,tk⟩ (by simp) (by unfold zbi; rw [if_neg g1,if_pos g4,if_neg hst,if_pos h2]) v hv F2 M6 N6 rows (za7.refl _) H6 (λq q1 q2=>⟨f6 q q2,q1⟩) hN6 hm6 _ (λt F'' M'' N'' hx=>?_);rw [zar];exact hx
   ·rw [decide_eq_false h2];try simp only [sS]
    refine ldM (v:=.int .u8 m'.kind) ?_ ((f6 b6 (by omega)).trans h65) (by simpa using hc0);refine zbj (by omega) ?_;try simp only [sS]
    refine ldM (v:=.int .u8 m'.kind) ?_ ((f6 b6 (by omega)).trans h65) (by simpa using hc0);refine zbj (by omega) ?_;try simp only [sS]
    refine ldM (v:=.int .u8 m'.kind) ?_ ((f6 b6 (by omega)).trans h65) (by simpa using hc0);refine zbj (by omega) ?_;try simp only [sS]
    refine ldM (v:=.int .u8 m'.kind) ?_ ((f6 b6 (by omega)).trans h65) (by simpa using hc0);refine zbj (by omega) ?_;try simp only [sS]
    refine ldM (v:=.int .u8 m'.kind) ?_ ((f6 b6 (by omega)).trans h65) (by simpa using hc0);refine zbj (by omega) ?_;try simp only [sS]
    rw [zar];exact fin ⟨bs,lasts,h,bt,tk⟩ [] (by unfold zbi; rw [if_neg g1,if_pos g4,if_neg hst,if_neg h2]) N6 v hv F2 M6 N6 rows _ (za7.refl _) H6 ⟨[],own.nil,zag.nil _ _⟩ ⟨by omega,H6.lt hm6⟩ (λq q1 q2=>⟨f6 q q2,q1⟩) hN6 hm6
  ·try simp only [sS]
   refine ldM (v:=.int .u8 m'.kind) ?_ ((f6 b6 (λe=>by have := hnlt _ e; omega) (by omega)).trans h65) (by simpa using hc0);refine zbj (by omega) ?_;try simp only [sS]
   refine ldM (v:=.int .u8 m'.kind) ?_ ((f6 b6 (λe=>by have := hnlt _ e; omega) (by omega)).trans h65) (by simpa using hc0);refine zbj (by omega) ?_;try simp only [sS]
   refine ldM (v:=.int .u8 m'.kind) ?_ ((f6 b6 (λe=>by have := hnlt _ e; omega) (by omega)).trans h65) (by simpa using hc0);refine zbj (by omega) ?_;try simp only [sS]
   refine ldM (v:=.int .u8 m'.kind) ?_ ((f6 b6 (λe=>by have := hnlt _ e; omega) (by omega)).trans h65) (by simpa using hc0);refine zbj (by omega) ?_;try simp only [sS]
   refine ldM (v:=.int .u8 m'.kind) ?_ ((f6 b6 (λe=>by have := hnlt _ e; omega) (by omega)).trans h65) (by simpa using hc0);refine zbj (by omega) ?_;try simp only [sS]
   rw [zar];exact fin ⟨bs,lasts,h,bt,tk⟩ [] (by unfold zbi; rw [if_neg g1,if_pos g4,if_pos hst,if_neg (by rw [zvj hno]; simp)]) N6 v hv F2 M6 N6 rows _ (za7.refl _) H6 ⟨[],own.nil,zag.nil _ _⟩ ⟨by omega,H6.lt hm6⟩ (λq q1 q2=>⟨f6 q q1 q2,q1⟩) hN6 hm6
  ·try simp only [sS]
   by_cases hz:apE l h bt tk (rCo m'.id m'.tm)=0
   ·rw [decide_eq_true hz];try simp only [sS]
    refine ans 6 (NS.ap l ⟨bs,lasts,h,bt,tk⟩ (rCo m'.id m'.tm)) (by simp) (by unfold zbi; rw [if_neg g1,if_pos g4,if_pos hst,if_pos (zlw hlay)]; simp only [hz,if_true]) v6 hv6 F6 M6 N6 rows6 hF6 H6 f6 hN6 hm6 _ (λt F'' M'' N'' hx=>?_);rw [zar];exact hx
   ·rw [decide_eq_false hz];try simp only [sS]
    refine ldM (v:=.int .u8 m'.kind) ?_ ((f6 b6 (λe=>by have := hnlt _ e; omega) (by omega)).1.trans h65) (by simpa using hc0);refine zbj (by omega) ?_;try simp only [sS]
    refine ldM (v:=.int .u8 m'.kind) ?_ ((f6 b6 (λe=>by have := hnlt _ e; omega) (by omega)).1.trans h65) (by simpa using hc0);refine zbj (by omega) ?_;try simp only [sS]
    refine ldM (v:=.int .u8 m'.kind) ?_ ((f6 b6 (λe=>by have := hnlt _ e; omega) (by omega)).1.trans h65) (by simpa using hc0);refine zbj (by omega) ?_;try simp only [sS]
    refine ldM (v:=.int .u8 m'.kind) ?_ ((f6 b6 (λe=>by have := hnlt _ e; omega) (by omega)).1.trans h65) (by simpa using hc0);refine zbj (by omega) ?_;try simp only [sS]
    refine ldM (v:=.int .u8 m'.kind) ?_ ((f6 b6 (λe=>by have := hnlt _ e; omega) (by omega)).1.trans h65) (by simpa using hc0);refine zbj (by omega) ?_;try simp only [sS]
    rw [zar];exact fin (NS.ap l ⟨bs,lasts,h,bt,tk⟩ (rCo m'.id m'.tm)) [] (by unfold zbi; rw [if_neg g1,if_pos g4,if_pos hst,if_pos (zlw hlay)]; simp only [hz,if_false]) N6 v6 hv6 F6 M6 N6 rows6 _ hF6 H6 ⟨[],own.nil,zag.nil _ _⟩ ⟨by omega,H6.lt hm6⟩ (λq q1 q2=>f6 q q1 q2) hN6 hm6
 try simp only [sS]
 refine ldM (v:=.int .u8 m'.kind) ?_ h65 (by simpa using hc0);refine zau (λg5=>?_) (λg5=>?_)
 ·try simp only [sS]
  refine ldM (v:=.pointer (some ⟨nb,0,none⟩)) ?_ h15;try simp only [sS]
  refine ldM (v:=.int .u32 m'.id) ?_ h65 (by simpa using hc1);try simp only [sS]
  refine ldM (v:=.int .u8 (zal bt m'.id).st) ?_ h85;refine yjt H5 (by omega) hr0 hroom o hdl ht.i0 hfb (λhst M6 N6 H6 f6 hN6 hm6 hw6=>?_) (λhst hlay v6 hv6 F6 M6 N6 rows6 hF6 H6 f6 hN6 hm6 hw6=>?_)
  ·rw [zar];exact fin ⟨bs,lasts,h,bt,tk⟩ [] (by unfold zbi; rw [if_neg g1,if_neg g4,if_pos g5,if_pos hst]) N6 v hv F2 M6 N6 rows _ (za7.refl _) H6 ⟨[],own.nil,zag.nil _ _⟩ ⟨by omega,H6.lt hm6⟩ (λq q1 q2=>⟨f6 q q1 q2,q1⟩) hN6 hm6
  ·rw [zar];exact fin { NS.ap l ⟨bs,lasts,h,bt,tk⟩ (rAb m'.id) with ls:=lasts } [] (by unfold zbi; rw [if_neg g1,if_neg g4,if_pos g5,if_neg (λe=>e.elim hst (λe=>e hlay))]) N6 v6 hv6 F6 M6 N6 rows6 _ hF6 H6 ⟨[],own.nil,zag.nil _ _⟩ ⟨by omega,H6.lt hm6⟩ (λq q1 q2=>f6 q q1 q2) hN6 hm6
 try simp only [sS]
 refine ldM (v:=.int .u8 m'.kind) ?_ h65 (by simpa using hc0);refine zau (λg7=>?_) (λg7=>?_)
 ·try simp only [sS]
  refine ldM (v:=.int .u8 (zal bt m'.id).st) ?_ h85;refine zau (λs2=>?_) (λs2=>?_)
  ·try simp only [sS]
   refine ldM (v:=.pointer (some ⟨nb,0,none⟩)) ?_ h15;refine ldM (v:=.int .i64 frm) ?_ h25;try simp only [sS]
   refine ldM (v:=.int .u32 m'.id) ?_ h65 (by simpa using hc1);try simp only [sS]
   refine ldM (v:=.int .u32 (zal bt m'.id).tm) ?_ h85;refine zaa (v:=.agg #[.int .u8 4,.int .u32 m'.id,.int .u32 (zal bt m'.id).tm,.slice none 0 0,.slice none 0 0,.int .i64 0,.int .i64 0,.slice none 0 0]) (by kernel_rfl) ?_;refine zp5 (C:=N5) (m:=⟨4,m'.id,(zal bt m'.id).tm,[],[],0,0,[]⟩) (cs:=[.int .u8 4,.int .u32 m'.id,.int .u32 (zal bt m'.id).tm,.slice none 0 0,.slice none 0 0,.int .i64 0,.int .i64 0,.slice none 0 0]) H5 (Nat.le_refl _) O5 (by simp) ⟨none,0,.slice none 0 0,.slice none 0 0,rfl,sF.nil _ _ _,⟨[],sF.nil _ _ _,zag.nil _ _⟩,zc6.nil⟩ ⟨by simp,by simp,by simp,λx hx=>absurd hx List.not_mem_nil⟩ ⟨ht.i0,htm,λx hx=>absurd hx List.not_mem_nil,λx hx=>absurd hx List.not_mem_nil⟩ (by rw [zcw]; simp [zav,zbv,zco,za9]) (λhno=>absurd ⟨by simp [zbp,zav,zbv,zbn,zek],by rw [zcw]; simp [zav,zbv,zco,za9]⟩ hno) (λ_ _ ov6 M6 N6 H6 O6 f6 hN6 hm6 hw6=>?_);rw [zar];exact fin ⟨bs,lasts,h,bt,tk⟩ [⟨4,m'.id,(zal bt m'.id).tm,[],[],0,0,[]⟩] (by unfold zbi; rw [if_neg g1,if_neg g4,if_neg g5,if_pos g7,if_pos s2]) N5 v hv F2 M6 N6 rows ov6 (za7.refl _) H6 O6 ⟨by omega,H5.lt hm5⟩ (λq q1 q2=>⟨(f6 q (λe=>q1 (.inl e)) (by simp [Value.ownBlock]) q2).1,q1⟩) hN6 hm6
  ·try simp only [sS]
   refine ldM (v:=.int .u8 m'.kind) ?_ h65 (by simpa using hc0);refine zeg g7 ?_;try simp only [sS]
   refine ldM (v:=.pointer (some ⟨nb,0,none⟩)) ?_ h15;try simp only [sS]
   refine ldM (v:=.int .u32 m'.id) ?_ h65 (by simpa using hc1);try simp only [sS]
   refine ldM (v:=.int .u8 (zal bt m'.id).st) ?_ h85;try simp only [sS]
   refine ylh H5 (by omega) hr0 hroom o hdl ht.i0 hfb (λhst hw6=>?_) (λhst hno M6 N6 H6 f6 hN6 hm6 hw6=>?_) (λhst hlay v6 hv6 F6 M6 N6 rows6 hF6 H6 f6 hN6 hm6 hw6=>?_)
   ·by_cases h3:(zal bt m'.id).st=3
    ·rw [decide_eq_true h3];try simp only [sS]
     refine ans 5 ⟨bs,lasts,h,bt,tk⟩ (by simp) (by unfold zbi; rw [if_neg g1,if_neg g4,if_neg g5,if_pos g7,if_neg s2,if_neg hst,if_pos h3]) v hv F2 M5 N5 rows (za7.refl _) H5 (λq q1 q2=>⟨rfl,q1⟩) (Nat.le_refl _) hm5 _ (λt F'' M'' N'' hx=>?_);rw [zar];exact hx
    ·rw [decide_eq_false h3];try simp only [sS]
     refine ldM (v:=.int .u8 m'.kind) ?_ (h65) (by simpa using hc0);refine zbj (by omega) ?_;try simp only [sS]
     refine ldM (v:=.int .u8 m'.kind) ?_ (h65) (by simpa using hc0);refine zbj (by omega) ?_;try simp only [sS]
     rw [zar];exact fin ⟨bs,lasts,h,bt,tk⟩ [] (by unfold zbi; rw [if_neg g1,if_neg g4,if_neg g5,if_pos g7,if_neg s2,if_neg hst,if_neg h3]) N5 v hv F2 M5 N5 rows _ (za7.refl _) H5 ⟨[],own.nil,zag.nil _ _⟩ ⟨by omega,H5.lt hm5⟩ (λq q1 q2=>⟨rfl,q1⟩) (Nat.le_refl _) hm5
   ·try simp only [sS]
    refine ldM (v:=.int .u8 m'.kind) ?_ ((f6 b6 (λe=>by have := hnlt _ e; omega) (by omega)).trans h65) (by simpa using hc0);refine zbj (by omega) ?_;try simp only [sS]
    refine ldM (v:=.int .u8 m'.kind) ?_ ((f6 b6 (λe=>by have := hnlt _ e; omega) (by omega)).trans h65) (by simpa using hc0);refine zbj (by omega) ?_;try simp only [sS]
    rw [zar];exact fin ⟨bs,lasts,h,bt,tk⟩ [] (by unfold zbi; rw [if_neg g1,if_neg g4,if_neg g5,if_pos g7,if_neg s2,if_pos hst,if_neg (by rw [zvj hno]; simp)]) N6 v hv F2 M6 N6 rows _ (za7.refl _) H6 ⟨[],own.nil,zag.nil _ _⟩ ⟨by omega,H6.lt hm6⟩ (λq q1 q2=>⟨f6 q q1 q2,q1⟩) hN6 hm6
   ·try simp only [sS]
    by_cases hz:apE l h bt tk (rAb m'.id)=0
    ·rw [decide_eq_true hz];try simp only [sS]
     refine ans 5 (NS.ap l ⟨bs,lasts,h,bt,tk⟩ (rAb m'.id)) (by simp) (by unfold zbi; rw [if_neg g1,if_neg g4,if_neg g5,if_pos g7,if_neg s2,if_pos hst,if_pos (zlw hlay)]; simp only [hz,if_true]) v6 hv6 F6 M6 N6 rows6 hF6 H6 f6 hN6 hm6 _ (λt F'' M'' N'' hx=>?_);rw [zar];exact hx
    ·rw [decide_eq_false hz];try simp only [sS]
     refine ldM (v:=.int .u8 m'.kind) ?_ ((f6 b6 (λe=>by have := hnlt _ e; omega) (by omega)).1.trans h65) (by simpa using hc0);refine zbj (by omega) ?_;try simp only [sS]
     refine ldM (v:=.int .u8 m'.kind) ?_ ((f6 b6 (λe=>by have := hnlt _ e; omega) (by omega)).1.trans h65) (by simpa using hc0);refine zbj (by omega) ?_;try simp only [sS]
     rw [zar];exact fin (NS.ap l ⟨bs,lasts,h,bt,tk⟩ (rAb m'.id)) [] (by unfold zbi; rw [if_neg g1,if_neg g4,if_neg g5,if_pos g7,if_neg s2,if_pos hst,if_pos (zlw hlay)]; simp only [hz,if_false]) N6 v6 hv6 F6 M6 N6 rows6 _ hF6 H6 ⟨[],own.nil,zag.nil _ _⟩ ⟨by omega,H6.lt hm6⟩ (λq q1 q2=>f6 q q1 q2) hN6 hm6
 try simp only [sS]
 refine ldM (v:=.int .u8 m'.kind) ?_ h65 (by simpa using hc0);refine zbj g7 ?_;try simp only [sS]
 refine ldM (v:=.int .u8 m'.kind) ?_ h65 (by simpa using hc0);refine zau (λg8=>?_) (λg8=>?_)
 ·obtain ⟨hE,h12,hGe,hGl,hGt⟩:=h8 g8;try simp only [sS]
  refine ldM (v:=.pointer (some ⟨nb,0,none⟩)) ?_ h15;try simp only [sS]
  refine ldM (v:=.pointer (some ⟨p,0,none⟩)) ?_ H5.nn;try simp only [sS]
  refine yd6 hE H5.pt h12 (λwv ws F6 N6 hw6 hF6 hN6 hws hwv=>?_);have H6:=H5.keepN (M':=M5) hF6 (λ_ _=>rfl);refine zb7 hwv ?_;have hst:zbi l room ⟨bs,lasts,h,bt,tk⟩ m'=if (zjn bt&&gvB m' h)=true then (⟨bs,lasts,h,bt,tk⟩,[mGv m' h]) else (⟨bs,lasts,h,bt,tk⟩,[]):=by unfold zbi; rw [if_neg g1,if_neg g4,if_neg g5,if_neg g7,if_pos g8]
  have nogv:(zjn bt&&gvB m' h)=false -> ∀ F' M' N' ov',za7 F2 F' -> zao F' M' B nb lg pd v bs lasts room p g mb hv dv rows l h bt tk me ov' -> zjq M' N' ov' [] -> (∀ q,¬ nft nb lg pd p g mb v hv q -> q<N5 -> M' q=M5 q) -> N5≤N' -> za5 M' N' ->
    (ld false 1 (.pointer (some ⟨b1,0,none⟩)) (λa=>pv (zai a) (λb=>pv (faV 3 b) (λc=>ld false 1 c (λd h=>h.wf -> ∃ h',h.wk h'∧(h'.wf -> K (.tuple #[d,.int .u16 0]) h')))))) ⟨F',M',N'⟩:=λhno F' M' N' ov' hF' H' O' fr hN' hm'=>
   fin ⟨bs,lasts,h,bt,tk⟩ [] (by rw [hst,hno,if_neg (by simp)]) N' v hv F' M' N' rows ov' hF' H' O' ⟨by omega,H'.lt hm'⟩ (λq q1 q2=>⟨fr q q1 q2,q1⟩) hN' hm'
  refine zau (λhz=>?_) (λhz=>?_)
  ·have hno:zjn bt=true:=(zxz hws).1 (List.eq_nil_of_length_eq_zero (by omega));try simp only [sS]
   refine ldM (v:=.pointer (some ⟨nb,0,none⟩)) ?_ h15;refine ldM (v:=.int .i64 frm) ?_ h25;try simp only [sS]
   refine ldM (v:=.int .u32 m'.id) ?_ h65 (by simpa using hc1);refine ldM (v:=.pointer (some ⟨nb,0,none⟩)) ?_ h15;try simp only [sS]
   refine ldM (v:=.pointer (some ⟨p,0,none⟩)) ?_ H6.nn;try simp only [sS]
   refine ldM (v:=.pointer (some ⟨g,0,none⟩)) ?_ H6.pt.pp;try simp only [sS]
   refine ldM (v:=.int .i64 m'.lo) ?_ h65 (by rw [ecs]; rfl);try simp only [sS]
   refine ldM (v:=.int .i64 m'.hi) ?_ h65 (by rw [ecs]; rfl);refine zjp H6.pt.cc o hdl (λev7 F7 N7 hw7 hF7 hN7 he7=>?_);have H7:=H6.keepN (M':=M5) hF7 (λ_ _=>rfl);refine ⟨zaz (zb4 h15) rfl,zaz (zb4 h65) (by simpa using hc1),zaz (zb4 h25) rfl,zaz (zb4 h15) rfl,?_⟩;have he70:=he7;obtain ⟨ea7,ec7,rfl⟩:=he7.form;refine zaa (v:=.agg #[.int .u8 9,.int .u32 m'.id,.int .u32 0,.slice none 0 0,.slice none 0 0,.int .i64 0,.int .i64 0,.slice ea7 (zce m'.lo m'.hi h).length ec7]) (by kernel_rfl) ?_;refine zp5 (C:=N7) (m:=mGv m' h) (cs:=[.int .u8 9,.int .u32 m'.id,.int .u32 0,.slice none 0 0,.slice none 0 0,.int .i64 0,.int .i64 0,.slice ea7 (zce m'.lo m'.hi h).length ec7]) H7 (Nat.le_refl _) ⟨[],own.nil,zag.nil _ _⟩ (by simp) ⟨none,0,.slice none 0 0,_,rfl,sF.nil _ _ _,⟨[],sF.nil _ _ _,zag.nil _ _⟩,he70⟩ hGl hGt hGe (λhno2 M8 N8 H8 O8 f8 hN8 hm8 hw8=>?_) (λhs8 hle8 ov8 M8 N8 H8 O8 f8 hN8 hm8 hw8=>?_)
   ·refine ⟨zaz (zb4 ((f8 b1 (by omega)).trans h15)) rfl,?_⟩;rw [zar];refine nogv (by rw [hno,Bool.true_and]; cases hh:gvB m' h; rfl; exact absurd (by unfold gvB at hh; rw [Bool.and_eq_true,decide_eq_true_eq] at hh; exact hh) hno2) F7 M8 N8 _ (hF6.trans hF7) H8 ⟨[],own.nil,zag.nil _ _⟩ (λq q1 q2=>f8 q (by omega)) (by omega) hm8
   ·refine ⟨zaz (zb4 ((f8 b1 (by omega) (by simp [Value.ownBlock]) (by omega)).1.trans h15)) rfl,?_⟩;rw [zar];exact fin ⟨bs,lasts,h,bt,tk⟩ [mGv m' h] (by rw [hst,if_pos (by rw [hno,Bool.true_and]; unfold gvB; rw [hs8,decide_eq_true hle8]; rfl)]) N7 v hv F7 M8 N8 rows ov8 (hF6.trans hF7) H8 O8 ⟨by omega,H7.lt (hm5.up (by omega))⟩ (λq q1 q2=>⟨(f8 q (λe=>q1 (.inl e)) (by simp [Value.ownBlock]) (by omega)).1,q1⟩) (by omega) hm8
  ·try simp only [sS]
   refine ldM (v:=.int .u8 m'.kind) ?_ h65 (by simpa using hc0);refine zbj (by omega) ?_;try simp only [sS]
   rw [zar];refine nogv ?_ F6 M5 N6 _ hF6 H6 ⟨[],own.nil,zag.nil _ _⟩ (λ_ _ _=>rfl) (by omega) (hm5.up (by omega));cases hh:zjn bt
   ·rfl
   ·have := (zxz hws).2 hh;rw [this] at hz;exact absurd rfl hz
 try simp only [sS]
 refine ldM (v:=.int .u8 m'.kind) ?_ h65 (by simpa using hc0);refine zau (λg10=>?_) (λg10=>?_)
 ·try simp only [sS]
  refine ldM (v:=.pointer (some ⟨nb,0,none⟩)) ?_ h15;try simp only [sS]
  refine zb6 (vs:=cs) ?_ h65 hcs8 (by omega);try simp only [sS]
  refine ymo H5 (by omega) hr0 hroom o hdl hz hL ht hE2 hfb (λhst M6 N6 H6 f6 hN6 hm6 hw6=>?_) (λhst hno M6 N6 H6 f6 hN6 hm6 hw6=>?_) (λhst hlay v6 hv6 F6 M6 N6 rows6 hF6 H6 f6 hN6 hm6 hw6=>?_)
  ·try simp only [sS]
   refine ans 11 ⟨bs,lasts,h,bt,tk⟩ (by simp) (by unfold zbi; rw [if_neg g1,if_neg g4,if_neg g5,if_neg g7,if_neg g8,if_pos g10,if_pos hst]) v hv F2 M6 N6 rows (za7.refl _) H6 (λq q1 q2=>⟨f6 q q2,q1⟩) hN6 hm6 _ (λt F'' M'' N'' hx=>?_);rw [zar];exact hx
  ·try simp only [sS]
   rw [zar];exact fin ⟨bs,lasts,h,bt,tk⟩ [] (by unfold zbi; rw [if_neg g1,if_neg g4,if_neg g5,if_neg g7,if_neg g8,if_pos g10,if_neg hst,if_neg (by rw [zvj hno]; simp)]) N6 v hv F2 M6 N6 rows _ (za7.refl _) H6 ⟨[],own.nil,zag.nil _ _⟩ ⟨by omega,H6.lt hm6⟩ (λq q1 q2=>⟨f6 q q1 q2,q1⟩) hN6 hm6
  ·try simp only [sS]
   by_cases hz:apE l h bt tk (rTk m')=0
   ·rw [decide_eq_true hz];try simp only [sS]
    refine ans 11 (NS.ap l ⟨bs,lasts,h,bt,tk⟩ (rTk m')) (by simp) (by unfold zbi; rw [if_neg g1,if_neg g4,if_neg g5,if_neg g7,if_neg g8,if_pos g10,if_neg hst,if_pos (zlw hlay)]; simp only [hz,if_true]) v6 hv6 F6 M6 N6 rows6 hF6 H6 f6 hN6 hm6 _ (λt F'' M'' N'' hx=>?_);rw [zar];exact hx
   ·rw [decide_eq_false hz];try simp only [sS]
    rw [zar];exact fin (NS.ap l ⟨bs,lasts,h,bt,tk⟩ (rTk m')) [] (by unfold zbi; rw [if_neg g1,if_neg g4,if_neg g5,if_neg g7,if_neg g8,if_pos g10,if_neg hst,if_pos (zlw hlay)]; simp only [hz,if_false]) N6 v6 hv6 F6 M6 N6 rows6 _ hF6 H6 ⟨[],own.nil,zag.nil _ _⟩ ⟨by omega,H6.lt hm6⟩ (λq q1 q2=>f6 q q1 q2) hN6 hm6
 ·try simp only [sS]
  rw [zar];exact fin ⟨bs,lasts,h,bt,tk⟩ [] (by unfold zbi; rw [if_neg g1,if_neg g4,if_neg g5,if_neg g7,if_neg g8,if_neg g10]) N5 v hv F2 M5 N5 rows _ (za7.refl _) H5 O5 ⟨by omega,H5.lt hm5⟩ (λq q1 q2=>⟨rfl,q1⟩) (Nat.le_refl _) hm5
end
def zmd (rs:List zaj):List Int:=(rs.map zah).flatMap zbd
structure zaj.laid (r:zaj):Prop where
 snd:zbn r=true
 typ:r.typ
 k6:r.kind≠6
 k8:0≤r.kind∧r.kind<256
 len:(zah r).length≤60000
theorem ylj (rs:List zaj):zbg (zmd rs):=zn5 λa ha=>by
 obtain ⟨r,_,rfl⟩:=List.mem_map.1 ha;exact yiy (zl9 r)
theorem yag:∀ {rs:List zaj},(∀ r∈rs,r.laid) -> zdg (rs.map zah)=rs
 | [],_=>rfl
 | r::rs,h=>by
  have h1:=h r (List.mem_cons_self ..);simp only [List.map_cons,zdg,yau h1.snd h1.typ];rw [yag (λx hx=>h x (List.mem_cons_of_mem _ hx))]
theorem yi3 (rs:List zaj):(zmd rs).length=flen (rs.map zah):=by
 unfold zmd flen
 induction rs with
 | nil=>rfl
 | cons r rs ih=>simp only [List.map_cons,List.flatMap_cons,List.length_append,zdp,List.sum_cons,ih]
theorem zni {B pd:Nat} {v dv:Value} {lasts room me:Int} {l:List Dm} {rs:List zaj} (P:zc2 M B pd v (zmd rs) lasts room (-1)) (hB:B≤N) (hd:zeh F dv l) (hdl:l.length≤1000) (hrs:∀ r∈rs,r.laid) (hrl:rs.length≤1000000)
  (hok:∀ i (hi:i<rs.length),okH l 5000 200 (zcn l (rs.take i) ([],[],0)).1∧(zal (zcn l (rs.take i) ([],[],0)).2.1 rs[i].id).fs.length≤140737488351232∧rs[i].ok)
  (k0:zd1 l=false -> ∀ N',N≤N' -> (Hp.mk F M N').wf -> K (.tuple #[.pointer none,.int .u16 30]) ⟨F,M,N'⟩)
  (k1:zd1 l=true -> ∀ nb lg p g mb hv dv' rows F' M' N',za7 F F' -> zao F' M' B nb lg pd v (zmd rs) ((zmd rs).length:Nat) room p g mb hv dv' rows l (zcn l rs ([],[],0)).1 (zcn l rs ([],[],0)).2.1 (zcn l rs ([],[],0)).2.2 me (.slice none 0 0) ->
   (∀ q,q≠pd -> v.ownBlock≠some q -> q<N -> M' q=M q∧¬ nft nb lg pd p g mb v hv q) -> N≤N' -> za5 M' N' -> (Hp.mk F' M' N').wf -> K (.tuple #[.pointer (some ⟨nb,0,none⟩),.int .u16 0]) ⟨F',M',N'⟩) :
  cF 12 #[.int .i64 me,dv,.pointer (some ⟨pd,0,none⟩)] K E ⟨F,M,N⟩:=by
 have hl:∀ t∈rs.map zah,t.length≤60000:=λt ht=>by
  obtain ⟨r,hr,rfl⟩:=List.mem_map.1 ht;exact (hrs r hr).len
 refine ymi P hB hd hdl (ylj rs) (λxs e hc hn x hx k q hk=>?_) (λxs e hc hn=>?_) hrl hok k0 k1
 ·obtain ⟨e1,_⟩:=yaq hl hc hn;rw [e1] at hx;obtain ⟨r,hr,rfl⟩:=List.mem_map.1 hx;obtain ⟨q',hq'⟩:=ydo (r:=r) (hrs r hr).k8.1 (hrs r hr).k8.2;rw [hq'] at hk;simp only [Option.some.injEq,Prod.mk.injEq] at hk;rw [← hk.1];exact (hrs r hr).k6
 ·obtain ⟨e1,e2⟩:=yaq hl hc hn;subst e1;rw [yag hrs];refine ⟨rfl,?_⟩;rw [List.take_of_length_le (by simp),← yi3]
def zlr (me:Int) (bt:Bts) (id:Int):List (Int×Int×List Int):=(me,-1,zbe (zcb 7 id))::((zal bt id).ns.filter λx=>decide (x≠me)).map λx=>(me,x,zbe (zcb 7 id))
theorem ylt (me:Int) (bt:Bts) (id:Int):(zlr me bt id).length≤(zal bt id).ns.length+1:=by
 simp only [zlr,List.length_cons,List.length_map];have := List.length_filter_le (λx=>decide (x≠me)) (zal bt id).ns;omega
theorem zl7 {α β:Type} (f:α -> List β) (n:Nat):∀ l:List α,(∀ x∈l,(f x).length≤n) -> (l.flatMap f).length≤l.length*n
 | [],_=>by simp
 | x::l,h=>by
  have h1:=h x (List.mem_cons_self ..);have h2:=zl7 f n l (λy hy=>h y (List.mem_cons_of_mem _ hy));rw [List.flatMap_cons,List.length_append,List.length_cons,Nat.add_mul];omega
theorem zzs {l:List Int} {p:Int -> Bool} {i:Nat} (h:i<l.length):(l.take (i+1)).filter p=(l.take i).filter p++if p l[i]=true then [l[i]] else []:=by
 rw [List.take_add_one,List.getElem?_eq_getElem h,Option.toList_some,List.filter_append,List.filter_cons,List.filter_nil]
section
variable {B nb lg pd:Nat} {v:Value} {bs:List Int} {lasts room:Int} {p g mb:Nat} {hv dv:Value} {rows:List (List Value)} {l:List Dm} {h:List En} {bt:Bts} {tk me:Int} {ov:Value}
theorem ynq (hE:E [] zcu) (H:zao F M B nb lg pd v bs lasts room p g mb hv dv rows l h bt tk me ov) (h12:bt.length≤12) (hid:∀ x∈bt,0≤x.1∧x.1<4294967296) (hns:∀ id,(zal bt id).ns.length≤1000)
  (k:∀ ws,zyv bt ws -> ∀ F' M' N' ov',za7 F F' -> zao F' M' B nb lg pd v bs lasts room p g mb hv dv rows l h bt tk me ov' -> zk5 F' ov' (ws.flatMap (zlr me bt)) ->
   (∀ q,¬ nft nb lg pd p g mb v hv q -> q<N -> M' q=M q) -> N≤N' -> za5 M' N' -> (Hp.mk F' M' N').wf -> K ov' ⟨F',M',N'⟩) :
  cF 36 #[.pointer (some ⟨nb,0,none⟩)] K E ⟨F,M,N⟩:=by
 refine za4 za8 Tryz.func36 (by kernel_rfl) (t36 _ E _) (λhw=>?_);have hm:za5 M N:=hw.m;have hnlt:=H.lt hm;have hnb:=hnlt nb (.inl rfl);try simp only [sS]
 refine stM (cs':=[.pointer (some ⟨lg,0,none⟩),.pointer (some ⟨p,0,none⟩),.int .i64 me,.slice none 0 0]) ?_ H.nn rfl;have H1:=H.out hm (za0 M nb (some (.cells 126 [.pointer (some ⟨lg,0,none⟩),.pointer (some ⟨p,0,none⟩),.int .i64 me,.slice none 0 0] 4))) (λq q1 _ _=>za3 _ _ q1);have hM1:∀ q,q≠nb -> upd M nb (some (.cells 126 [.pointer (some ⟨lg,0,none⟩),.pointer (some ⟨p,0,none⟩),.int .i64 me,.slice none 0 0] 4)) q=M q:=λq hq=>za3 _ _ hq;have hm1:za5 (upd M nb (some (.cells 126 [.pointer (some ⟨lg,0,none⟩),.pointer (some ⟨p,0,none⟩),.int .i64 me,.slice none 0 0] 4))) N:=hm.set hnb _;generalize upd M nb _=M1 at *;try simp only [sS]
 refine ldM (v:=.pointer (some ⟨p,0,none⟩)) ?_ H1.nn;refine yd6 hE H1.pt h12 (λwv ws F2 N2 hw2 hF2 hN2 hws hwv=>?_)
 have hwl:ws.length≤12:=by
  have n3:ws.Nodup:=hws.1.imp (λ{x y} h=>by omega)
  have := zob (b:=bt.map (·.1)) n3 (λx hx=>by
   obtain ⟨y,hy,e⟩:=zff.1 ((hws.2 x).1 hx).1;exact List.mem_map.2 ⟨y,hy,e⟩)
  rw [List.length_map] at this; omega
 have hwid:∀ x∈ws,0≤x∧x<4294967296:=λx hx=>by
  obtain ⟨y,hy,e⟩:=zff.1 ((hws.2 x).1 hx).1;rw [← e]; exact hid y hy
 refine zb7 hwv ?_
 refine zvo (σ:=Nat) (λi=>.int .i64 (i:Nat))
  (λi h'=>∃ F' M' N' ov',h'=⟨F',M',N'⟩∧i≤ws.length∧za7 F2 F'∧N2≤N'∧za5 M' N'∧zao F' M' B nb lg pd v bs lasts room p g mb hv dv rows l h bt tk me ov'∧zjq M' N ov' ((ws.take i).flatMap (zlr me bt))∧(∀ q,¬ nft nb lg pd p g mb v hv q -> q<N -> M' q=M1 q)) (λi=>ws.length - i) 0 rfl
  (λhw3=>⟨_,za1 hw3,F2,M1,N2,.slice none 0 0,rfl,Nat.zero_le _,za7.refl _,Nat.le_refl _,hm1.up hN2,H1.keepN hF2 (λ_ _=>rfl),⟨[],own.nil,zag.nil _ _⟩,λq _ _=>rfl⟩) (λk1 i j h1 hI hw3 next=>?_)
 rw [zuk];obtain ⟨F3,M3,N3,ov3,rfl,hi,hF3,hN3,hm3,H3,O3,fr3⟩:=hI;refine zat (λhlt=>?_) (λhge=>?_)
 rotate_left
 ·try simp only [sS]
  rw [List.take_of_length_le (show ws.length≤i by omega)] at O3;refine ldM (v:=ov3) ?_ H3.nn;refine λhc=>⟨_,zog (p:=λq=>N≤q∧¬ nft nb lg pd p g mb v hv q) hc,λhw'=>k ws hws _ _ N3 ov3 ((hF2.trans hF3).trans (zc5 hc)) (H3.keepN (zc5 hc) (λq hq=>zch (λe=>e.2 hq))) (yba O3 (λq hq=>⟨hq,λe=>by have := hnlt q e; omega⟩)) (λq q1 q2=>?_) (by omega) (zei hm3) hw'⟩;exact (zch (λe=>by have := e.1; omega)).trans ((fr3 q q1 q2).trans (hM1 q (λe=>q1 (.inl e))))
 have i1:i<ws.length:=by omega
 have hidi:=hwid _ (List.getElem_mem i1)
 have hol:((ws.take i).flatMap (zlr me bt)).length≤12*1001:=by
  have h1:=zl7 (zlr me bt) 1001 (ws.take i) (λx _=>by have := ylt me bt x; have := hns x; omega);have h2:(ws.take i).length≤12:=by rw [List.length_take]; omega
  have h3:=Nat.mul_le_mul_right 1001 h2;omega
 try simp only [sS]
 refine zyq (hwv.mono hF3) i1 (λpp=>?_);refine zaa (v:=.agg (zij 7 ws[i]).toArray) (by kernel_rfl) ?_;refine zap (cs:=zij 0 0) (λb5 hb5=>?_);refine stM (cs':=zij 7 ws[i]) ?_ (za0 _ _ _) rfl;rw [zan];refine (show (_:Hp -> Prop) ⟨F3,upd M3 b5 (some (.cells 49 (zij 7 ws[i]) 8)),b5+1⟩ from ?_);have hb4:=za0 M3 b5 (some (.cells 49 (zij 7 ws[i]) 8));have hM4:∀ q,q<N3 -> upd M3 b5 (some (.cells 49 (zij 7 ws[i]) 8)) q=M3 q:=λq hq=>za3 _ _ (by omega);have hm4:=hm3.new hb5 (some (.cells 49 (zij 7 ws[i]) 8));generalize upd M3 b5 _=M4 at *;have H4:=H3.up hm3 (za7.refl _) hM4;have O4:zjq M4 N ov3 ((ws.take i).flatMap (zlr me bt)):=let ⟨rs,h1,h2⟩:=O3; ⟨rs,h1.keep (λq hq=>hM4 q (h1.lt hm3 q hq)) (Nat.le_refl _),h2.mono λ_ _ hu=>hu.keep (λq c t h'=>hM4 q (hm3.lt h'))⟩
 refine zb6 (vs:=zij 7 ws[i]) ?_ hb4;obtain ⟨g1,g2⟩:=yaa (kind:=7) (id:=ws[i]) (by simp);refine zp5 (C:=N) H4 (by omega) O4 (by omega) (yf6 7 ws[i]) (zpn 7 ws[i]) (zsh hidi) (by omega) (λhno=>absurd ⟨g1,by omega⟩ hno) (λ_ _ ov5 M5 N5 H5 O5 f5 hN5 hm5 hw5=>?_);have nb4:∀ {q},q<N -> ¬ nft nb lg pd p g mb v hv q -> q≠nb∧ov3.ownBlock≠some q:=λ{q} hq q1=>⟨λe=>q1 (.inl e),λe=>by obtain ⟨rs,h1,_⟩:=O4; have := (h1.ge q e).1; omega⟩;have nb5:b5≠nb∧ov3.ownBlock≠some b5:=⟨by omega,λe=>by obtain ⟨rs,h1,_⟩:=O3; have := h1.lt hm3 b5 e; omega⟩;try simp only [sS]
 refine ldM (v:=.pointer (some ⟨p,0,none⟩)) ?_ H5.nn;refine yl8 H5.pt (by have := hns ws[i]; omega) (λnv F6 N6 hw6 hF6 hN6 hnv=>?_);have hnl:=hns ws[i];refine zb7 hnv ?_
 refine zi1 (σ:=Nat) (λi=>.int .i64 (i:Nat))
  (λi2 h'=>∃ M' N' ov',h'=⟨F6,M',N'⟩∧i2≤(zal bt ws[i]).ns.length∧N6≤N'∧za5 M' N'∧zao F6 M' B nb lg pd v bs lasts room p g mb hv dv rows l h bt tk me ov'∧zjq M' N ov' (((ws.take i).flatMap (zlr me bt)++[(me,-1,zbe (zcb 7 ws[i]))])++(((zal bt ws[i]).ns.take i2).filter λx=>decide (x≠me)).map λx=>(me,x,zbe (zcb 7 ws[i])))∧(∀ q,¬ nft nb lg pd p g mb v hv q -> q<N -> M' q=M1 q)∧M' b5=some (.cells 49 (zij 7 ws[i]) 8)) (λi2=>(zal bt ws[i]).ns.length - i2) 0 rfl
  (λhw7=>⟨_,za1 hw7,M5,N6,ov5,rfl,Nat.zero_le _,Nat.le_refl _,hm5.up hN6,H5.keepN hF6 (λ_ _=>rfl),by simpa using O5,λq q1 q2=>((f5 q (nb4 q2 q1).1 (nb4 q2 q1).2 (by omega)).1).trans ((hM4 q (by omega)).trans (fr3 q q1 q2)),((f5 b5 nb5.1 nb5.2 (by omega)).1).trans hb4⟩) (λk2 i2 j2 h2 hI2 hw7 next2=>?_)
 rw [zhy];obtain ⟨M7,N7,ov7,rfl,hi2,hN7,hm7,H7,O7,fr7,hb7⟩:=hI2;refine zat (λhlt2=>?_) (λhge2=>?_)
 ·have i3:i2<(zal bt ws[i]).ns.length:=by omega
  have ef:=zzs (p:=λx=>decide (x≠me)) i3;try simp only [sS]
  refine zfm hnv i3 (λpp2=>?_);try simp only [sS]
  refine ldM (v:=.int .i64 me) ?_ H7.nn
  have hol7:(((ws.take i).flatMap (zlr me bt)++[(me,-1,zbe (zcb 7 ws[i]))])++(((zal bt ws[i]).ns.take i2).filter λx=>decide (x≠me)).map λx=>(me,x,zbe (zcb 7 ws[i]))).length≤1000000:=by
   have h1:=List.length_filter_le (λx=>decide (x≠me)) ((zal bt ws[i]).ns.take i2);rw [List.length_take] at h1;simp only [List.length_append,List.length_cons,List.length_nil,List.length_map];omega
  refine zio (λhne=>?_) (λhne=>?_)
  ·try simp only [sS]
   refine zb6 (vs:=zij 7 ws[i]) ?_ hb7;refine zp5 (C:=N) H7 (by omega) O7 hol7 (yf6 7 ws[i]) (zpn 7 ws[i]) (zsh hidi) (by omega) (λhno=>absurd ⟨g1,by omega⟩ hno) (λ_ _ ov8 M8 N8 H8 O8 f8 hN8 hm8 hw8=>?_);rw [zdi];refine zas (by omega) ?_;have nb8:∀ {q},q<N -> ¬ nft nb lg pd p g mb v hv q -> q≠nb∧ov7.ownBlock≠some q:=λ{q} hq q1=>⟨λe=>q1 (.inl e),λe=>by obtain ⟨rs,h1,_⟩:=O7; have := (h1.ge q e).1; omega⟩
   have nb9:b5≠nb∧ov7.ownBlock≠some b5:=⟨by omega,λe=>by
    obtain ⟨rs,h1,_⟩:=O7;obtain ⟨c,t,h'⟩:=zc7 h1 _ e;exact zef h' hb7 (by decide) rfl⟩
   refine next2 (i2+1) _ _ (by omega) (λhw9=>⟨_,za1 hw9,M8,N8,ov8,rfl,i3,by omega,hm8,H8,?_,λq q1 q2=>((f8 q (nb8 q2 q1).1 (nb8 q2 q1).2 (by omega)).1).trans (fr7 q q1 q2),((f8 b5 nb9.1 nb9.2 (by omega)).1).trans hb7⟩);rw [ef,if_pos (decide_eq_true hne),List.map_append,← List.append_assoc];exact O8
  ·try simp only [sS]
   rw [zdi];refine zas (by omega) ?_;refine next2 (i2+1) _ _ (by omega) (λhw9=>⟨_,za1 hw9,M7,N7,ov7,rfl,i3,by omega,hm7,H7,?_,fr7,hb7⟩);rw [ef,if_neg (by simpa using hne),List.append_nil];exact O7
 ·try simp only [sS]
  rw [List.take_of_length_le (show (zal bt ws[i]).ns.length≤i2 by omega)] at O7;refine zas (by omega) ?_;refine next (i+1) _ _ (by omega) (λhw8=>⟨_,za1 hw8,F6,M7,N7,ov7,rfl,i1,hF3.trans hF6,by omega,hm7,H7,?_,fr7⟩);rw [List.take_add_one,List.getElem?_eq_getElem i1,Option.toList_some,List.flatMap_append,List.flatMap_cons,List.flatMap_nil,List.append_nil]
  simpa [zlr] using O7
end
theorem ydh (l:List Int):(l.flatMap λx=>zam (zb0 x) 1).length=l.length:=by
 induction l with
 | nil=>rfl
 | cons x l ih=>rw [List.flatMap_cons,List.length_append,ih,za9,List.length_cons]; omega
theorem yco {B n:Nat} {v nv:Value} {cs:List Value} {l:List Int} (h:own M B 5 1 v n cs) (hB:B≤N) (hf:sF F 1 nv l.length (ic l)) (hl:l.length≤1000000) (hn:n≤100000000000) (k:ydz F M N B n v cs (zco l) K) :
  cF 114 #[v,nv] K E ⟨F,M,N⟩:=by
 refine za4 za8 Tryz.func114 (by kernel_rfl) (t114 _ E _ _) (λhw=>?_);have hm:za5 M N:=hw.m;refine zb7 hf (zew ?_);refine zil (size:=1) h hB (by omega) (by omega) (λv1 M1 N1 ho1 hfr1 hN1 hm1 hw1=>?_);rw [za9] at ho1
 refine zt0 (σ:=Nat×Value) (λs=>s.2) (λs=>.int .i64 (s.1:Nat))
  (λs h'=>∃ M' N',h'=⟨F,M',N'⟩∧N≤N'∧za5 M' N'∧s.1≤l.length∧own M' B 5 1 s.2 (n+(zam (zb0 (l.length:Nat)) 1++(l.take s.1).flatMap λx=>zam (zb0 x) 1).length) (cs++bts (zam (zb0 (l.length:Nat)) 1++(l.take s.1).flatMap λx=>zam (zb0 x) 1))∧fr M M' N v s.2) (λs=>l.length - s.1) (0,v1) rfl rfl
  (λhw2=>⟨_,za1 hw2,M1,N1,rfl,hN1,hm1,Nat.zero_le _,by simpa [za9] using ho1,hfr1⟩) (λkk s j h1 hI hw2 next=>?_)
 rw [zsf];obtain ⟨M2,N2,rfl,hN2,hm2,hi,ho,hfr⟩:=hI;refine zb7 hf ?_;refine zat (λhlt=>?_) (λhge=>?_)
 ·have i1:s.1<l.length:=by omega
  have et:=zel (λx=>zam (zb0 x) 1) l i1
  have hlen:(zam (zb0 (l.length:Nat)) 1++(l.take s.1).flatMap λx=>zam (zb0 x) 1).length≤1+l.length:=by
   rw [List.length_append,za9,ydh,List.length_take]; omega
  try simp only [sS]
  refine zfm hf i1 λp=>zew ?_;refine zil (size:=1) ho (by omega) (by omega) (by omega) (λv3 M3 N3 ho3 hfr3 hN3 hm3 hw3=>?_);rw [za9] at ho3;refine zas (by omega) ?_;refine next (s.1+1,v3) _ _ (by simp only; omega) (λhw6=>⟨_,za1 hw6,M3,N3,rfl,by omega,hm3,i1,?_,hfr.trans hfr3 hN2⟩);simp only;rw [et,← List.append_assoc];exact zk1 ho3 (by rw [za9])
 ·try simp only [sS]
  rw [List.take_of_length_le (show l.length≤s.1 by omega)] at ho;exact λhc=>⟨_,za1 hc,λhw'=>k s.2 M2 N2 ho hfr hN2 hm2 hw'⟩
def rkR (k:Int):Int:=if k=1 then 1 else if k=4 then 2 else if k=8∨k=9∨k=10 then 7 else 4
def yl3 (m:zaj):zaj:=⟨rkR m.kind,m.id,m.tm,m.ns,m.fs,m.lo,m.hi,m.es⟩
theorem yic {cs:List Value} {m:zaj} (hr:zfz F cs m) (k:∀ cs' N',zdr F cs' (yl3 m) -> N≤N' -> (Hp.mk F M N').wf -> K (.agg cs'.toArray) ⟨F,M,N'⟩) :
  cF 63 #[.agg cs.toArray] K E ⟨F,M,N⟩:=by
 refine za4 za8 Tryz.func63 (by kernel_rfl) (t63 _ E _) (λhw=>?_);have hm:za5 M N:=hw.m;obtain ⟨na,nc,fv,ev,rfl,hn,hf,he⟩:=hr;obtain ⟨fa,fc,rfl⟩:=hf.form;have he0:=he;obtain ⟨ea,ec,rfl⟩:=he.form;refine zap (cs:=[.int .u8 m.kind,.int .u32 m.id,.int .u32 m.tm,.slice na m.ns.length nc,.slice fa m.fs.length fc,.int .i64 m.lo,.int .i64 m.hi,.slice ea m.es.length ec]) (λb1 hb1=>?_);refine zap (cs:=zac) (λb2 hb2=>?_);have hb1':=(za3 (upd M b1 (some (.cells 49 [.int .u8 m.kind,.int .u32 m.id,.int .u32 m.tm,.slice na m.ns.length nc,.slice fa m.fs.length fc,.int .i64 m.lo,.int .i64 m.hi,.slice ea m.es.length ec] 8))) (b:=b2) (v:=some (.cells 77 zac 10)) (by omega:b1≠b2)).trans (za0 _ _ _);have hb2':=za0 (upd M b1 (some (.cells 49 [.int .u8 m.kind,.int .u32 m.id,.int .u32 m.tm,.slice na m.ns.length nc,.slice fa m.fs.length fc,.int .i64 m.lo,.int .i64 m.hi,.slice ea m.es.length ec] 8))) b2 (some (.cells 77 zac 10));have hs2:zex M (upd (upd M b1 (some (.cells 49 [.int .u8 m.kind,.int .u32 m.id,.int .u32 m.tm,.slice na m.ns.length nc,.slice fa m.fs.length fc,.int .i64 m.lo,.int .i64 m.hi,.slice ea m.es.length ec] 8))) b2 (some (.cells 77 zac 10))):=zb5 (zb5 (zbb _) (hm _ hb1)) (hm _ (by omega));have hm2:=(hm.new hb1 (some (.cells 49 [.int .u8 m.kind,.int .u32 m.id,.int .u32 m.tm,.slice na m.ns.length nc,.slice fa m.fs.length fc,.int .i64 m.lo,.int .i64 m.hi,.slice ea m.es.length ec] 8))).new hb2 (some (.cells 77 zac 10));have hel:zac.length=10:=rfl;simp only [hel,List.length_cons,List.length_nil,Nat.zero_add];generalize upd (upd M b1 _) b2 _=M2 at *;try simp only [sS]
 refine ldM (v:=.int .u32 m.id) ?_ hb1';try simp only [sS]
 refine ldM (v:=.int .u32 m.tm) ?_ hb1';try simp only [sS]
 refine ldM (v:=.slice na m.ns.length nc) ?_ hb1';try simp only [sS]
 refine ldM (v:=.slice fa m.fs.length fc) ?_ hb1';try simp only [sS]
 refine ldM (v:=.int .i64 m.lo) ?_ hb1';try simp only [sS]
 refine ldM (v:=.int .i64 m.hi) ?_ hb1';try simp only [sS]
 refine ldM (v:=.slice ea m.es.length ec) ?_ hb1';refine zaa (v:=.agg ([.int .u8 (4),.int .u32 m.id,.int .u32 m.tm,.slice na m.ns.length nc,.slice fa m.fs.length fc,.int .u32 0,.slice none 0 0,.int .i64 m.lo,.int .i64 m.hi,.slice ea m.es.length ec]:List Value).toArray) (by kernel_rfl) ?_;refine zap (cs:=zac) (λb3 hb3=>?_);refine stM (cs':=[.int .u8 (4),.int .u32 m.id,.int .u32 m.tm,.slice na m.ns.length nc,.slice fa m.fs.length fc,.int .u32 0,.slice none 0 0,.int .i64 m.lo,.int .i64 m.hi,.slice ea m.es.length ec]) ?_ (za0 _ _ _) rfl rfl (List.all_eq_true.1 rfl);rw [zan];have hb3':=za0 M2 b3 (some (.cells 77 [.int .u8 (4),.int .u32 m.id,.int .u32 m.tm,.slice na m.ns.length nc,.slice fa m.fs.length fc,.int .u32 0,.slice none 0 0,.int .i64 m.lo,.int .i64 m.hi,.slice ea m.es.length ec] 10));have hb1'':=(za3 M2 (some (.cells 77 [.int .u8 (4),.int .u32 m.id,.int .u32 m.tm,.slice na m.ns.length nc,.slice fa m.fs.length fc,.int .u32 0,.slice none 0 0,.int .i64 m.lo,.int .i64 m.hi,.slice ea m.es.length ec] 10)) (show b1≠b3 by omega)).trans hb1';have hb2'':=(za3 M2 (some (.cells 77 [.int .u8 (4),.int .u32 m.id,.int .u32 m.tm,.slice na m.ns.length nc,.slice fa m.fs.length fc,.int .u32 0,.slice none 0 0,.int .i64 m.lo,.int .i64 m.hi,.slice ea m.es.length ec] 10)) (show b2≠b3 by omega)).trans hb2';have hs3:zex M (upd M2 b3 (some (.cells 77 [.int .u8 (4),.int .u32 m.id,.int .u32 m.tm,.slice na m.ns.length nc,.slice fa m.fs.length fc,.int .u32 0,.slice none 0 0,.int .i64 m.lo,.int .i64 m.hi,.slice ea m.es.length ec] 10))):=zb5 hs2 (hm _ (by omega));have hel:zac.length=10:=rfl;try simp only [hel]
 generalize upd M2 b3 _=M3 at *
 have tail:∀ x M4,rkR m.kind=x -> M4 b3=some (.cells 77 [.int .u8 (x),.int .u32 m.id,.int .u32 m.tm,.slice na m.ns.length nc,.slice fa m.fs.length fc,.int .u32 0,.slice none 0 0,.int .i64 m.lo,.int .i64 m.hi,.slice ea m.es.length ec] 10) -> M4 b2=some (.cells 77 zac 10) -> zex M M4 ->
   (ld true 10 (.pointer (some ⟨b3,0,none⟩)) λt1=>st 10 (.pointer (some ⟨b2,0,none⟩)) t1 λ_=>ld true 10 (.pointer (some ⟨b2,0,none⟩)) λt2 h=>h.wf -> ∃ h',h.wk h'∧(h'.wf -> K t2 h')) ⟨F,M4,b3+1⟩:=by
  intro x M4 hx h3 h2 hs;subst hx;refine zb6 (vs:=[.int .u8 (rkR m.kind),.int .u32 m.id,.int .u32 m.tm,.slice na m.ns.length nc,.slice fa m.fs.length fc,.int .u32 0,.slice none 0 0,.int .i64 m.lo,.int .i64 m.hi,.slice ea m.es.length ec]) ?_ h3;refine stM (cs':=[.int .u8 (rkR m.kind),.int .u32 m.id,.int .u32 m.tm,.slice na m.ns.length nc,.slice fa m.fs.length fc,.int .u32 0,.slice none 0 0,.int .i64 m.lo,.int .i64 m.hi,.slice ea m.es.length ec]) ?_ h2 rfl rfl (List.all_eq_true.1 rfl);refine zb6 (vs:=[.int .u8 (rkR m.kind),.int .u32 m.id,.int .u32 m.tm,.slice na m.ns.length nc,.slice fa m.fs.length fc,.int .u32 0,.slice none 0 0,.int .i64 m.lo,.int .i64 m.hi,.slice ea m.es.length ec]) ?_ (za0 _ _ _);refine λhc=>⟨⟨F,M,b3+1⟩,zbl hc (zb5 hs (hm _ (by omega))),λhw'=>k _ _ ⟨na,nc,_,none,0,_,rfl,hn,hf,he0⟩ (by omega) hw'⟩
 have set:∀ x,rkR m.kind=x -> M3 b3=some (.cells 77 [.int .u8 (4),.int .u32 m.id,.int .u32 m.tm,.slice na m.ns.length nc,.slice fa m.fs.length fc,.int .u32 0,.slice none 0 0,.int .i64 m.lo,.int .i64 m.hi,.slice ea m.es.length ec] 10) ->
   (st 1 (.pointer (some ⟨b3,0,none⟩)) (.int .u8 x) λ_=>ld true 10 (.pointer (some ⟨b3,0,none⟩)) λt1=>st 10 (.pointer (some ⟨b2,0,none⟩)) t1 λ_=>ld true 10 (.pointer (some ⟨b2,0,none⟩)) λt2 h=>h.wf -> ∃ h',h.wk h'∧(h'.wf -> K t2 h')) ⟨F,M3,b3+1⟩:=by
  intro x hx h3;refine stM (cs':=[.int .u8 (x),.int .u32 m.id,.int .u32 m.tm,.slice na m.ns.length nc,.slice fa m.fs.length fc,.int .u32 0,.slice none 0 0,.int .i64 m.lo,.int .i64 m.hi,.slice ea m.es.length ec]) ?_ h3 rfl;exact tail x _ hx (za0 _ _ _) ((za3 _ _ (by omega)).trans hb2'') (zb5 hs3 (hm _ (by omega)))
 try simp only [sS]
 refine ldM (v:=.int .u8 m.kind) ?_ hb1'';refine zau (λh1=>zax ?_) (λh1=>zaq ?_)
 ·have := set 1 (by unfold rkR; rw [if_pos h1]) hb3';simp only [zj2];exact this
 refine zau (λh4=>zax ?_) (λh4=>zaq ?_)
 ·have := set 2 (by unfold rkR; rw [if_neg h1,if_pos h4]) hb3';simp only [zj2];exact this
 have t7:(m.kind=8∨m.kind=9∨m.kind=10) -> rkR m.kind=7:=λh=>by unfold rkR; rw [if_neg h1,if_neg h4,if_pos h]
 refine zau (λh8=>zax ?_) (λh8=>zaq ?_)
 ·have := set 7 (t7 (.inl h8)) hb3';rw [zdv];simp only [zj2];exact zax (zaa rfl this)
 refine zau (λh9=>zax ?_) (λh9=>zaq ?_)
 ·have := set 7 (t7 (.inr (.inl h9))) hb3';rw [zdv];simp only [zj2];exact zax (zaa rfl this)
 refine zau (λh10=>?_) (λh10=>?_)
 ·have := set 7 (t7 (.inr (.inr h10))) hb3';rw [zdv];simp only [zj2];exact zax (zaa rfl this)
 ·have := tail 4 M3 (by unfold rkR; rw [if_neg h1,if_neg h4,if_neg (by omega)]) hb3' hb2'' hs3;rw [zdv];simp only [zj2];exact zaq this
def zln (l:List Int) (i:Nat):Int:=if i=0 then -1 else l.getD (i - 1) 0
theorem ygn {l:List Int} {i:Nat} (h:i<l.length):zln l (i+1)=l[i]:=by simp [zln,List.getD,h]
theorem yls {l:List Int} {i:Nat} (h0:0<i) (h:i - 1<l.length):zln l i=l[i - 1]:=by
 unfold zln; rw [if_neg (by omega)]; simp [List.getD,h]
theorem ygr {l:List Int} {i:Nat} (h:i<l.length) (p:Int):zek p (l.drop i)=(decide (p<l[i]∧l[i]<6)&&zek l[i] (l.drop (i+1))):=by
 rw [List.drop_eq_getElem_cons h]; rfl
theorem ycy {nv:Value} {l:List Int} (hf:sF F 1 nv l.length (ic l)) (hl:l.length≤1000000000) (k:(Hp.mk F M N).wf -> K (.bool (zek (-1) l)) ⟨F,M,N⟩) :
  cF 157 #[nv] K E ⟨F,M,N⟩:=by
 refine za4 za8 Tryz.func157 (by kernel_rfl) (ys7 _ E _) (λhw=>?_)
 refine zvx (σ:=Nat) (λi=>.int .i64 (i:Nat)) (λi h=>h=⟨F,M,N⟩∧i≤l.length∧zek (-1) l=zek (zln l i) (l.drop i) ∧ -1≤zln l i) (λi=>l.length - i) 0 rfl
  (λhw1=>⟨_,za1 hw1,rfl,Nat.zero_le _,rfl,Int.le_refl _⟩) (λk1 i j h1 hI hw1 next=>?_)
 rw [zw3];obtain ⟨rfl,hi,hs,hp⟩:=hI;refine zb7 hf ?_;refine zat (λhlt=>?_) (λhge=>?_)
 rotate_left
 ·try simp only [sS]
  rw [List.drop_eq_nil_of_le (by omega)] at hs;refine λhc=>⟨_,za1 hc,λhw'=>?_⟩;have := k hw'
  rwa [hs] at this
 have i1:i<l.length:=by omega
 rw [ygr i1] at hs
 have bad:¬ (zln l i<l[i]∧l[i]<6) -> (Hp.mk F M N).wf -> ∃ h',(Hp.mk F M N).wk h'∧(h'.wf -> K (.bool false) h'):=λhb hc=>⟨_,za1 hc,λhw'=>by
  have := k hw'
  rwa [hs,decide_eq_false hb] at this⟩
 have good:(zln l i<l[i]∧l[i]<6) -> zek (-1) l=zek (zln l (i+1)) (l.drop (i+1)) ∧ -1≤zln l (i+1):=λhb=>by
  rw [hs,decide_eq_true hb,ygn i1]; exact ⟨rfl,by omega⟩
 try simp only [sS]
 refine zfm hf i1 λp=>?_;refine zat (λh0=>?_) (λh0=>?_)
 ·try simp only [sS]
  exact bad (by omega)
 try simp only [sS]
 refine zfm hf i1 λp=>?_;refine zbw (λh5=>?_) (λh5=>?_)
 ·try simp only [sS]
  exact bad (by omega)
 try simp only [sS]
 refine zbw (λhz=>?_) (λhz=>?_)
 ·have i2:i - 1<l.length:=by omega
  have hpv:=yls (l:=l) (i:=i) (by omega) i2;try simp only [sS]
  refine zfm hf i1 λp=>?_;refine zcr (by omega) (by omega) ?_;rw [show (i:Int) - 1=((i - 1:Nat):Int) by omega];refine zfm hf i2 λp=>?_;refine zds (λhle=>?_) (λhle=>?_)
  ·try simp only [sS]
   exact bad (by omega)
  ·try simp only [sS]
   refine zas (by omega) ?_;have g:=good (by omega);exact next (i+1) _ _ (by omega) (λhw2=>⟨_,za1 hw2,rfl,i1,g.1,g.2⟩)
 ·try simp only [sS]
  refine zas (by omega) ?_;have e0:i=0:=by omega
  have g:=good (by subst e0; unfold zln; rw [if_pos rfl]; omega);exact next (i+1) _ _ (by omega) (λhw2=>⟨_,za1 hw2,rfl,i1,g.1,g.2⟩)
theorem zku {α:Type} {f:α -> Bool} {l:List α} {i:Nat} (h:i<l.length) (hf:f l[i]=false):l.all f=false:=by
 rw [List.all_eq_false]; exact ⟨l[i],List.getElem_mem h,by simp [hf]⟩
theorem yb2 {α:Type} {f:α -> Bool} {l:List α} {i:Nat} (h:i<l.length) (h0:(l.take i).all f=true) (h1:f l[i]=true):(l.take (i+1)).all f=true:=by
 rw [List.take_add_one,List.getElem?_eq_getElem h,Option.toList_some,List.all_append,h0]; simp [h1]
theorem yb1 {fv:Value} {l:List Fc} (hf:zbo F fv l) (hl:l.length≤1000000000) (k:(Hp.mk F M N).wf -> K (.bool (zen l)) ⟨F,M,N⟩) :
  cF 158 #[fv] K E ⟨F,M,N⟩:=by
 refine za4 za8 Tryz.func158 (by kernel_rfl) (ywj _ E _) (λhw=>?_);obtain ⟨rows,hf1,hf2⟩:=hf
 have bad:l.all zh6=false -> (Hp.mk F M N).wf -> ∃ h',(Hp.mk F M N).wk h'∧(h'.wf -> K (.bool false) h'):=λhb hc=>⟨_,za1 hc,λhw'=>by
  have := k hw'
  rwa [zen,hb,Bool.and_false] at this⟩
 refine zvu (σ:=Nat) (λi=>.int .i64 (i:Nat)) (λi h=>h=⟨F,M,N⟩∧i≤l.length∧(l.take i).all zh6=true) (λi=>l.length - i) 0 rfl
  (λhw1=>⟨_,za1 hw1,rfl,Nat.zero_le _,rfl⟩) (λk1 i j h1 hI hw1 next=>?_)
 rw [zxa];obtain ⟨rfl,hi,ha⟩:=hI;refine zb7 hf1 ?_;refine zat (λhlt=>?_) (λhge=>?_)
 rotate_left
 ·try simp only [sS]
  rw [List.take_of_length_le (by omega)] at ha;refine zb7 hf1 ?_;refine zds (λh2=>?_) (λh2=>?_)
  ·refine λhc=>⟨_,za1 hc,λhw'=>?_⟩;have := k hw'
   rwa [zen,ha,Bool.and_true,decide_eq_true (by omega)] at this
  ·refine λhc=>⟨_,za1 hc,λhw'=>?_⟩;have := k hw'
   rwa [zen,ha,Bool.and_true,decide_eq_false (by omega)] at this
 have i1:i<l.length:=by omega
 try simp only [sS]
 refine zk0 (σ:=Nat) (λt=>.int .i64 (t:Nat)) (λt h=>h=⟨F,M,N⟩∧t≤l[i].1.length∧(l[i].1.take t).all (λx=>decide (0≤x∧x≤9999))=true) (λt=>l[i].1.length - t) 0 rfl
  (λhw2=>⟨_,za1 hw2,rfl,Nat.zero_le _,rfl⟩) (λk2 t j2 h2 hI2 hw2 next2=>?_)
 rw [zk8];obtain ⟨rfl,ht,hb⟩:=hI2;have badk:∀ (hx:t<l[i].1.length),¬ (0≤l[i].1[t]∧l[i].1[t]≤9999) -> l.all zh6=false:=λhx hn=>zku i1 (by unfold zh6; rw [zku hx (decide_eq_false hn),Bool.and_false]);try simp only [sS]
 refine zeb hf1 hf2 (by decide) i1 (off:=0) (by decide) λp q r x hR _ hx=>?_;obtain ⟨kv,rfl,hkv,hkl⟩:=hR;have hx':x=kv:=by simpa using hx.symm
 subst hx';refine zb7 hkv ?_;refine zat (λhlt2=>?_) (λhge2=>?_)
 ·have t1:t<l[i].1.length:=by omega
  try simp only [sS]
  refine zeb hf1 hf2 (by decide) i1 (off:=0) (by decide) λp q r y hR _ hy=>?_;obtain ⟨kv,rfl,hkv,hkl⟩:=hR;have hy':y=kv:=by simpa using hy.symm
  subst hy';refine zfm hkv t1 λp=>?_;refine zat (λh0=>?_) (λh0=>?_)
  ·try simp only [sS]
   exact bad (badk t1 (by omega))
  try simp only [sS]
  refine zeb hf1 hf2 (by decide) i1 (off:=0) (by decide) λp q r z hR _ hz=>?_;obtain ⟨kv,rfl,hkv,hkl⟩:=hR;have hz':z=kv:=by simpa using hz.symm
  subst hz';refine zfm hkv t1 λp=>?_;refine zbw (λh9=>?_) (λh9=>?_)
  ·try simp only [sS]
   exact bad (badk t1 (by omega))
  ·try simp only [sS]
   refine zas (by omega) ?_;exact next2 (t+1) _ _ (by omega) (λhw3=>⟨_,za1 hw3,rfl,t1,yb2 t1 hb (decide_eq_true (by omega))⟩)
 ·try simp only [sS]
  rw [List.take_of_length_le (show l[i].1.length≤t by omega)] at hb;refine zeb hf1 hf2 (by decide) i1 (off:=0) (by decide) λp q r y hR _ hy=>?_;obtain ⟨kv,rfl,hkv,hkl⟩:=hR;have hy':y=kv:=by simpa using hy.symm
  subst hy';refine zb7 hkv ?_;refine zbw (λh4=>?_) (λh4=>?_)
  ·try simp only [sS]
   exact bad (zku i1 (by unfold zh6; rw [decide_eq_false (by omega),Bool.false_and]))
  ·try simp only [sS]
   refine zas (by omega) ?_;exact next (i+1) _ _ (by omega) (λhw3=>⟨_,za1 hw3,rfl,i1,yb2 i1 ha (by unfold zh6; rw [decide_eq_true (by omega),hb]; rfl)⟩)
def zot (l:List En) (i:Nat):Int:=if i=0 then -1 else (l.getD (i - 1) (0,[])).1
theorem yfw {l:List En} {i:Nat} (h:i<l.length):zot l (i+1)=l[i].1:=by simp [zot,List.getD,h]
theorem yim {l:List En} {i:Nat} (h0:0<i) (h:i - 1<l.length):zot l i=l[i - 1].1:=by
 unfold zot; rw [if_neg (by omega)]; simp [List.getD,h]
theorem yh2 {l:List En} {i:Nat} (h:i<l.length) (p:Int):zfp p (l.drop i)=(zen l[i].2&&decide (p<l[i].1)&&zfp l[i].1 (l.drop (i+1))):=by
 rw [List.drop_eq_getElem_cons h]; rfl
theorem yjp {ev:Value} {l:List En} (hf:zc6 F ev l) (hl:l.length≤1000000000) (h0:∀ e∈l,0≤e.1) (hfl:∀ e∈l,e.2.length≤1000000000) (k:(Hp.mk F M N).wf -> K (.bool (zg7 l)) ⟨F,M,N⟩) :
  cF 160 #[ev] K E ⟨F,M,N⟩:=by
 refine za4 za8 Tryz.func160 (by kernel_rfl) (yxd _ E _) (λhw=>?_);obtain ⟨rows,hf1,hf2⟩:=hf
 have bad:zfp (-1) l=false -> (Hp.mk F M N).wf -> ∃ h',(Hp.mk F M N).wk h'∧(h'.wf -> K (.bool false) h'):=λhb hc=>⟨_,za1 hc,λhw'=>by
  have := k hw'
  rwa [zg7,hb,Bool.and_false] at this⟩
 refine zwv (σ:=Nat) (λi=>.int .i64 (i:Nat)) (λi h=>h=⟨F,M,N⟩∧i≤l.length∧zfp (-1) l=zfp (zot l i) (l.drop i)) (λi=>l.length - i) 0 rfl
  (λhw1=>⟨_,za1 hw1,rfl,Nat.zero_le _,rfl⟩) (λk1 i j h1 hI hw1 next=>?_)
 rw [zx1];obtain ⟨rfl,hi,hs⟩:=hI;refine zb7 hf1 ?_;refine zat (λhlt=>?_) (λhge=>?_)
 rotate_left
 ·try simp only [sS]
  rw [List.drop_eq_nil_of_le (by omega)] at hs;refine zb7 hf1 ?_;refine zds (λh2=>?_) (λh2=>?_)
  ·refine λhc=>⟨_,za1 hc,λhw'=>?_⟩;have := k hw'
   rwa [zg7,hs,zfp,Bool.and_true,decide_eq_true (by omega)] at this
  ·refine λhc=>⟨_,za1 hc,λhw'=>?_⟩;have := k hw'
   rwa [zg7,hs,zfp,Bool.and_true,decide_eq_false (by omega)] at this
 have i1:i<l.length:=by omega
 have hp0:=h0 _ (List.getElem_mem i1);rw [yh2 i1] at hs;try simp only [sS]
 refine zeb hf1 hf2 (by decide) i1 (off:=1) (by decide) λp q r x hR _ hx=>?_;obtain ⟨fv,rfl,hfv,hfvl⟩:=hR;have hx':x=fv:=by simpa using hx.symm
 subst hx';refine yb1 hfv (hfl _ (List.getElem_mem i1)) (λhw2=>?_);cases hsf:zen l[i].2
 ·try simp only [sS]
  exact bad (by rw [hs,hsf]; rfl)
 rw [hsf,Bool.true_and] at hs;have badT:¬ zot l i<l[i].1 -> zfp (-1) l=false:=λh=>by rw [hs,decide_eq_false h]; rfl
 have good:zot l i<l[i].1 -> zfp (-1) l=zfp (zot l (i+1)) (l.drop (i+1)):=λh=>by rw [hs,decide_eq_true h,yfw i1]; rfl
 try simp only [sS]
 refine zbw (λhz=>?_) (λhz=>?_)
 ·have i2:i - 1<l.length:=by omega
  have hpv:=yim (l:=l) (i:=i) (by omega) i2;try simp only [sS]
  refine zeb hf1 hf2 (by decide) i1 (off:=0) (by decide) λp q r y hR _ hy=>?_;obtain ⟨fv,rfl,_,_⟩:=hR;have hy':y=.int .u32 l[i].1:=by simpa using hy.symm
  subst hy';refine zcr (by omega) (by omega) ?_;rw [show (i:Int) - 1=((i - 1:Nat):Int) by omega];refine zeb hf1 hf2 (by decide) i2 (off:=0) (by decide) λp q r y hR _ hy=>?_;obtain ⟨fv,rfl,_,_⟩:=hR;have hy':y=.int .u32 l[i - 1].1:=by simpa using hy.symm
  subst hy';refine zds (λhle=>?_) (λhle=>?_)
  ·try simp only [sS]
   exact bad (badT (by omega))
  ·try simp only [sS]
   refine zas (by omega) ?_;exact next (i+1) _ _ (by omega) (λhw2=>⟨_,za1 hw2,rfl,i1,good (by omega)⟩)
 ·try simp only [sS]
  refine zas (by omega) ?_;have e0:i=0:=by omega
  exact next (i+1) _ _ (by omega) (λhw2=>⟨_,za1 hw2,rfl,i1,good (by subst e0; unfold zot; rw [if_pos rfl]; omega)⟩)
theorem zlq {P:Program} {c a b:Code} {Q:QD} {env:Env} {h:Hp} (e:c=.seq a b) (k:den P a (za6 (den P b Q) Q) env h):den P c Q env h:=by subst e; exact k
theorem yq5 {P:Program} {c a:Code} {id:Nat} {Q:QD} {env:Env} {h:Hp} (e:c=.block id a) (k:den P a (blk id Q) env h):den P c Q env h:=by subst e; exact k
theorem yub {X:Env -> Hp -> Prop} {a:Env} {h:Hp} (mk:Env -> Env) (e:a=mk a) (k:∀ b,b=a -> X (mk b) h):X a h:=by rw [e]; exact k a rfl
theorem yti {X:Env -> Hp -> Prop} {a b:Env} {h:Hp} (k:X a h) (e:a=b):X b h:=e ▸ k
theorem zjo {X:Env -> Hp -> Prop} {a:Env} {h:Hp} (mk:(Nat -> Value) -> Env) (e:a=mk (jf a)) (k:∀ j,X (mk j) h):X a h:=e ▸ k _
def zb1 (l:List UInt8) (c:Int) (i:Nat):Bool:=(l.take i).any λb=>decide ((b.toNat:Int)=c)
theorem zj5 {l:List UInt8} {c:Int} {i:Nat} {b:UInt8} (h:l[i]?=some b):zb1 l c (i+1)=(zb1 l c i||decide ((b.toNat:Int)=c)):=by
 unfold zb1;rw [List.take_add_one,h,List.any_append]
 simp
theorem zva {a b:Bool} {f:Value -> Value -> Hp -> Prop} {h:Hp} (k:∀ t,f t (.bool (a&&b)) h):gdK (.bool a) true (λk=>k (.bool b)) (λt1=>pv (zad (.bool a) t1 (.bool false)) (λt2=>f t1 t2)) h:=by
 cases a
 ·exact ym0 ⟨_,rfl,by simpa using k undef⟩
 ·exact yma ⟨_,rfl,by simpa using k (.bool b)⟩
theorem zgo {h:Hp} {e:EqK} {k:IntKind} {a b:Int} (hk:K (.bool (decide (a=b))) h):pv (za2 e .eql (.int k a) (.int k b)) K h:=zau (λe=>by rwa [decide_eq_true e] at hk) (λe=>by rwa [decide_eq_false e] at hk)
theorem znc {l:List UInt8} {i:Nat} {b:UInt8} (h:l[i]?=some b):ixV (.string ⟨l.toArray⟩) (.int .i64 (i:Nat))=some (.int .u8 b.toNat):=by
 show (if (0:Int)≤(i:Int) then ((⟨l.toArray⟩:ByteArray)[(i:Int).toNat]?).map (λb=>Value.int .u8 b.toNat) else none)=_
 rw [if_pos (by omega)];have e:((⟨l.toArray⟩:ByteArray))[(i:Int).toNat]?=some b:=(show ((⟨l.toArray⟩:ByteArray))[(i:Int).toNat]?=l.toArray[(i:Int).toNat]? from rfl).trans (by simpa using h);rw [e]
 rfl
def mE (x:Nat -> Value) (v5 v6 v7 v8 v9 v10 i:Value) (j:Nat -> Value):Env:=zay (x 0) (x 1) (x 2) (x 3) (x 4) (x 12) (x 13) (x 14) (x 15) (x 16) (x 17) (x 18) (x 19) (x 20) (x 21) (x 22) (x 23) (x 24) (x 25) (x 26) (x 27) (x 28) (x 29) (x 30) (x 31) (x 32) (x 33) (x 34) (x 35) (x 36) (x 37) (x 38) (x 39) (x 40) (x 41) (x 42) (x 43) (x 44) (x 45) (x 46) (x 47) (x 48) (x 49) (x 50) (x 99) (x 100) (x 101) (x 102) (x 103) (x 104) (x 105) (x 106) (x 107) (x 108) (x 109) (x 110) (x 111) (x 112) (x 113) (x 114) v5 v6 v7 v8 v9 v10 i j
theorem ynk {Q:QD} {h:Hp} {b b':Bool} {i:Nat} {c:UInt8} {l:List UInt8} {v6 v7 v8 v9 v10:Value} {x j:Nat -> Value} (hx:x 1=.string ⟨l.toArray⟩) (hi:l[i]?=some c) (hb:b'=(b||decide ((c.toNat:Int)=73)))
  (k:∀ j',Q .normal (mE x (.bool b') v6 v7 v8 v9 v10 (.int .i64 (i:Nat)) j') h) :
  den Tryz.prog (sel (zaf Tryz.f156) [1,1,1,1,1,1,1,0,1,0,0,1,0,0,0]) Q (mE x (.bool b) v6 v7 v8 v9 v10 (.int .i64 (i:Nat)) j) h:=by
 subst hb;unfold mE zay;refine zhi (zi7 ..) ?_;cases b
 ·refine zdd (zdd (zdd (zaa ((congrArg (ixV · _) hx).trans (znc hi)) (zdd (zgo ?_)))));exact zaa rfl (zjo (X:=Q .normal) (λj'=>mE x (.bool (false||decide ((c.toNat:Int)=73))) v6 v7 v8 v9 v10 (.int .i64 (i:Nat)) j') (by kernel_rfl) k)
 ·refine zde (zde (zde (zde ?_)));exact zaa rfl (zjo (X:=Q .normal) (λj'=>mE x (.bool (true||decide ((c.toNat:Int)=73))) v6 v7 v8 v9 v10 (.int .i64 (i:Nat)) j') (by kernel_rfl) k)
theorem ymp {Q:QD} {h:Hp} {b b':Bool} {i:Nat} {c:UInt8} {l:List UInt8} {v5 v7 v8 v9 v10:Value} {x j:Nat -> Value} (hx:x 1=.string ⟨l.toArray⟩) (hi:l[i]?=some c) (hb:b'=(b||decide ((c.toNat:Int)=65)))
  (k:∀ j',Q .normal (mE x v5 (.bool b') v7 v8 v9 v10 (.int .i64 (i:Nat)) j') h) :
  den Tryz.prog (sel (zaf Tryz.f156) [1,1,1,1,1,1,1,0,1,0,0,1,0,0,1,0]) Q (mE x v5 (.bool b) v7 v8 v9 v10 (.int .i64 (i:Nat)) j) h:=by
 subst hb;unfold mE zay;refine zhi (zhp ..) ?_;cases b
 ·refine zdd (zdd (zdd (zaa ((congrArg (ixV · _) hx).trans (znc hi)) (zdd (zgo ?_)))));exact zaa rfl (zjo (X:=Q .normal) (λj'=>mE x v5 (.bool (false||decide ((c.toNat:Int)=65))) v7 v8 v9 v10 (.int .i64 (i:Nat)) j') (by kernel_rfl) k)
 ·refine zde (zde (zde (zde ?_)));exact zaa rfl (zjo (X:=Q .normal) (λj'=>mE x v5 (.bool (true||decide ((c.toNat:Int)=65))) v7 v8 v9 v10 (.int .i64 (i:Nat)) j') (by kernel_rfl) k)
theorem ynr {Q:QD} {h:Hp} {b b':Bool} {i:Nat} {c:UInt8} {l:List UInt8} {v5 v6 v8 v9 v10:Value} {x j:Nat -> Value} (hx:x 1=.string ⟨l.toArray⟩) (hi:l[i]?=some c) (hb:b'=(b||decide ((c.toNat:Int)=78)))
  (k:∀ j',Q .normal (mE x v5 v6 (.bool b') v8 v9 v10 (.int .i64 (i:Nat)) j') h) :
  den Tryz.prog (sel (zaf Tryz.f156) [1,1,1,1,1,1,1,0,1,0,0,1,0,0,1,1,0]) Q (mE x v5 v6 (.bool b) v8 v9 v10 (.int .i64 (i:Nat)) j) h:=by
 subst hb;unfold mE zay;refine zhi (zh7 ..) ?_;cases b
 ·refine zdd (zdd (zdd (zaa ((congrArg (ixV · _) hx).trans (znc hi)) (zdd (zgo ?_)))));exact zaa rfl (zjo (X:=Q .normal) (λj'=>mE x v5 v6 (.bool (false||decide ((c.toNat:Int)=78))) v8 v9 v10 (.int .i64 (i:Nat)) j') (by kernel_rfl) k)
 ·refine zde (zde (zde (zde ?_)));exact zaa rfl (zjo (X:=Q .normal) (λj'=>mE x v5 v6 (.bool (true||decide ((c.toNat:Int)=78))) v8 v9 v10 (.int .i64 (i:Nat)) j') (by kernel_rfl) k)
theorem ynf {Q:QD} {h:Hp} {b b':Bool} {i:Nat} {c:UInt8} {l:List UInt8} {v5 v6 v7 v9 v10:Value} {x j:Nat -> Value} (hx:x 1=.string ⟨l.toArray⟩) (hi:l[i]?=some c) (hb:b'=(b||decide ((c.toNat:Int)=70)))
  (k:∀ j',Q .normal (mE x v5 v6 v7 (.bool b') v9 v10 (.int .i64 (i:Nat)) j') h) :
  den Tryz.prog (sel (zaf Tryz.f156) [1,1,1,1,1,1,1,0,1,0,0,1,0,0,1,1,1,0]) Q (mE x v5 v6 v7 (.bool b) v9 v10 (.int .i64 (i:Nat)) j) h:=by
 subst hb;unfold mE zay;refine zhi (zgw ..) ?_;cases b
 ·refine zdd (zdd (zdd (zaa ((congrArg (ixV · _) hx).trans (znc hi)) (zdd (zgo ?_)))));exact zaa rfl (zjo (X:=Q .normal) (λj'=>mE x v5 v6 v7 (.bool (false||decide ((c.toNat:Int)=70))) v9 v10 (.int .i64 (i:Nat)) j') (by kernel_rfl) k)
 ·refine zde (zde (zde (zde ?_)));exact zaa rfl (zjo (X:=Q .normal) (λj'=>mE x v5 v6 v7 (.bool (true||decide ((c.toNat:Int)=70))) v9 v10 (.int .i64 (i:Nat)) j') (by kernel_rfl) k)
theorem ymr {Q:QD} {h:Hp} {b b':Bool} {i:Nat} {c:UInt8} {l:List UInt8} {v5 v6 v7 v8 v10:Value} {x j:Nat -> Value} (hx:x 1=.string ⟨l.toArray⟩) (hi:l[i]?=some c) (hb:b'=(b||decide ((c.toNat:Int)=77)))
  (k:∀ j',Q .normal (mE x v5 v6 v7 v8 (.bool b') v10 (.int .i64 (i:Nat)) j') h) :
  den Tryz.prog (sel (zaf Tryz.f156) [1,1,1,1,1,1,1,0,1,0,0,1,0,0,1,1,1,1,0]) Q (mE x v5 v6 v7 v8 (.bool b) v10 (.int .i64 (i:Nat)) j) h:=by
 subst hb;unfold mE zay;refine zhi (zgj ..) ?_;cases b
 ·refine zdd (zdd (zdd (zaa ((congrArg (ixV · _) hx).trans (znc hi)) (zdd (zgo ?_)))));exact zaa rfl (zjo (X:=Q .normal) (λj'=>mE x v5 v6 v7 v8 (.bool (false||decide ((c.toNat:Int)=77))) v10 (.int .i64 (i:Nat)) j') (by kernel_rfl) k)
 ·refine zde (zde (zde (zde ?_)));exact zaa rfl (zjo (X:=Q .normal) (λj'=>mE x v5 v6 v7 v8 (.bool (true||decide ((c.toNat:Int)=77))) v10 (.int .i64 (i:Nat)) j') (by kernel_rfl) k)
theorem yk4 {Q:QD} {h:Hp} {b b':Bool} {i:Nat} {c:UInt8} {l:List UInt8} {v5 v6 v7 v8 v9:Value} {x j:Nat -> Value} (hx:x 1=.string ⟨l.toArray⟩) (hi:l[i]?=some c) (hb:b'=(b||decide ((c.toNat:Int)=82)))
  (k:∀ j',Q .normal (mE x v5 v6 v7 v8 v9 (.bool b') (.int .i64 (i:Nat)) j') h) :
  den Tryz.prog (sel (zaf Tryz.f156) [1,1,1,1,1,1,1,0,1,0,0,1,0,0,1,1,1,1,1]) Q (mE x v5 v6 v7 v8 v9 (.bool b) (.int .i64 (i:Nat)) j) h:=by
 subst hb;unfold mE zay;refine zhi (zgn ..) ?_;cases b
 ·refine zdd (zdd (zdd (zaa ((congrArg (ixV · _) hx).trans (znc hi)) (zdd (zgo ?_)))));exact zaa rfl (zjo (X:=Q .normal) (λj'=>mE x v5 v6 v7 v8 v9 (.bool (false||decide ((c.toNat:Int)=82))) (.int .i64 (i:Nat)) j') (by kernel_rfl) k)
 ·refine zde (zde (zde (zde ?_)));exact zaa rfl (zjo (X:=Q .normal) (λj'=>mE x v5 v6 v7 v8 v9 (.bool (true||decide ((c.toNat:Int)=82))) (.int .i64 (i:Nat)) j') (by kernel_rfl) k)
theorem yfj {l:List UInt8} {i:Nat} (hl:l.length≤1000) (hi:i≤l.length) {k1:Env -> Hp -> Prop} {h:Hp} (a5 a6 a7 a8 a9 a10:Bool) {x j:Nat -> Value} (hx:x 1=.string ⟨l.toArray⟩)
  (next:i<l.length -> ∀ j',k1 (mE x (.bool (a5||zb1 l 73 (i+1))) (.bool (a6||zb1 l 65 (i+1))) (.bool (a7||zb1 l 78 (i+1))) (.bool (a8||zb1 l 70 (i+1))) (.bool (a9||zb1 l 77 (i+1))) (.bool (a10||zb1 l 82 (i+1))) (.int .i64 ((i+1:Nat):Int)) j') h)
  (stop:¬ i<l.length -> K (.bool ((a5||zb1 l 73 i)&&(a6||zb1 l 65 i)&&(a7||zb1 l 78 i)&&(a8||zb1 l 70 i)&&(a9||zb1 l 77 i)&&(a10||zb1 l 82 i))) h) :
  den Tryz.prog (sel (zaf Tryz.f156) [1,1,1,1,1,1,1,0,1,0,0]) (za6 k1 (blk 0 (za6 (den Tryz.prog (sel (zaf Tryz.f156) [1,1,1,1,1,1,1,1]) (zjm Tryz.prog Tryz.f156.results.toList K E)) (zjm Tryz.prog Tryz.f156.results.toList K E)))) (mE x (.bool (a5||zb1 l 73 i)) (.bool (a6||zb1 l 65 i)) (.bool (a7||zb1 l 78 i)) (.bool (a8||zb1 l 70 i)) (.bool (a9||zb1 l 77 i)) (.bool (a10||zb1 l 82 i)) (.int .i64 (i:Nat)) j) h:=by
 refine zlq (a:=sel (zaf Tryz.f156) [1,1,1,1,1,1,1,0,1,0,0,0]) (b:=sel (zaf Tryz.f156) [1,1,1,1,1,1,1,0,1,0,0,1]) (by kernel_rfl) ?_;unfold mE zay;refine zhi (zk3 ..) ?_;refine zaa (v:=.int .i64 (l.length:Nat)) (by rw [hx]; rfl) ?_;refine zat (λhlt=>zax ?_) (λhge=>zaq ?_)
 rotate_left
 ·refine zhi (zoi ..) ?_;refine zva (λt1=>zva (λt2=>zva (λt3=>zva (λt4=>zva (λt5=>?_)))));exact stop (by omega)
 have i1:i<l.length:=by omega
 have hg:l[i]?=some l[i]:=List.getElem?_eq_getElem i1;refine zjo (λj'=>mE x (.bool (a5||zb1 l 73 i)) (.bool (a6||zb1 l 65 i)) (.bool (a7||zb1 l 78 i)) (.bool (a8||zb1 l 70 i)) (.bool (a9||zb1 l 77 i)) (.bool (a10||zb1 l 82 i)) (.int .i64 (i:Nat)) j') (by kernel_rfl) (λj1=>?_);refine zlq (a:=sel (zaf Tryz.f156) [1,1,1,1,1,1,1,0,1,0,0,1,0]) (b:=sel (zaf Tryz.f156) [1,1,1,1,1,1,1,0,1,0,0,1,1]) (by kernel_rfl) ?_;refine yq5 (id:=1) (a:=sel (zaf Tryz.f156) [1,1,1,1,1,1,1,0,1,0,0,1,0,0]) (by kernel_rfl) ?_;refine zlq (a:=sel (zaf Tryz.f156) [1,1,1,1,1,1,1,0,1,0,0,1,0,0,0]) (b:=sel (zaf Tryz.f156) [1,1,1,1,1,1,1,0,1,0,0,1,0,0,1]) (by kernel_rfl) ?_;refine ynk hx hg (b':=(a5||zb1 l 73 (i+1))) (by rw [zj5 hg,Bool.or_assoc]) (λj2=>?_);refine zlq (a:=sel (zaf Tryz.f156) [1,1,1,1,1,1,1,0,1,0,0,1,0,0,1,0]) (b:=sel (zaf Tryz.f156) [1,1,1,1,1,1,1,0,1,0,0,1,0,0,1,1]) (by kernel_rfl) ?_;refine ymp hx hg (b':=(a6||zb1 l 65 (i+1))) (by rw [zj5 hg,Bool.or_assoc]) (λj3=>?_);refine zlq (a:=sel (zaf Tryz.f156) [1,1,1,1,1,1,1,0,1,0,0,1,0,0,1,1,0]) (b:=sel (zaf Tryz.f156) [1,1,1,1,1,1,1,0,1,0,0,1,0,0,1,1,1]) (by kernel_rfl) ?_;refine ynr hx hg (b':=(a7||zb1 l 78 (i+1))) (by rw [zj5 hg,Bool.or_assoc]) (λj4=>?_);refine zlq (a:=sel (zaf Tryz.f156) [1,1,1,1,1,1,1,0,1,0,0,1,0,0,1,1,1,0]) (b:=sel (zaf Tryz.f156) [1,1,1,1,1,1,1,0,1,0,0,1,0,0,1,1,1,1]) (by kernel_rfl) ?_;refine ynf hx hg (b':=(a8||zb1 l 70 (i+1))) (by rw [zj5 hg,Bool.or_assoc]) (λj5=>?_);refine zlq (a:=sel (zaf Tryz.f156) [1,1,1,1,1,1,1,0,1,0,0,1,0,0,1,1,1,1,0]) (b:=sel (zaf Tryz.f156) [1,1,1,1,1,1,1,0,1,0,0,1,0,0,1,1,1,1,1]) (by kernel_rfl) ?_;refine ymr hx hg (b':=(a9||zb1 l 77 (i+1))) (by rw [zj5 hg,Bool.or_assoc]) (λj6=>?_);refine yk4 hx hg (b':=(a10||zb1 l 82 (i+1))) (by rw [zj5 hg,Bool.or_assoc]) (λj7=>?_);unfold mE zay;refine zhi (zjb ..) ?_;refine zas (by omega) ?_;exact zjo (λj'=>mE x (.bool (a5||zb1 l 73 (i+1))) (.bool (a6||zb1 l 65 (i+1))) (.bool (a7||zb1 l 78 (i+1))) (.bool (a8||zb1 l 70 (i+1))) (.bool (a9||zb1 l 77 (i+1))) (.bool (a10||zb1 l 82 (i+1))) (.int .i64 ((i+1:Nat):Int)) j') (by kernel_rfl) (λj8=>next i1 j8)
theorem zok {h:Hp} {a:Bool} {A:zae -> Hp -> Prop} (x:Value) (hA:a=true -> ∀ K':zae,K' x h -> A K' h) (k:∀ t,(a=true -> t=x) -> K t h):gdK (.bool a) true A K h:=by
 cases a
 ·exact ym0 (k undef (by simp))
 ·exact yma (hA rfl _ (k x (λ_=>rfl)))
theorem yd2 {h:Hp} {a b:Bool} {t:Value} (e:a=true -> t=.bool b) (k:K (.bool (a&&b)) h):pv (zad (.bool a) t (.bool false)) K h:=by
 cases a
 ·exact zaa rfl k
 ·exact zaa (by rw [e rfl]; rfl) (by simpa using k)
def zka (l:List UInt8) (r:zaj):Bool:=((decide (r.id=0)||zb1 l 73 l.length))&&((decide (r.tm=0)||zb1 l 65 l.length))&&((decide ((r.ns.length:Int)=0)||zb1 l 78 l.length))&&((decide ((r.fs.length:Int)=0)||zb1 l 70 l.length))&&((true||zb1 l 77 l.length))&&(((decide (r.lo=0)&&decide (r.hi=0)&&decide ((r.es.length:Int)=0))||zb1 l 82 l.length))
theorem zn2 {l:List UInt8} (hl:l.length≤1000) {cs:List Value} {r:zaj} (hr:zdr F cs r) (k:∀ N',N≤N' -> (Hp.mk F M N').wf -> K (.bool (zka l r)) ⟨F,M,N'⟩) :
  cF 156 #[.agg cs.toArray,.string ⟨l.toArray⟩] K E ⟨F,M,N⟩:=by
 refine za4 za8 Tryz.func156 (by kernel_rfl) (yv3 _ E _ _) (λhw=>?_);have hm:za5 M N:=hw.m;obtain ⟨na,nc,fv,sa,sc,ev,rfl,hn,hf,he⟩:=hr;obtain ⟨fa,fc,rfl⟩:=hf.form;obtain ⟨ea,ec,rfl⟩:∃ ea ec,ev=.slice ea r.es.length ec:=by obtain ⟨rows,h1,_⟩:=he; obtain ⟨a,c,h2,_⟩:=h1.form; exact ⟨a,c,h2⟩
 refine zap (cs:=[.int .u8 r.kind,.int .u32 r.id,.int .u32 r.tm,.slice na r.ns.length nc,.slice fa r.fs.length fc,.int .u32 0,.slice sa 0 sc,.int .i64 r.lo,.int .i64 r.hi,.slice ea r.es.length ec]) (λb hb=>?_);have hx:=za0 M b (some (.cells 77 [.int .u8 r.kind,.int .u32 r.id,.int .u32 r.tm,.slice na r.ns.length nc,.slice fa r.fs.length fc,.int .u32 0,.slice sa 0 sc,.int .i64 r.lo,.int .i64 r.hi,.slice ea r.es.length ec] 10));have fin:(Hp.mk F (upd M b (some (.cells 77 [.int .u8 r.kind,.int .u32 r.id,.int .u32 r.tm,.slice na r.ns.length nc,.slice fa r.fs.length fc,.int .u32 0,.slice sa 0 sc,.int .i64 r.lo,.int .i64 r.hi,.slice ea r.es.length ec] 10))) (b+1)).wf -> ∃ h',(Hp.mk F (upd M b (some (.cells 77 [.int .u8 r.kind,.int .u32 r.id,.int .u32 r.tm,.slice na r.ns.length nc,.slice fa r.fs.length fc,.int .u32 0,.slice sa 0 sc,.int .i64 r.lo,.int .i64 r.hi,.slice ea r.es.length ec] 10))) (b+1)).wk h'∧(h'.wf -> K (.bool (zka l r)) h'):=λhc=>⟨⟨F,M,b+1⟩,zbl hc (zb5 (zbb _) (hm _ hb)),λhw'=>k _ (by omega) hw'⟩;simp only [show ([.int .u8 r.kind,.int .u32 r.id,.int .u32 r.tm,.slice na r.ns.length nc,.slice fa r.fs.length fc,.int .u32 0,.slice sa 0 sc,.int .i64 r.lo,.int .i64 r.hi,.slice ea r.es.length ec]:List Value).length=10 from rfl];generalize upd M b _=M1 at *;try simp only [sS]
 refine ldM (v:=.int .u32 r.id) ?_ hx;refine zgo ?_;try simp only [sS]
 refine ldM (v:=.int .u32 r.tm) ?_ hx;refine zgo ?_;try simp only [sS]
 refine ldM (v:=.slice na r.ns.length nc) ?_ hx;try simp only [sS]
 refine zgo ?_;try simp only [sS]
 refine ldM (v:=.slice fa r.fs.length fc) ?_ hx;try simp only [sS]
 refine zgo ?_;try simp only [sS]
 refine ldM (v:=.int .u32 0) ?_ hx;refine zeg rfl ?_;try simp only [sS]
 refine ldM (v:=.slice sa 0 sc) ?_ hx;try simp only [sS]
 refine zeg rfl ?_;try simp only [sS]
 refine ldM (v:=.int .i64 r.lo) ?_ hx;refine zgo ?_;refine zok (.pointer (some ⟨b,8,none⟩)) (λ_ K' hk=>hk) (λt29 e29=>?_);refine zok (.int .i64 r.hi) (λha K' hk=>by rw [e29 ha]; exact ldM (v:=.int .i64 r.hi) hk hx) (λt30 e30=>?_);refine zok (.bool (decide (r.hi=0))) (λha K' hk=>by rw [e30 ha]; exact zgo hk) (λt31 e31=>?_);refine yd2 e31 ?_;refine zok (.pointer (some ⟨b,9,none⟩)) (λ_ K' hk=>hk) (λt33 e33=>?_);refine zok (.slice ea r.es.length ec) (λha K' hk=>by rw [e33 ha]; exact ldM (v:=.slice ea r.es.length ec) hk hx) (λt34 e34=>?_);refine zok (.int .i64 (r.es.length:Nat)) (λha K' hk=>by rw [e34 ha]; exact zaa rfl hk) (λt35 e35=>?_);refine zok (.bool (decide ((r.es.length:Int)=0))) (λha K' hk=>by rw [e35 ha]; exact zgo hk) (λt36 e36=>?_);refine yd2 e36 ?_
 refine (zkq (σ:=Nat) (λi=>.bool (decide (r.id=0)||zb1 l 73 i)) (λi=>.bool (decide (r.tm=0)||zb1 l 65 i)) (λi=>.bool (decide ((r.ns.length:Int)=0)||zb1 l 78 i)) (λi=>.bool (decide ((r.fs.length:Int)=0)||zb1 l 70 i)) (λi=>.bool (true||zb1 l 77 i)) (λi=>.bool ((decide (r.lo=0)&&decide (r.hi=0)&&decide ((r.es.length:Int)=0))||zb1 l 82 i)) (λi=>.int .i64 (i:Nat)) (λi h=>h=⟨F,M1,b+1⟩∧i≤l.length) (λi=>l.length - i) 0 (by simp [zb1]) (by simp [zb1]) (by simp [zb1]) (by simp [zb1]) (by simp [zb1]) (by simp [zb1]) rfl
  (λhw1=>⟨_,za1 hw1,rfl,Nat.zero_le _⟩) (λk1 i j h1 hI hw1 next=>?_))
 obtain ⟨rfl,hi⟩:=hI;refine yub (λa=>mE (jf a) (.bool (decide (r.id=0)||zb1 l 73 i)) (.bool (decide (r.tm=0)||zb1 l 65 i)) (.bool (decide ((r.ns.length:Int)=0)||zb1 l 78 i)) (.bool (decide ((r.fs.length:Int)=0)||zb1 l 70 i)) (.bool (true||zb1 l 77 i)) (.bool ((decide (r.lo=0)&&decide (r.hi=0)&&decide ((r.es.length:Int)=0))||zb1 l 82 i)) (.int .i64 (i:Nat)) (jf a)) (by kernel_rfl) (λa ha=>?_);refine yfj (x:=jf a) hl hi (decide (r.id=0)) (decide (r.tm=0)) (decide ((r.ns.length:Int)=0)) (decide ((r.fs.length:Int)=0)) true (decide (r.lo=0)&&decide (r.hi=0)&&decide ((r.es.length:Int)=0)) (by rw [ha]; kernel_rfl) (λi1 j'=>?_) (λhge=>?_)
 ·subst ha;exact yti (next (i+1) j' _ (by omega) (λhw2=>⟨_,za1 hw2,rfl,i1⟩)) (by kernel_rfl)
 have e0:i=l.length:=by omega
 subst e0;exact fin
theorem yfm {α:Type} (l:List α):decide ((l.length:Int)=0)=decide (l=[]):=by cases l<;>simp<;>omega
theorem yno (r:zaj):zka [73,78,70] r=decide (r.tm=0∧r.lo=0∧r.hi=0∧r.es=[]):=by
 unfold zka;simp only [yfm,show zb1 [73,78,70] 73 3=true from rfl,show zb1 [73,78,70] 65 3=false from rfl,show zb1 [73,78,70] 78 3=true from rfl,show zb1 [73,78,70] 70 3=true from rfl,show zb1 [73,78,70] 82 3=false from rfl,List.length_cons,List.length_nil,Nat.reduceAdd,Nat.zero_add,Bool.or_true,Bool.true_or,Bool.or_false,Bool.true_and,Bool.and_true]
 by_cases h1:r.tm=0<;>by_cases h2:r.lo=0<;>by_cases h3:r.hi=0<;>by_cases h4:r.es=[]<;>simp [h1,h2,h3,h4]
theorem ynz (r:zaj):zka [73,65,78] r=decide (r.lo=0∧r.hi=0∧r.es=[]∧r.fs=[]):=by
 unfold zka;simp only [yfm,show zb1 [73,65,78] 73 3=true from rfl,show zb1 [73,65,78] 65 3=true from rfl,show zb1 [73,65,78] 78 3=true from rfl,show zb1 [73,65,78] 70 3=false from rfl,show zb1 [73,65,78] 82 3=false from rfl,List.length_cons,List.length_nil,Nat.reduceAdd,Nat.zero_add,Bool.or_true,Bool.true_or,Bool.or_false,Bool.true_and,Bool.and_true]
 by_cases h1:r.fs=[]<;>by_cases h2:r.lo=0<;>by_cases h3:r.hi=0<;>by_cases h4:r.es=[]<;>simp [h1,h2,h3,h4]
theorem yfp (r:zaj):zka [73] r=decide (r.tm=0∧r.lo=0∧r.hi=0∧r.es=[]∧r.fs=[]∧r.ns=[]):=by
 unfold zka;simp only [yfm,show zb1 [73] 73 1=true from rfl,show zb1 [73] 65 1=false from rfl,show zb1 [73] 78 1=false from rfl,show zb1 [73] 70 1=false from rfl,show zb1 [73] 82 1=false from rfl,List.length_cons,List.length_nil,Nat.reduceAdd,Nat.zero_add,Bool.or_true,Bool.true_or,Bool.or_false,Bool.true_and,Bool.and_true]
 by_cases h1:r.tm=0<;>by_cases h2:r.lo=0<;>by_cases h3:r.hi=0<;>by_cases h4:r.es=[]<;>by_cases h5:r.fs=[]<;>by_cases h6:r.ns=[]<;>simp [h1,h2,h3,h4,h5,h6]
theorem ypk (r:zaj):zka [73,82] r=decide (r.tm=0∧r.ns=[]∧r.fs=[]):=by
 unfold zka;simp only [yfm,show zb1 [73,82] 73 2=true from rfl,show zb1 [73,82] 65 2=false from rfl,show zb1 [73,82] 78 2=false from rfl,show zb1 [73,82] 70 2=false from rfl,show zb1 [73,82] 82 2=true from rfl,List.length_cons,List.length_nil,Nat.reduceAdd,Nat.zero_add,Bool.or_true,Bool.true_or,Bool.or_false,Bool.true_and,Bool.and_true]
 by_cases h1:r.tm=0<;>by_cases h5:r.fs=[]<;>by_cases h6:r.ns=[]<;>simp [h1,h5,h6]
theorem yi9 {cs:List Value} {r:zaj} (hr:zdr F cs r) (hL:r.lens) (h6:r.kind≠6) (hnl:r.ns.length≤1000000000) (hfl:r.fs.length≤1000000000) (hel:r.es.length≤1000000000) (hee:∀ e∈r.es,e.2.length≤1000000000) (k:∀ N',N≤N' -> (Hp.mk F M N').wf -> K (.bool (zbn r)) ⟨F,M,N'⟩) :
  cF 113 #[.agg cs.toArray] K E ⟨F,M,N⟩:=by
 refine za4 za8 Tryz.func113 (by kernel_rfl) (yjb _ E _) (λhw=>?_);have hm:za5 M N:=hw.m;have hr0:=hr;obtain ⟨na,nc,fv,sa,sc,ev,rfl,hn,hf,he⟩:=hr;obtain ⟨fa,fc,rfl⟩:=hf.form;obtain ⟨ea,ec,rfl⟩:∃ ea ec,ev=.slice ea r.es.length ec:=by obtain ⟨rows,h1,_⟩:=he; obtain ⟨a,c,h2,_⟩:=h1.form; exact ⟨a,c,h2⟩
 refine zap (cs:=[.int .u8 r.kind,.int .u32 r.id,.int .u32 r.tm,.slice na r.ns.length nc,.slice fa r.fs.length fc,.int .u32 0,.slice sa 0 sc,.int .i64 r.lo,.int .i64 r.hi,.slice ea r.es.length ec]) (λb hb=>?_);have hx:=za0 M b (some (.cells 77 [.int .u8 r.kind,.int .u32 r.id,.int .u32 r.tm,.slice na r.ns.length nc,.slice fa r.fs.length fc,.int .u32 0,.slice sa 0 sc,.int .i64 r.lo,.int .i64 r.hi,.slice ea r.es.length ec] 10));have hd:zex M (upd M b (some (.cells 77 [.int .u8 r.kind,.int .u32 r.id,.int .u32 r.tm,.slice na r.ns.length nc,.slice fa r.fs.length fc,.int .u32 0,.slice sa 0 sc,.int .i64 r.lo,.int .i64 r.hi,.slice ea r.es.length ec] 10))):=zb5 (zbb _) (hm _ hb);simp only [show ([.int .u8 r.kind,.int .u32 r.id,.int .u32 r.tm,.slice na r.ns.length nc,.slice fa r.fs.length fc,.int .u32 0,.slice sa 0 sc,.int .i64 r.lo,.int .i64 r.hi,.slice ea r.es.length ec]:List Value).length=10 from rfl];generalize upd M b _=M1 at *
 have fin:∀ y,zbn r=y -> ∀ N',b+1≤N' -> ∀ h',h'=(⟨F,M1,N'⟩:Hp) -> h'.wf -> ∃ h'',h'.wk h''∧(h''.wf -> K (.bool y) h''):=λy e N' hN' h' e' hc=>by
  subst e; subst e';exact ⟨⟨F,M,N'⟩,zbl hc hd,λhw'=>k _ (by omega) hw'⟩
 try simp only [sS]
 refine ldM (v:=.int .u8 r.kind) ?_ hx;refine zau (λg1=>?_) (λg1=>?_)
 ·try simp only [sS]
  refine zb6 (vs:=[.int .u8 r.kind,.int .u32 r.id,.int .u32 r.tm,.slice na r.ns.length nc,.slice fa r.fs.length fc,.int .u32 0,.slice sa 0 sc,.int .i64 r.lo,.int .i64 r.hi,.slice ea r.es.length ec]) ?_ hx;refine zn2 (l:=[73,78,70]) (by simp) hr0 (λN1 hN1 hw1=>?_);rw [yno];have e0:zbn r=(decide (r.tm=0∧r.lo=0∧r.hi=0∧r.es=[])&&zek (-1) r.ns&&zen r.fs):=by unfold zbn; rw [if_pos g1]
  cases hb1:decide (r.tm=0∧r.lo=0∧r.hi=0∧r.es=[])
  ·try simp only [sS]
   exact fin _ (by rw [e0,hb1]; rfl) _ hN1 _ rfl
  ·try simp only [sS]
   refine ldM (v:=.slice na r.ns.length nc) ?_ hx;refine ycy hn hnl (λhw2=>?_);cases hb2:zek (-1) r.ns
   ·try simp only [sS]
    exact fin _ (by rw [e0,hb1,hb2]; rfl) _ hN1 _ rfl
   ·try simp only [sS]
    refine ldM (v:=.slice fa r.fs.length fc) ?_ hx;refine yb1 hf hfl (λhw3=>?_);try simp only [sS]
    exact fin _ (by rw [e0,hb1,hb2]; rfl) _ hN1 _ rfl
 ·try simp only [sS]
  refine zau (λg2=>?_) (λg2=>?_)
  ·try simp only [sS]
   refine zb6 (vs:=[.int .u8 r.kind,.int .u32 r.id,.int .u32 r.tm,.slice na r.ns.length nc,.slice fa r.fs.length fc,.int .u32 0,.slice sa 0 sc,.int .i64 r.lo,.int .i64 r.hi,.slice ea r.es.length ec]) ?_ hx;refine zn2 (l:=[73,65,78]) (by simp) hr0 (λN1 hN1 hw1=>?_);rw [ynz];have e0:zbn r=(decide (r.lo=0∧r.hi=0∧r.es=[]∧r.fs=[])&&zek (-1) r.ns):=by unfold zbn; rw [if_neg g1,if_pos g2]
   cases hb1:decide (r.lo=0∧r.hi=0∧r.es=[]∧r.fs=[])
   ·try simp only [sS]
    exact fin _ (by rw [e0,hb1]; rfl) _ hN1 _ rfl
   ·try simp only [sS]
    refine ldM (v:=.slice na r.ns.length nc) ?_ hx;refine ycy hn hnl (λhw2=>?_);try simp only [sS]
    exact fin _ (by rw [e0,hb1]; rfl) _ hN1 _ rfl
  ·try simp only [sS]
   have three:(r.kind=3∨r.kind=4∨r.kind=5) -> zbn r=decide (r.tm=0∧r.lo=0∧r.hi=0∧r.es=[]∧r.fs=[]∧r.ns=[]):=λg=>by unfold zbn; rw [if_neg g1,if_neg g2,if_pos g]
   refine zau (λg3=>?_) (λg3=>?_)
   ·refine zax ?_;rw [zee];refine zax ?_;refine zb6 (vs:=[.int .u8 r.kind,.int .u32 r.id,.int .u32 r.tm,.slice na r.ns.length nc,.slice fa r.fs.length fc,.int .u32 0,.slice sa 0 sc,.int .i64 r.lo,.int .i64 r.hi,.slice ea r.es.length ec]) ?_ hx;refine zn2 (l:=[73]) (by simp) hr0 (λN1 hN1 hw1=>?_);rw [yfp];exact fin _ (three (.inl g3)) _ hN1 _ rfl
   refine zaq ?_;refine zau (λg4=>?_) (λg4=>?_)
   ·refine zax ?_;rw [zee];refine zax ?_;refine zb6 (vs:=[.int .u8 r.kind,.int .u32 r.id,.int .u32 r.tm,.slice na r.ns.length nc,.slice fa r.fs.length fc,.int .u32 0,.slice sa 0 sc,.int .i64 r.lo,.int .i64 r.hi,.slice ea r.es.length ec]) ?_ hx;refine zn2 (l:=[73]) (by simp) hr0 (λN1 hN1 hw1=>?_);rw [yfp];exact fin _ (three (.inr (.inl g4))) _ hN1 _ rfl
   refine zaq ?_;refine zau (λg5=>?_) (λg5=>?_)
   ·rw [zee];refine zax ?_;refine zb6 (vs:=[.int .u8 r.kind,.int .u32 r.id,.int .u32 r.tm,.slice na r.ns.length nc,.slice fa r.fs.length fc,.int .u32 0,.slice sa 0 sc,.int .i64 r.lo,.int .i64 r.hi,.slice ea r.es.length ec]) ?_ hx;refine zn2 (l:=[73]) (by simp) hr0 (λN1 hN1 hw1=>?_);rw [yfp];exact fin _ (three (.inr (.inr g5))) _ hN1 _ rfl
   rw [zee];refine zaq ?_;refine zbj h6 (zaq ?_);refine zau (λg7=>?_) (λg7=>?_)
   ·have e0:zbn r=(decide (r.tm=0∧r.ns=[]∧r.fs=[]∧0≤r.lo∧r.lo≤10000∧0≤r.hi∧r.hi≤10000)&&zg7 r.es):=by unfold zbn; rw [if_neg g1,if_neg g2,if_neg (by omega),if_pos g7]
    refine zax ?_;refine zb6 (vs:=[.int .u8 r.kind,.int .u32 r.id,.int .u32 r.tm,.slice na r.ns.length nc,.slice fa r.fs.length fc,.int .u32 0,.slice sa 0 sc,.int .i64 r.lo,.int .i64 r.hi,.slice ea r.es.length ec]) ?_ hx;refine zn2 (l:=[73,82]) (by simp) hr0 (λN1 hN1 hw1=>?_);rw [ypk];cases hb1:decide (r.tm=0∧r.ns=[]∧r.fs=[])
    ·have hb0:=of_decide_eq_false hb1;try simp only [sS]
     exact fin _ (by rw [e0,decide_eq_false (λe=>hb0 ⟨e.1,e.2.1,e.2.2.1⟩)]; rfl) _ hN1 _ rfl
    have hb0:=of_decide_eq_true hb1;try simp only [sS]
    refine ldM (v:=.slice ea r.es.length ec) ?_ hx;refine yjp he hel (λe h=>hL.et e h) hee (λhw2=>?_);cases hb2:zg7 r.es
    ·try simp only [sS]
     exact fin _ (by rw [e0,hb2,Bool.and_false]) _ hN1 _ rfl
    try simp only [sS]
    refine ldM (v:=.int .i64 r.lo) ?_ hx;refine zg8 (λq1=>?_) (λq1=>?_)
    rotate_left
    ·try simp only [sS]
     exact fin _ (by rw [e0,decide_eq_false (by omega)]; rfl) _ hN1 _ rfl
    try simp only [sS]
    refine ldM (v:=.int .i64 r.lo) ?_ hx;refine zds (λq2=>?_) (λq2=>?_)
    rotate_left
    ·try simp only [sS]
     exact fin _ (by rw [e0,decide_eq_false (by omega)]; rfl) _ hN1 _ rfl
    try simp only [sS]
    refine ldM (v:=.int .i64 r.hi) ?_ hx;refine zg8 (λq3=>?_) (λq3=>?_)
    rotate_left
    ·try simp only [sS]
     exact fin _ (by rw [e0,decide_eq_false (by omega)]; rfl) _ hN1 _ rfl
    try simp only [sS]
    refine ldM (v:=.int .i64 r.hi) ?_ hx;refine zds (λq4=>?_) (λq4=>?_)
    rotate_left
    ·try simp only [sS]
     exact fin _ (by rw [e0,decide_eq_false (by omega)]; rfl) _ hN1 _ rfl
    try simp only [sS]
    exact fin _ (by rw [e0,hb2,decide_eq_true (by exact ⟨hb0.1,hb0.2.1,hb0.2.2,q1,q2,q3,q4⟩)]; rfl) _ hN1 _ rfl
   ·refine zaq ?_;exact fin _ (by unfold zbn; rw [if_neg g1,if_neg g2,if_neg (by omega),if_neg g7]) _ (Nat.le_refl _) _ rfl
theorem ybm {b N:Nat} {x:Int} (hb:N≤b):own (upd M b (some (.cells 5 [.int .u8 x] 1))) N 5 1 (.slice (some ⟨b,0,none⟩) 1 1) 1 (bts [x]) :=
 ⟨rfl,.inr ⟨b,1,[],rfl,Nat.le_refl _,by unfold maxLen; omega,hb,by rw [za0]; rfl⟩⟩
theorem yp7 {x:Int} (h0:0≤x) (h1:x<256):zam x 1=[x]:=by
 have h:zja x 0=x:=by
  have := ydx x.toNat (k:=0) (by omega);rw [show ((x.toNat:Nat):Int)=x by omega] at this;rw [this]; omega
 simp [zam,zgb,h]
theorem yhp {cs:List Value} {r:zaj} (hr:zdr F cs r) (hL:r.lens) (ht:r.typ) (h6:r.kind≠6) (hnl:r.ns.length≤1000000) (hfl:r.fs.length≤1000000) (hel:r.es.length≤1000000) (hee:∀ e∈r.es,e.2.length≤1000000) (hE:(zah r).length≤100000000)
  (k0:zbn r=false -> ∀ N',N≤N' -> (Hp.mk F M N').wf -> K (.tuple #[.slice none 0 0,.int .i64 1]) ⟨F,M,N'⟩)
  (k1:zbn r=true -> (zah r).length>60000 -> ∀ N',N≤N' -> (Hp.mk F M N').wf -> K (.tuple #[.slice none 0 0,.int .i64 3]) ⟨F,M,N'⟩)
  (k2:zbn r=true -> (zah r).length≤60000 -> ∀ v M' N',own M' N 5 1 v (zah r).length (bts (zah r)) -> (∀ q,q<N -> M' q=M q) -> N≤N' -> za5 M' N' -> (Hp.mk F M' N').wf -> K (.tuple #[v,.int .i64 0]) ⟨F,M',N'⟩) :
  cF 62 #[.agg cs.toArray] K E ⟨F,M,N⟩:=by
 refine za4 za8 Tryz.func62 (by kernel_rfl) (t62 _ E _) (λhw=>?_);have hm:za5 M N:=hw.m;have hr0:=hr;obtain ⟨na,nc,fv,sa,sc,ev,rfl,hn,hf,he⟩:=hr;have he0:=he;obtain ⟨fa,fc,rfl⟩:=hf.form;obtain ⟨ea,ec,rfl⟩:∃ ea ec,ev=.slice ea r.es.length ec:=by obtain ⟨rows,h1,_⟩:=he; obtain ⟨a,c,h2,_⟩:=h1.form; exact ⟨a,c,h2⟩
 refine zap (cs:=[.int .u8 r.kind,.int .u32 r.id,.int .u32 r.tm,.slice na r.ns.length nc,.slice fa r.fs.length fc,.int .u32 0,.slice sa 0 sc,.int .i64 r.lo,.int .i64 r.hi,.slice ea r.es.length ec]) (λb1 hb1=>?_);refine zb6 (vs:=[.int .u8 r.kind,.int .u32 r.id,.int .u32 r.tm,.slice na r.ns.length nc,.slice fa r.fs.length fc,.int .u32 0,.slice sa 0 sc,.int .i64 r.lo,.int .i64 r.hi,.slice ea r.es.length ec]) ?_ (za0 _ _ _);refine yi9 hr0 hL h6 (by omega) (by omega) (by omega) (λe h=>by have := hee e h; omega) (λN1 hN1 hw1=>?_);cases hs:zbn r
 ·try simp only [sS]
  exact λhc=>⟨⟨F,M,N1⟩,zbl hc (zb5 (zbb _) (hm _ hb1)),λhw'=>k0 hs _ (by omega) hw'⟩
 have hk:=zpf hs;try simp only [sS]
 refine ldM (v:=.int .u8 r.kind) ?_ (za0 _ _ _);refine zcx (cs:=[.int .u8 r.kind]) (by kernel_rfl) (λb2 hb2=>?_);have P:own (upd (upd M b1 (some (.cells 77 [.int .u8 r.kind,.int .u32 r.id,.int .u32 r.tm,.slice na r.ns.length nc,.slice fa r.fs.length fc,.int .u32 0,.slice sa 0 sc,.int .i64 r.lo,.int .i64 r.hi,.slice ea r.es.length ec] 10))) b2 (some (.cells 5 [.int .u8 r.kind] 1))) b2 5 1 (.slice (some ⟨b2,0,none⟩) 1 1) 1 (bts [r.kind]):=ybm (Nat.le_refl _);have hb:upd (upd M b1 (some (.cells 77 [.int .u8 r.kind,.int .u32 r.id,.int .u32 r.tm,.slice na r.ns.length nc,.slice fa r.fs.length fc,.int .u32 0,.slice sa 0 sc,.int .i64 r.lo,.int .i64 r.hi,.slice ea r.es.length ec] 10))) b2 (some (.cells 5 [.int .u8 r.kind] 1)) b1=some (.cells 77 [.int .u8 r.kind,.int .u32 r.id,.int .u32 r.tm,.slice na r.ns.length nc,.slice fa r.fs.length fc,.int .u32 0,.slice sa 0 sc,.int .i64 r.lo,.int .i64 r.hi,.slice ea r.es.length ec] 10):=(za3 _ _ (by omega)).trans (za0 _ _ _);have hM2:∀ q,q<N -> upd (upd M b1 (some (.cells 77 [.int .u8 r.kind,.int .u32 r.id,.int .u32 r.tm,.slice na r.ns.length nc,.slice fa r.fs.length fc,.int .u32 0,.slice sa 0 sc,.int .i64 r.lo,.int .i64 r.hi,.slice ea r.es.length ec] 10))) b2 (some (.cells 5 [.int .u8 r.kind] 1)) q=M q:=λq hq=>(za3 _ _ (by omega)).trans (za3 _ _ (by omega));have hm2:za5 (upd (upd M b1 (some (.cells 77 [.int .u8 r.kind,.int .u32 r.id,.int .u32 r.tm,.slice na r.ns.length nc,.slice fa r.fs.length fc,.int .u32 0,.slice sa 0 sc,.int .i64 r.lo,.int .i64 r.hi,.slice ea r.es.length ec] 10))) b2 (some (.cells 5 [.int .u8 r.kind] 1))) (b2+1):=((hm.new hb1 _).up hN1).new hb2 _;simp only [List.length_cons,List.length_nil,Nat.zero_add];generalize upd (upd M b1 _) b2 _=M2 at *
 have eR:zah r=[r.kind]++(zam (zb0 r.id) 4++if r.kind=1 then zco r.ns++zc8 r.fs else if r.kind=2 then zam (zb0 r.tm) 4++zco r.ns else if r.kind=7 then zam (zb0 r.lo) 4++(zam (zb0 r.hi) 4++zc9 r.es) else []):=by
  unfold zah;rw [yp7 (x:=r.kind) (by omega) (by omega),zgk (x:=r.id) ht.i0.1 (by have := ht.i0.2; omega),zgk (x:=r.tm) ht.t0.1 (by have := ht.t0.2; omega)]
 have hlow:∀ {v3:Value} {M3:Nat -> Option zak},fr M2 M3 (b2+1) (.slice (some ⟨b2,0,none⟩) 1 1) v3 -> ∀ q,q<b2 -> M3 q=M2 q:=λh q hq=>(h q (by simp [Value.ownBlock]; omega) (by omega)).1
 have fin:∀ (v5:Value) (M5:Nat -> Option zak) (N5:Nat),own M5 b2 5 1 v5 (zah r).length (bts (zah r)) -> fr M2 M5 (b2+1) (.slice (some ⟨b2,0,none⟩) 1 1) v5 -> b2+1≤N5 -> za5 M5 N5 ->
   (pv (zab v5) (λt1=>pv (za2 .none .gtr t1 (.int .i64 60000)) λt2=>cnd t2 (λh=>h.wf -> ∃ h',h.wk h'∧(h'.wf -> K (.tuple #[.slice none 0 0,.int .i64 3]) h')) (λh=>h.wf -> ∃ h',h.wk h'∧(h'.wf -> K (.tuple #[v5,.int .i64 0]) h')))) ⟨F,M5,N5⟩:=by
  intro v5 M5 N5 P5 f5 hN5 hm5;have hM5:∀ q,q<N -> M5 q=M q:=λq hq=>(hlow f5 q (by omega)).trans (hM2 q hq);obtain ⟨a5,c5,e5,_⟩:=P5.form;subst e5;refine zaa (v:=.int .i64 ((zah r).length:Nat)) rfl ?_;refine zbw (λh1=>?_) (λh1=>?_)
  ·refine zax ?_;exact λhc=>⟨⟨F,M,N5⟩,zbl hc (zmz hm hM5),λhw'=>k1 hs (by omega) _ (by omega) hw'⟩
  ·refine zaq ?_;exact λhc=>⟨_,za1 hc,λhw'=>k2 hs (by omega) _ M5 N5 (P5.keep (λ_ _=>rfl) (by omega)) hM5 (by omega) hm5 hw'⟩
 try simp only [sS]
 refine ldM (v:=.int .u32 r.id) ?_ hb;refine zew ?_;refine zil (size:=4) P (by omega) (by omega) (by omega) (λv4 M4 N4 P4 f4 hN4 hm4 hw4=>?_);rw [za9] at P4;try simp only [sS]
 refine ldM (v:=.int .u8 r.kind) ?_ ((hlow f4 b1 (by omega)).trans hb);refine zau (λg1=>?_) (λg1=>?_)
 ·simp only [g1,if_true] at eR;have hlen:(zah r).length=5+((zco r.ns).length+(zc8 r.fs).length):=by rw [eR]; simp only [List.length_append,za9,List.length_cons,List.length_nil]; omega
  try simp only [sS]
  refine ldM (v:=.slice na r.ns.length nc) ?_ ((hlow f4 b1 (by omega)).trans hb);refine yco P4 (by omega) hn hnl (by omega) (λv5 M5 N5 P5 f5 hN5 hm5 hw5=>?_);have f45:=f4.trans f5 (by omega);try simp only [sS]
  refine ldM (v:=.slice fa r.fs.length fc) ?_ ((hlow f45 b1 (by omega)).trans hb);refine ydj P5 (by omega) hf hfl (by omega) (λv6 M6 N6 P6 f6 hN6 hm6 hw6=>?_);rw [zik];refine fin v6 M6 N6 ?_ (f45.trans f6 (by omega)) (by omega) hm6;rw [show (zah r).length=1+4+(zco r.ns).length+(zc8 r.fs).length by omega,eR]
  simpa [bts,g1] using P6
 ·simp only [g1,if_false] at eR;refine zaq ?_;refine zau (λg2=>?_) (λg2=>?_)
  ·simp only [g2,if_true] at eR;have hlen:(zah r).length=5+(4+(zco r.ns).length):=by rw [eR]; simp only [List.length_append,za9,List.length_cons,List.length_nil]; omega
   try simp only [sS]
   refine ldM (v:=.int .u32 r.tm) ?_ ((hlow f4 b1 (by omega)).trans hb);refine zew ?_;refine zil (size:=4) P4 (by omega) (by omega) (by omega) (λv5 M5 N5 P5 f5 hN5 hm5 hw5=>?_);rw [za9] at P5;have f45:=f4.trans f5 (by omega);try simp only [sS]
   refine ldM (v:=.slice na r.ns.length nc) ?_ ((hlow f45 b1 (by omega)).trans hb);refine yco P5 (by omega) hn hnl (by omega) (λv6 M6 N6 P6 f6 hN6 hm6 hw6=>?_);rw [zik];refine fin v6 M6 N6 ?_ (f45.trans f6 (by omega)) (by omega) hm6;rw [show (zah r).length=1+4+4+(zco r.ns).length by omega,eR]
   simpa [bts,g2] using P6
  ·simp only [g2,if_false] at eR;refine zaq (zbj h6 (zaq ?_));refine zau (λg7=>?_) (λg7=>?_)
   ·simp only [g7,if_true] at eR;have hlen:(zah r).length=5+(4+(4+(zc9 r.es).length)):=by rw [eR]; simp only [List.length_append,za9,List.length_cons,List.length_nil]; omega
    try simp only [sS]
    refine ldM (v:=.int .i64 r.lo) ?_ ((hlow f4 b1 (by omega)).trans hb);refine zew ?_;refine zil (size:=4) P4 (by omega) (by omega) (by omega) (λv5 M5 N5 P5 f5 hN5 hm5 hw5=>?_);rw [za9] at P5;have f45:=f4.trans f5 (by omega);try simp only [sS]
    refine ldM (v:=.int .i64 r.hi) ?_ ((hlow f45 b1 (by omega)).trans hb);refine zew ?_;refine zil (size:=4) P5 (by omega) (by omega) (by omega) (λv6 M6 N6 P6 f6 hN6 hm6 hw6=>?_);rw [za9] at P6;have f46:=f45.trans f6 (by omega);try simp only [sS]
    refine ldM (v:=.slice ea r.es.length ec) ?_ ((hlow f46 b1 (by omega)).trans hb);refine zwd P6 (by omega) he0 hel hee (by omega) (λv7 M7 N7 P7 f7 hN7 hm7 hw7=>?_);rw [zik];refine fin v7 M7 N7 ?_ (f46.trans f7 (by omega)) (by omega) hm7;rw [show (zah r).length=1+4+4+4+(zc9 r.es).length by omega,eR]
    simpa [bts,g7] using P7
   ·simp only [g7,if_false] at eR;refine zaq ?_;rw [zik];refine fin v4 M4 N4 ?_ f4 (by omega) hm4;have hlen:(zah r).length=1+4:=by rw [eR]; simp only [List.length_append,za9,List.length_cons,List.length_nil]
    rw [hlen,eR]
    simpa [bts] using P4
theorem ycm {m:zaj} (hk:1≤m.kind∧m.kind≤11):yl3 m=zav m:=by
 have:rkR m.kind=zbv m.kind:=by unfold rkR zbv; split; rfl; split; rfl; split; rfl; rw [if_pos (by omega)]
 unfold yl3 zav; rw [this]
theorem ynm {cs:List Value} {m:zaj} (hr:zfz F cs m) (hL:m.lens) (hk:1≤m.kind∧m.kind≤11) (hnl:m.ns.length≤1000000000) (hfl:m.fs.length≤1000000000) (hel:m.es.length≤1000000000) (hee:∀ e∈m.es,e.2.length≤1000000000) (k:∀ N',N≤N' -> (Hp.mk F M N').wf -> K (.bool (zbp m)) ⟨F,M,N'⟩) :
  cF 61 #[.agg cs.toArray] K E ⟨F,M,N⟩:=by
 refine za4 za8 Tryz.func61 (by kernel_rfl) (t61 _ E _) (λhw=>?_);have hm:za5 M N:=hw.m;have hr0:=hr;obtain ⟨na,nc,fv,ev,rfl,hn,hf,he⟩:=hr;obtain ⟨fa,fc,rfl⟩:=hf.form;obtain ⟨ea,ec,rfl⟩:=he.form;refine zap (cs:=[.int .u8 m.kind,.int .u32 m.id,.int .u32 m.tm,.slice na m.ns.length nc,.slice fa m.fs.length fc,.int .i64 m.lo,.int .i64 m.hi,.slice ea m.es.length ec]) (λb hb=>?_);have hx:=za0 M b (some (.cells 49 [.int .u8 m.kind,.int .u32 m.id,.int .u32 m.tm,.slice na m.ns.length nc,.slice fa m.fs.length fc,.int .i64 m.lo,.int .i64 m.hi,.slice ea m.es.length ec] 8));have hd:zex M (upd M b (some (.cells 49 [.int .u8 m.kind,.int .u32 m.id,.int .u32 m.tm,.slice na m.ns.length nc,.slice fa m.fs.length fc,.int .i64 m.lo,.int .i64 m.hi,.slice ea m.es.length ec] 8))):=zb5 (zbb _) (hm _ hb);simp only [show ([.int .u8 m.kind,.int .u32 m.id,.int .u32 m.tm,.slice na m.ns.length nc,.slice fa m.fs.length fc,.int .i64 m.lo,.int .i64 m.hi,.slice ea m.es.length ec]:List Value).length=8 from rfl];generalize upd M b _=M1 at *
 have fin:∀ y,zbp m=y -> ∀ N',b+1≤N' -> ∀ h',h'=(⟨F,M1,N'⟩:Hp) -> h'.wf -> ∃ h'',h'.wk h''∧(h''.wf -> K (.bool y) h''):=λy e N' hN' h' e' hc=>by
  subst e; subst e';exact ⟨⟨F,M,N'⟩,zbl hc hd,λhw'=>k _ (by omega) hw'⟩
 have last:(m.kind=4 -> m.ns=[]) -> (m.kind=8 -> m.es=[]) -> (m.kind=9 -> m.lo=0∧m.hi=0) ->
   (ld true 8 (.pointer (some ⟨b,0,none⟩)) λt41=>cF 63 #[t41] (λt42=>cF 113 #[t42] (λt43 h=>h.wf -> ∃ h',h.wk h'∧(h'.wf -> K t43 h')) E) E) ⟨F,M1,b+1⟩:=by
  intro g4 g8 g9;refine zb6 (vs:=[.int .u8 m.kind,.int .u32 m.id,.int .u32 m.tm,.slice na m.ns.length nc,.slice fa m.fs.length fc,.int .i64 m.lo,.int .i64 m.hi,.slice ea m.es.length ec]) ?_ hx;refine yic hr0 (λcs' N2 hr2 hN2 hw2=>?_);rw [ycm hk] at hr2;refine yi9 hr2 (zgp hL) (zj6 _) hnl hfl hel hee (λN3 hN3 hw3=>?_);refine fin _ ?_ _ (by omega) _ rfl;unfold zbp;rw [decide_eq_false (λe=>e.2 (g4 e.1)),decide_eq_false (λe=>e.2 (g8 e.1)),decide_eq_false (λe=>e.2.elim (λq=>q (g9 e.1).1) (λq=>q (g9 e.1).2))]
  rfl
 try simp only [sS]
 refine ldM (v:=.int .u8 m.kind) ?_ hx;refine zat (λhlt=>absurd hlt (by omega)) (λ_=>?_);try simp only [sS]
 refine ldM (v:=.int .u8 m.kind) ?_ hx;refine zbw (λhlt=>absurd hlt (by omega)) (λ_=>?_);try simp only [sS]
 refine ldM (v:=.int .u8 m.kind) ?_ hx;refine zau (λh4=>?_) (λh4=>?_)
 ·try simp only [sS]
  refine ldM (v:=.slice na m.ns.length nc) ?_ hx;try simp only [sS]
  refine zbw (λhg=>?_) (λhg=>?_)
  ·try simp only [sS]
   exact fin _ (by unfold zbp; rw [decide_eq_true ⟨h4,zft.2 (by omega)⟩]; rfl) _ (Nat.le_refl _) _ rfl
  ·try simp only [sS]
   refine ldM (v:=.int .u8 m.kind) ?_ hx;refine zbj (by omega) ?_;try simp only [sS]
   refine ldM (v:=.int .u8 m.kind) ?_ hx;refine zbj (by omega) ?_;try simp only [sS]
   exact last (λ_=>Classical.byContradiction λe=>hg (by have := zft.1 e; omega)) (λe=>absurd e (by omega)) (λe=>absurd e (by omega))
 ·try simp only [sS]
  refine ldM (v:=.int .u8 m.kind) ?_ hx;refine zau (λh8=>?_) (λh8=>?_)
  ·try simp only [sS]
   refine ldM (v:=.slice ea m.es.length ec) ?_ hx;try simp only [sS]
   refine zbw (λhg=>?_) (λhg=>?_)
   ·try simp only [sS]
    exact fin _ (by unfold zbp; rw [decide_eq_true (show m.kind=8∧m.es≠[] from ⟨h8,zft.2 (by omega)⟩)]; simp) _ (Nat.le_refl _) _ rfl
   ·try simp only [sS]
    refine ldM (v:=.int .u8 m.kind) ?_ hx;refine zbj (by omega) ?_;try simp only [sS]
    exact last (λe=>absurd e (by omega)) (λ_=>Classical.byContradiction λe=>hg (by have := zft.1 e; omega)) (λe=>absurd e (by omega))
  ·try simp only [sS]
   refine ldM (v:=.int .u8 m.kind) ?_ hx;refine zau (λh9=>?_) (λh9=>?_)
   ·try simp only [sS]
    refine ldM (v:=.int .i64 m.lo) ?_ hx;refine zio (λhlo=>?_) (λhlo=>?_)
    ·try simp only [sS]
     exact fin _ (by unfold zbp; rw [decide_eq_true (show m.kind=9∧(m.lo≠0∨m.hi≠0) from ⟨h9,.inl hlo⟩)]; simp) _ (Nat.le_refl _) _ rfl
    ·try simp only [sS]
     refine ldM (v:=.int .i64 m.hi) ?_ hx;refine zio (λhhi=>?_) (λhhi=>?_)
     ·try simp only [sS]
      exact fin _ (by unfold zbp; rw [decide_eq_true (show m.kind=9∧(m.lo≠0∨m.hi≠0) from ⟨h9,.inr hhi⟩)]; simp) _ (Nat.le_refl _) _ rfl
     ·try simp only [sS]
      exact last (λe=>absurd e h4) (λe=>absurd e h8) (λ_=>⟨by omega,by omega⟩)
   ·try simp only [sS]
    exact last (λe=>absurd e h4) (λe=>absurd e h8) (λe=>absurd e h9)
theorem zr5 {cs:List Value} {m:zaj} (hr:zfz F cs m) (hL:m.lens) (ht:m.typ) (hk:1≤m.kind∧m.kind≤11) (hnl:m.ns.length≤1000000) (hfl:m.fs.length≤1000000) (hel:m.es.length≤1000000) (hee:∀ e∈m.es,e.2.length≤1000000) (hE:(zah (zav m)).length≤100000000)
  (k0:¬ (zbp m=true∧(zah (zav m)).length≤60000) -> ∀ e N',N≤N' -> (Hp.mk F M N').wf -> K (.tuple #[.slice none 0 0,.int .i64 e]) ⟨F,M,N'⟩)
  (k2:zbp m=true -> (zah (zav m)).length≤60000 -> ∀ v M' N',own M' N 5 1 v (zbe m).length (bts (zbe m)) -> (∀ q,q<N -> M' q=M q) -> N≤N' -> za5 M' N' -> (Hp.mk F M' N').wf -> K (.tuple #[v,.int .i64 0]) ⟨F,M',N'⟩) :
  cF 25 #[.agg cs.toArray] K E ⟨F,M,N⟩:=by
 refine za4 za8 Tryz.func25 (by kernel_rfl) (t25 _ E _) (λhw=>?_);have hm:za5 M N:=hw.m;have hr0:=hr;obtain ⟨na,nc,fv,ev,rfl,hn,hf,he⟩:=hr;obtain ⟨fa,fc,rfl⟩:=hf.form;obtain ⟨ea,ec,rfl⟩:=he.form;refine zap (cs:=[.int .u8 m.kind,.int .u32 m.id,.int .u32 m.tm,.slice na m.ns.length nc,.slice fa m.fs.length fc,.int .i64 m.lo,.int .i64 m.hi,.slice ea m.es.length ec]) (λb hb=>?_);have hx:=za0 M b (some (.cells 49 [.int .u8 m.kind,.int .u32 m.id,.int .u32 m.tm,.slice na m.ns.length nc,.slice fa m.fs.length fc,.int .i64 m.lo,.int .i64 m.hi,.slice ea m.es.length ec] 8));have hM1:∀ q,q<N -> upd M b (some (.cells 49 [.int .u8 m.kind,.int .u32 m.id,.int .u32 m.tm,.slice na m.ns.length nc,.slice fa m.fs.length fc,.int .i64 m.lo,.int .i64 m.hi,.slice ea m.es.length ec] 8)) q=M q:=λq hq=>za3 _ _ (by omega);have hm1:=hm.new hb (some (.cells 49 [.int .u8 m.kind,.int .u32 m.id,.int .u32 m.tm,.slice na m.ns.length nc,.slice fa m.fs.length fc,.int .i64 m.lo,.int .i64 m.hi,.slice ea m.es.length ec] 8));have hd:zex M (upd M b (some (.cells 49 [.int .u8 m.kind,.int .u32 m.id,.int .u32 m.tm,.slice na m.ns.length nc,.slice fa m.fs.length fc,.int .i64 m.lo,.int .i64 m.hi,.slice ea m.es.length ec] 8))):=zb5 (zbb _) (hm _ hb);simp only [show ([.int .u8 m.kind,.int .u32 m.id,.int .u32 m.tm,.slice na m.ns.length nc,.slice fa m.fs.length fc,.int .i64 m.lo,.int .i64 m.hi,.slice ea m.es.length ec]:List Value).length=8 from rfl];generalize upd M b _=M1 at *;refine zb6 (vs:=[.int .u8 m.kind,.int .u32 m.id,.int .u32 m.tm,.slice na m.ns.length nc,.slice fa m.fs.length fc,.int .i64 m.lo,.int .i64 m.hi,.slice ea m.es.length ec]) ?_ hx;refine ynm hr0 hL hk (by omega) (by omega) (by omega) (λe h=>by have := hee e h; omega) (λN1 hN1 hw1=>?_);cases hs:zbp m
 ·try simp only [sS]
  exact λhc=>⟨⟨F,M,N1⟩,zbl hc hd,λhw'=>k0 (λe=>by rw [hs] at e; simp at e) _ _ (by omega) hw'⟩
 try simp only [sS]
 refine zb6 (vs:=[.int .u8 m.kind,.int .u32 m.id,.int .u32 m.tm,.slice na m.ns.length nc,.slice fa m.fs.length fc,.int .i64 m.lo,.int .i64 m.hi,.slice ea m.es.length ec]) ?_ hx;refine yic hr0 (λcs' N2 hr2 hN2 hw2=>?_);rw [ycm hk] at hr2
 have hsr:zbn (zav m)=true:=by
  unfold zbp at hs; simp only [Bool.and_eq_true] at hs; exact hs.2.2.2
 refine yhp hr2 (zgp hL) (znz ht) (zj6 _) hnl hfl hel hee hE (λhno=>by rw [hsr] at hno; simp at hno) (λ_ hgt N3 hN3 hw3=>?_) (λ_ hle v M3 N3 ho hM3 hN3 hm3 hw3=>?_)
 ·try simp only [sS]
  refine zim (by omega) (zax ?_);exact λhc=>⟨⟨F,M,N3⟩,zbl hc hd,λhw'=>k0 (λe=>by have := e.2; omega) _ _ (by omega) hw'⟩
 ·have ho2:=ho;obtain ⟨va,vc,rfl,_⟩:=ho2.form;try simp only [sS]
  refine zc3 rfl (zaq ?_);try simp only [sS]
  refine ldM (v:=.int .u8 m.kind) ?_ ((hM3 b (by omega)).trans hx);refine zcx (cs:=[.int .u8 m.kind]) (by kernel_rfl) (λb2 hb2=>?_);have P:own (upd M3 b2 (some (.cells 5 [.int .u8 m.kind] 1))) b2 5 1 (.slice (some ⟨b2,0,none⟩) 1 1) 1 (bts [m.kind]):=ybm (Nat.le_refl _);have hM4:∀ q,q<N3 -> upd M3 b2 (some (.cells 5 [.int .u8 m.kind] 1)) q=M3 q:=λq hq=>za3 _ _ (by omega);have hm4:=hm3.new hb2 (some (.cells 5 [.int .u8 m.kind] 1));have ho4:=ho.keep (λq hq=>hM4 q (ho.lt hm3 q hq)) (Nat.le_refl _);simp only [List.length_cons,List.length_nil,Nat.zero_add];generalize upd M3 b2 _=M4 at *;refine P.app hm4 (by omega) ho4.rd (zmy _) (by omega) (by unfold maxLen; omega) (λv5 M5 N5 h5 hf5 hN5 hm5=>?_);have e5:bts [m.kind]++bts (zah (zav m))=bts (zbe m):=by simp [bts,zbe]
  have e6:1+(zah (zav m)).length=(zbe m).length:=by simp [zbe]; omega
  rw [e5,e6] at h5;exact λhc=>⟨_,za1 hc,λhw'=>k2 hs hle v5 M5 N5 (h5.keep (λ_ _=>rfl) (by omega)) (λq hq=>((hf5 q (by simp [Value.ownBlock]; omega) (by omega)).1).trans ((hM4 q (by omega)).trans ((hM3 q (by omega)).trans (hM1 q hq)))) (by omega) hm5 hw'⟩
theorem zqu {cs:List Value} {m:zaj} (hr:zfz F cs m) (hL:m.lens) (ht:m.typ) (hk:1≤m.kind∧m.kind≤11) (hnl:m.ns.length≤1000000) (hfl:m.fs.length≤1000000) (hel:m.es.length≤1000000) (hee:∀ e∈m.es,e.2.length≤1000000) (hE:(zah (zav m)).length≤100000000)
  (k0:¬ (zbp m=true∧(zah (zav m)).length≤60000) -> ∀ N',N≤N' -> (Hp.mk F M N').wf -> K (.slice none 0 0) ⟨F,M,N'⟩)
  (k2:zbp m=true -> (zah (zav m)).length≤60000 -> ∀ v F' N',sF F' 1 v (zbe m).length (bts (zbe m)) -> (∀ q,v.ownBlock=some q -> q<N') -> za7 F F' -> N≤N' -> (Hp.mk F' M N').wf -> K v ⟨F',M,N'⟩) :
  cF 17 #[.agg cs.toArray] K E ⟨F,M,N⟩:=by
 refine za4 za8 Tryz.func17 (by kernel_rfl) (t17 _ E _) (λhw=>?_);have hm:za5 M N:=hw.m;have hr0:=hr;obtain ⟨na,nc,fv,ev,rfl,hn,hf,he⟩:=hr;obtain ⟨fa,fc,rfl⟩:=hf.form;obtain ⟨ea,ec,rfl⟩:=he.form;refine zap (cs:=[.int .u8 m.kind,.int .u32 m.id,.int .u32 m.tm,.slice na m.ns.length nc,.slice fa m.fs.length fc,.int .i64 m.lo,.int .i64 m.hi,.slice ea m.es.length ec]) (λb hb=>?_);have hx:=za0 M b (some (.cells 49 [.int .u8 m.kind,.int .u32 m.id,.int .u32 m.tm,.slice na m.ns.length nc,.slice fa m.fs.length fc,.int .i64 m.lo,.int .i64 m.hi,.slice ea m.es.length ec] 8));have hM1:∀ q,q<N -> upd M b (some (.cells 49 [.int .u8 m.kind,.int .u32 m.id,.int .u32 m.tm,.slice na m.ns.length nc,.slice fa m.fs.length fc,.int .i64 m.lo,.int .i64 m.hi,.slice ea m.es.length ec] 8)) q=M q:=λq hq=>za3 _ _ (by omega);have hm1:=hm.new hb (some (.cells 49 [.int .u8 m.kind,.int .u32 m.id,.int .u32 m.tm,.slice na m.ns.length nc,.slice fa m.fs.length fc,.int .i64 m.lo,.int .i64 m.hi,.slice ea m.es.length ec] 8));have hd:zex M (upd M b (some (.cells 49 [.int .u8 m.kind,.int .u32 m.id,.int .u32 m.tm,.slice na m.ns.length nc,.slice fa m.fs.length fc,.int .i64 m.lo,.int .i64 m.hi,.slice ea m.es.length ec] 8))):=zb5 (zbb _) (hm _ hb);simp only [show ([.int .u8 m.kind,.int .u32 m.id,.int .u32 m.tm,.slice na m.ns.length nc,.slice fa m.fs.length fc,.int .i64 m.lo,.int .i64 m.hi,.slice ea m.es.length ec]:List Value).length=8 from rfl];generalize upd M b _=M1 at *;refine zb6 (vs:=[.int .u8 m.kind,.int .u32 m.id,.int .u32 m.tm,.slice na m.ns.length nc,.slice fa m.fs.length fc,.int .i64 m.lo,.int .i64 m.hi,.slice ea m.es.length ec]) ?_ hx;refine zr5 hr0 hL ht hk hnl hfl hel hee hE (λhno e N1 hN1 hw1=>?_) (λhs hle v M1' N1 ho hM hN1 hm1' hw1=>?_)
 ·try simp only [sS]
  exact λhc=>⟨⟨F,M,N1⟩,zbl hc hd,λhw'=>k0 hno _ (by omega) hw'⟩
 ·try simp only [sS]
  exact λhc=>⟨_,zdw hm (λq hq=>(hM q (by omega)).trans (hM1 q hq)) hc,λhw'=>k2 hs hle v _ N1 (ho.rd.frz hc (λq hq=>.inl (by have := (ho.ge q hq).1; omega))) (λq hq=>ho.lt hm1' q hq) (zb9 hc) (by omega) hw'⟩
theorem ziv (l:List Int):(zco l).length=1+l.length:=by unfold zco; rw [List.length_append,za9,ydh]
theorem zqd:(zc8 []).length=4:=by simp [zc8,za9]
theorem zmb:(zc9 []).length=4:=by simp [zc9,za9]
theorem ya6 {m:zaj} (hs:zbp m=true) (hl:(zah (zav m)).length≤60000):(zah (rPr m)).length≤2000000∧(zah (rTk m)).length≤2000000∧m.ns.length≤100000:=by
 have hr:zbn (zav m)=true:=by
  unfold zbp at hs; simp only [Bool.and_eq_true] at hs; exact hs.2.2.2
 rw [zcw] at hl;rw [zcw,zcw];simp only [rPr,rTk,if_true,show ¬ ((7:Int)=1) by omega,show ¬ ((7:Int)=2) by omega,if_false];unfold zbn at hr
 by_cases e:(zav m).kind=1
 ·rw [if_pos e] at hr hl;simp only [Bool.and_eq_true,decide_eq_true_eq] at hr;have hl2:5+((zco m.ns).length+(zc8 m.fs).length)≤60000:=hl;rw [show m.es=[] from hr.1.1.2.2.2,zmb];have := ziv m.ns;omega
 rw [if_neg e] at hr hl
 by_cases e:(zav m).kind=2
 ·rw [if_pos e] at hr hl;simp only [Bool.and_eq_true,decide_eq_true_eq] at hr;have hl2:5+(4+(zco m.ns).length)≤60000:=hl;rw [show m.es=[] from hr.1.2.2.1,show m.fs=[] from hr.1.2.2.2,zmb,zqd];have := ziv m.ns;omega
 rw [if_neg e] at hr hl
 by_cases e:(zav m).kind=3∨(zav m).kind=4∨(zav m).kind=5
 ·rw [if_pos e] at hr;simp only [decide_eq_true_eq] at hr;rw [show m.es=[] from hr.2.2.2.1,show m.fs=[] from hr.2.2.2.2.1,show m.ns=[] from hr.2.2.2.2.2,ziv,zmb,zqd]
  simp
 rw [if_neg e] at hr
 by_cases e:(zav m).kind=7
 ·rw [if_pos e] at hr hl;simp only [Bool.and_eq_true,decide_eq_true_eq] at hr;have hl2:5+(8+(zc9 m.es).length)≤60000:=hl;rw [show m.ns=[] from hr.1.2.1,show m.fs=[] from hr.1.2.2.1,ziv,zqd];simp only [List.length_nil];omega
 rw [if_neg e] at hr;cases hr
section
variable {B nb lg pd:Nat} {v:Value} {room:Int} {p g mb:Nat} {hv dv:Value} {rows:List (List Value)} {l:List Dm} {me:Int} {ov:Value} {s:NS}
theorem znr {frm:Int} {bv:Value} {m:zaj} {s':NS} {ans:List zaj} (H:zao F M B nb lg pd v s.bs s.ls room p g mb hv dv rows l s.h s.bt s.tk me ov) (hB:B≤N) (hr0:0≤room) (hroom:room≤2000000) (o:okH l 5000 200 s.h) (hdl:l.length≤1000)
  (hv0:sF F 1 bv (zbe m).length (bts (zbe m))) (ho:∀ q,bv.ownBlock=some q -> q<N) (hs:zbp m=true) (ht:m.typ) (hl:(zah (zav m)).length≤60000) (hk:1≤m.kind∧m.kind≤11) (h8:m.kind≠8)
  (hfb:(zal s.bt m.id).fs.length≤140737488351232) (htm:0≤(zal s.bt m.id).tm∧(zal s.bt m.id).tm<4294967296) (es:zbi l room s m=(s',ans))
  (k:∀ v' hv' F' M' N' rows' ov',za7 F F' -> zao F' M' B nb lg pd v' s'.bs s'.ls room p g mb hv' dv rows' l s'.h s'.bt s'.tk me ov' -> zk5 F' ov' (ans.map λa=>(me,frm,zbe a)) ->
   (∀ q,¬ nft nb lg pd p g mb v hv q -> q<N -> M' q=M q∧¬ nft nb lg pd p g mb v' hv' q) -> N≤N' -> za5 M' N' -> (Hp.mk F' M' N').wf -> K (.tuple #[ov',.int .u16 0]) ⟨F',M',N'⟩) :
  cF 16 #[.pointer (some ⟨nb,0,none⟩),.int .i64 frm,bv] K E ⟨F,M,N⟩:=by
 obtain ⟨g1,g2,g3⟩:=ya6 hs hl;refine zxn H hB hr0 hroom o hdl hv0.sR ho (ydn (by omega)) (by simp [zbe]; omega) (ybr m) (yak hs ht hl) (λe=>absurd e h8) g1 g2 (by omega) hfb htm (λs2 ans2 es2=>?_);rw [es] at es2;simp only [Prod.mk.injEq] at es2;obtain ⟨rfl,rfl⟩:=es2;exact k
theorem zn3 {ms:List (Int×Int×List Int)} {K:Value -> Value -> Value -> Value -> zae} {i:Nat} {x:Int} {rest:List Int} (O:zk5 F ov ms) (hi:i<ms.length) (he:(ms[i]'hi).2.2=x::rest) (k:∀ a b c d,K a b c d (.int .u8 x) ⟨F,M,N⟩) :
  (pv (iaV none 3 ov (.int .i64 (i:Nat))) λa=>pv (faV 2 a) λb=>ld false 1 b λc=>pv (iaV none 1 c (.int .i64 0)) λd=>ld false 1 d (K a b c d)) ⟨F,M,N⟩:=by
 obtain ⟨rs,h1,h2⟩:=O;refine zeb h1 h2 (by decide) hi (off:=2) (by decide) (λp q r y hR _ hy=>?_);obtain ⟨u,rfl,hu⟩:=hR;have hy':y=u:=by simpa using hy.symm
 subst hy';have h0:0<(ms[i]'hi).2.2.length:=by rw [he]; simp
 refine zyq (k:=.u8) (l:=(ms[i]'hi).2.2) hu (i:=0) h0 (λpp=>?_);have e:((ms[i]'hi).2.2)[0]'h0=x:=by simp only [he,List.getElem_cons_zero]
 rw [e];exact k _ _ _ _
theorem yc5 {ms:List (Int×Int×List Int)} {K:Value -> Value -> zae} {i:Nat} (O:zk5 F ov ms) (hi:i<ms.length) (k:∀ a b,K a b (.int .i64 (ms[i]'hi).2.1) ⟨F,M,N⟩) :
  (pv (iaV none 3 ov (.int .i64 (i:Nat))) λa=>pv (faV 1 a) λb=>ld false 1 b (K a b)) ⟨F,M,N⟩:=by
 obtain ⟨rs,h1,h2⟩:=O;refine zeb h1 h2 (by decide) hi (off:=1) (by decide) (λp q r y hR _ hy=>?_);obtain ⟨u,rfl,hu⟩:=hR;have hy':y=.int .i64 (ms[i]'hi).2.1:=by simpa using hy.symm
 subst hy';exact k _ _
theorem zk5.len {ms:List (Int×Int×List Int)} (O:zk5 F ov ms) {K:zae} {h:Hp} (k:K (.int .i64 (ms.length:Nat)) h):pv (zab ov) K h:=by
 obtain ⟨rs,h1,_⟩:=O;exact zb7 h1 k
end
def zg1:zaj:=⟨1,7,0,[0,1],[([1],4)],0,0,[]⟩
def zkv:zaj:=⟨4,7,3,[],[],0,0,[]⟩
def l18:List Dm:=[(5,[])]
def b18:Bts:=[(7,⟨1,0,[0,1],[([1],4)]⟩)]
def s18:NS:=⟨[],0,[],[],0⟩
def zfh:NS:=⟨zbd (zah (rPr zg1)),((zbd (zah (rPr zg1))).length:Nat),[],b18,0⟩
def ylq:NS:=NS.ap l18 zfh (rCo 7 3)
theorem yw8:zbi l18 9000 s18 zg1=(zfh,[zcb 2 7]):=by kernel_rfl
theorem ywk:zbi l18 9000 zfh zg1=(zfh,[zcb 2 7]):=by kernel_rfl
theorem yt7:zbi l18 9000 zfh zkv=(ylq,[zcb 6 7]):=by kernel_rfl
theorem yuh:zal ylq.bt 7=⟨2,3,[],[]⟩:=by kernel_rfl
theorem yqq:zmd [rPr zg1]=zfh.bs:=by simp [zmd,zfh]
theorem yu2:zcn l18 [rPr zg1] ([],[],0)=([],b18,0):=by kernel_rfl
theorem yob:zbp zg1=true∧(zah (zav zg1)).length≤60000:=⟨by kernel_rfl,by decide +kernel⟩
theorem yox:zbp zkv=true∧(zah (zav zkv)).length≤60000:=⟨by kernel_rfl,by decide +kernel⟩
theorem ytb:(rPr zg1).laid:=⟨by kernel_rfl,⟨by decide,by decide,by simp [rPr,zg1,zet],by simp [rPr]⟩,by decide,by decide,by decide +kernel⟩
theorem yvj:zaj.ok (rPr zg1):=⟨by decide,by decide,by decide,by decide,by decide,by simp [rPr]⟩
theorem yl7:zg1.typ:=⟨by decide,by decide,by simp [zg1,zet],by simp [zg1]⟩
theorem ypn:zkv.typ:=⟨by decide,by decide,by simp [zkv],by simp [zkv]⟩
theorem ywa:zg1.lens:=⟨by decide,by decide,by decide,by simp [zg1]⟩
theorem yu3:zkv.lens:=⟨by decide,by decide,by decide,by simp [zkv]⟩
theorem yis {ws:List Int} (h:zyv b18 ws):ws=[7]:=by
 refine yh6 h.1 (List.pairwise_singleton _ _) λx=>?_;rw [h.2,List.mem_singleton,zff]
 constructor
 ·rintro ⟨⟨y,hy,e⟩,_⟩;rw [← e]
  simp [b18] at hy
  rw [hy]
 ·rintro rfl;exact ⟨⟨_,List.mem_cons_self,rfl⟩,by decide⟩
theorem yrm:[7].flatMap (zlr 0 zfh.bt)=[(0,-1,zbe (zcb 7 7)),(0,1,zbe (zcb 7 7))]:=by kernel_rfl
theorem yv0 (id:Int):(zal zfh.bt id).ns.length≤1000:=by
 by_cases h:id=7
 ·subst h; decide
 ·rw [zy5 (λx hx e=>by simp [zfh,b18] at hx; rw [hx] at e; exact h e.symm)]
  simp [Bt.no]
theorem zxu (hE:E [] zcu) (k:∀ F' N',za7 F F' -> N≤N' -> (Hp.mk F' M N').wf -> K (.bool true) ⟨F',M,N'⟩):cF 9 #[] K E ⟨F,M,N⟩:=by
 refine za4 za8 Tryz.func9 (by kernel_rfl) (t9 _ E) (λhw=>?_);have hm:za5 M N:=hw.m;refine ybq (by omega) (by omega) (λd M1 hd1 P1 hM1 hm1 hw1=>?_);refine zgc ?_;try simp only [sS]
 refine zaa (v:=.agg #[.int .i64 5,.slice none 0 0]) (by kernel_rfl) ?_;refine zcx (cs:=[.int .i64 5,.slice none 0 0]) (by kernel_rfl) (λb2 hb2=>?_);refine ziz (λhc=>⟨_,zdw hm1 (λq hq=>za3 _ _ (by omega)) hc,?_⟩);have hs0:=zb9 (N:=d+1) hc;have f2:=zhq (F:=F) (N:=d+1) (b:=b2) (by omega) (za0 M1 b2 (some (.cells 108 [.int .i64 5,.slice none 0 0] [Value.int .i64 5,.slice none 0 0].length)));generalize zd3 F _ (d+1)=F0 at *;clear hc;have hdd:zi6 F0 [.int .i64 5,.slice none 0 0] (5,[]):=⟨_,rfl,sF.nil _ _ _,by decide⟩;have hd:zeh F0 (.slice (some ⟨b2,0,none⟩) 1 1) l18:=⟨[[.int .i64 5,.slice none 0 0]],znd f2 rfl (by decide),zca (zag.nil (zi6 F0) 2) hdd.one hdd⟩;refine zni (rs:=[]) (v:=.slice none 0 0) (lasts:=0) (room:=9000) (B:=d+1) P1 (by omega) hd (by decide) (λr hr=>absurd hr List.not_mem_nil) (by simp) (λi hi=>absurd hi (by simp)) (λh=>absurd h (by decide)) (λ_ nb lg p g mb hv dv rows F2 M2 N2 hF2 H2 fr2 hN2 hm2 hw2=>?_);have H2':zao F2 M2 (d+1) nb lg d (.slice none 0 0) s18.bs s18.ls 9000 p g mb hv dv rows l18 s18.h s18.bt s18.tk 0 (.slice none 0 0):=H2;clear H2;have hl2:∀ q,q<d -> M2 q=M1 q∧¬ nft nb lg d p g mb (.slice none 0 0) hv q:=λq hq=>fr2 q (by omega) (by simp [Value.ownBlock]) (by omega);try simp only [sS]
 refine zc3 rfl ?_;try simp only [sS]
 refine zgc ?_;try simp only [sS]
 refine zhu H2' (λhw3=>?_);refine zgc ?_;try simp only [sS]
 refine zcx (cs:=[.int .i64 0,.int .i64 1]) (by kernel_rfl) (λb5 hb5=>?_);refine zcx (cs:=[.int .i64 1]) (by kernel_rfl) (λb6 hb6=>?_);refine zaa (v:=.agg #[.slice (some ⟨b6,0,none⟩) 1 1,.int .i64 4]) (by kernel_rfl) ?_;refine zcx (cs:=[.slice (some ⟨b6,0,none⟩) 1 1,.int .i64 4]) (by kernel_rfl) (λb8 hb8=>?_);refine zaa (v:=.agg #[.int .u8 1,.int .u32 7,.int .u32 0,.slice (some ⟨b5,0,none⟩) 2 2,.slice (some ⟨b8,0,none⟩) 1 1,.int .i64 0,.int .i64 0,.slice none 0 0]) (by kernel_rfl) ?_;generalize hMx:upd (upd (upd M2 b5 _) b6 _) b8 _=Mx;have x5:Mx b5=some (.cells 3 [.int .i64 0,.int .i64 1] 2):=by rw [← hMx]; exact (za3 _ _ (by omega)).trans ((za3 _ _ (by omega)).trans (za0 _ _ _))
 have x6:Mx b6=some (.cells 3 [.int .i64 1] 1):=by rw [← hMx]; exact (za3 _ _ (by omega)).trans (za0 _ _ _)
 have x8:Mx b8=some (.cells 110 [.slice (some ⟨b6,0,none⟩) 1 1,.int .i64 4] 2):=by rw [← hMx]; exact za0 _ _ _
 have hMx1:∀ q,q<N2 -> Mx q=M2 q:=λq hq=>by rw [← hMx]; exact (za3 _ _ (by omega)).trans ((za3 _ _ (by omega)).trans (za3 _ _ (by omega)))
 clear hMx;refine ziz (λhc=>⟨_,zdw hm2 hMx1 hc,?_⟩);have hs2:=zb9 (N:=N2) hc;have y5:=zhq (F:=F2) (N:=N2) (b:=b5) (by omega) x5;have y6:=zhq (F:=F2) (N:=N2) (b:=b6) (by omega) x6;have y8:=zhq (F:=F2) (N:=N2) (b:=b8) (by omega) x8;generalize zd3 F2 Mx N2=F3 at *;clear hc x5 x6 x8 hMx1 Mx
 have hr1:zfz F3 [.int .u8 1,.int .u32 7,.int .u32 0,.slice (some ⟨b5,0,none⟩) 2 2,.slice (some ⟨b8,0,none⟩) 1 1,.int .i64 0,.int .i64 0,.slice none 0 0] zg1 :=
  ⟨_,_,_,_,rfl,znd y5 rfl (by decide),yk7 y6 y8,zc6.nil⟩
 refine zr5 hr1 ywa yl7 (by decide) (by decide) (by decide) (by decide) (by simp [zg1]) (by have := yob.2; omega) (λhno=>absurd yob hno) (λhs hle bv M4 N4 ho4 hM4 hN4 hm4 hw4=>?_);try simp only [sS]
 refine ziz (λhc=>⟨_,zdw (hm2.up (show N2≤b8+1 by omega)) hM4 hc,?_⟩);have hs4:=zb9 (N:=b8+1) hc;have hbv:sF (zd3 F3 M4 (b8+1)) 1 bv (zbe zg1).length (bts (zbe zg1)):=ho4.rd.frz hc (λq hq=>.inl (by have := (ho4.ge q hq).1; omega));have hbo:=ho4.lt hm4;generalize zd3 F3 M4 (b8+1)=F4 at *;clear hc ho4;refine znr (s:=s18) (s':=zfh) (ans:=[zcb 2 7]) (H2'.keepN (hs2.trans hs4) (λ_ _=>rfl)) (by omega) (by omega) (by omega) (okH.nil _ _ _) (by decide) hbv hbo hs yl7 hle (by decide) (by decide) (by decide) (by decide) yw8 (λv6 hv6 F6 M6 N6 rows6 ov6 hF6 H6 O6 fr6 hN6 hm6 hw6=>?_)
 have hl6:∀ q,q<d -> M6 q=M1 q∧¬ nft nb lg d p g mb v6 hv6 q:=λq hq=>by
  have g:=hl2 q hq;have f:=fr6 q g.2 (by omega);exact ⟨f.1.trans g.1,f.2⟩
 try simp only [sS]
 have hlen:(zfh.bs.length:Int)=zfh.ls:=rfl;refine ylr (keep:=0) (n:=zfh.bs.length) H6.dk (by rw [← hlen]; omega) (by rw [← hlen]; omega) (by rw [← hlen]; omega) (λv7 M7 P7 hv7 hM7 hm7 hw7=>?_);rw [List.take_length,← yqq] at P7;have hdF:za7 F0 F6:=hF2.trans (hs2.trans (hs4.trans hF6))
 refine zni (rs:=[rPr zg1]) (room:=9000) (B:=d+1) P7 (by omega) (hd.mono hdF) (by decide) (λr hr=>by rw [List.mem_singleton.1 hr]; exact ytb) (by simp) (λi hi=>by
  have:i=0:=by simpa using hi
  subst this;exact ⟨okH.nil _ _ _,by simp [zcn,zal,Bt.no],yvj⟩) (λh=>absurd h (by decide)) (λ_ nb2 lg2 p2 g2 mb2 hv8 dv8 rows8 F8 M8 N8 hF8 H8 fr8 hN8 hm8 hw8=>?_)
 rw [yu2,yqq] at H8;have H8':zao F8 M8 (d+1) nb2 lg2 d v7 zfh.bs zfh.ls 9000 p2 g2 mb2 hv8 dv8 rows8 l18 zfh.h zfh.bt zfh.tk 0 (.slice none 0 0):=H8;clear H8
 have hl8:∀ q,q<d -> M8 q=M1 q∧¬ nft nb2 lg2 d p2 g2 mb2 v7 hv8 q:=λq hq=>by
  have g:=hl6 q hq;have f:=fr8 q (by omega) (by rw [hv7]; exact λe=>g.2 (.inr (.inr (.inr (.inl e))))) (by omega);exact ⟨f.1.trans ((hM7 q (by omega)).trans g.1),f.2⟩
 try simp only [sS]
 refine zc3 rfl ?_;try simp only [sS]
 refine zgc ?_;try simp only [sS]
 refine zhu H8' (λhw9=>?_);refine zgc ?_;try simp only [sS]
 have hF48:=hF6.trans hF8;refine znr (s:=zfh) (s':=zfh) (ans:=[zcb 2 7]) H8' (by omega) (by omega) (by omega) (okH.nil _ _ _) (by decide) (hbv.mono hF48) (λq hq=>by have := hbo q hq; omega) hs yl7 hle (by decide) (by decide) (by decide) (by decide) ywk (λv10 hv10 F10 M10 N10 rows10 ov10 hF10 H10 O10 fr10 hN10 hm10 hw10=>?_)
 have hl10:∀ q,q<d -> M10 q=M1 q∧¬ nft nb2 lg2 d p2 g2 mb2 v10 hv10 q:=λq hq=>by
  have g:=hl8 q hq;have f:=fr10 q g.2 (by omega);exact ⟨f.1.trans g.1,f.2⟩
 try simp only [sS]
 refine zaa (v:=.agg #[.int .u8 4,.int .u32 7,.int .u32 3,.slice none 0 0,.slice none 0 0,.int .i64 0,.int .i64 0,.slice none 0 0]) (by kernel_rfl) ?_
 have hr2:zfz F10 [.int .u8 4,.int .u32 7,.int .u32 3,.slice none 0 0,.slice none 0 0,.int .i64 0,.int .i64 0,.slice none 0 0] zkv :=
  ⟨_,_,_,_,rfl,sF.nil _ _ _,⟨[],sF.nil _ _ _,zag.nil _ _⟩,zc6.nil⟩
 refine zr5 hr2 yu3 ypn (by decide) (by decide) (by decide) (by decide) (by simp [zkv]) (by have := yox.2; omega) (λhno=>absurd yox hno) (λhs2' hle2 cv M11 N11 ho11 hM11 hN11 hm11 hw11=>?_);try simp only [sS]
 refine ziz (λhc=>⟨_,zdw hm10 hM11 hc,?_⟩);have hs11:=zb9 (N:=N10) hc;have hcv:sF (zd3 F10 M11 N10) 1 cv (zbe zkv).length (bts (zbe zkv)):=ho11.rd.frz hc (λq hq=>.inl (by have := (ho11.ge q hq).1; omega));have hco:=ho11.lt hm11;generalize zd3 F10 M11 N10=F11 at *;clear hc ho11;refine ynq hE (H10.keepN hs11 (λ_ _=>rfl)) (by decide) (λx hx=>by simp [zfh,b18] at hx; rw [hx]; decide) yv0 (λws hws F12 M12 N12 ov12 hF12 H12 O12 fr12 hN12 hm12 hw12=>?_);rw [yis hws,yrm] at O12
 have hl12:∀ q,q<d -> M12 q=M1 q∧¬ nft nb2 lg2 d p2 g2 mb2 v10 hv10 q:=λq hq=>by
  have g:=hl10 q hq;exact ⟨(fr12 q g.2 (by omega)).trans g.1,g.2⟩
 refine znr (s:=zfh) (s':=ylq) (ans:=[zcb 6 7]) H12 (by omega) (by omega) (by omega) (okH.nil _ _ _) (by decide) (hcv.mono hF12) (λq hq=>by have := hco q hq; omega) hs2' ypn hle2 (by decide) (by decide) (by decide) (by decide) yt7 (λv13 hv13 F13 M13 N13 rows13 ov13 hF13 H13 O13 fr13 hN13 hm13 hw13=>?_)
 have hl13:∀ q,q<d -> M13 q=M1 q:=λq hq=>by
  have g:=hl12 q hq;exact (fr13 q g.2 (by omega)).1.trans g.1
 have O6':=O6.mono (hF8.trans (hF10.trans (hs11.trans (hF12.trans hF13))));have O10':=O10.mono (hs11.trans (hF12.trans hF13));have O12':=O12.mono hF13;try simp only [sS]
 refine zc3 rfl ?_;try simp only [sS]
 refine zc3 rfl ?_;try simp only [sS]
 refine zc3 rfl ?_;try simp only [sS]
 refine O6'.len ?_;refine zc3 rfl ?_;try simp only [sS]
 refine O10'.len ?_;refine zc3 rfl ?_;try simp only [sS]
 refine O13.len ?_;refine zc3 rfl ?_;try simp only [sS]
 refine O12'.len ?_;refine zc3 rfl ?_;try simp only [sS]
 refine yc5 (i:=1) O12' (by simp) (λ_ _=>?_);refine zc3 rfl ?_;try simp only [sS]
 refine zn3 (i:=0) (x:=2) O6' (by simp) rfl (λ_ _ _ _=>?_);refine zeg rfl ?_;try simp only [sS]
 refine zn3 (i:=0) (x:=2) O10' (by simp) rfl (λ_ _ _ _=>?_);refine zeg rfl ?_;try simp only [sS]
 refine zn3 (i:=0) (x:=6) O13 (by simp) rfl (λ_ _ _ _=>?_);refine zeg rfl ?_;try simp only [sS]
 refine yc5 (i:=0) O13 (by simp) (λ_ _=>?_);refine zeg rfl ?_;try simp only [sS]
 refine zhu H13 (λhw14=>?_);refine zpb H13.pt (λN15 hN15 hw15=>?_);rw [yuh];refine zaa (v:=.int .u32 3) rfl ?_;refine zeg rfl ?_;try simp only [sS]
 exact λhc=>⟨_,zbl hc (zmz hm (λq hq=>(hl13 q (by omega)).trans (hM1 q hq))),λhw'=>k F13 N15 (hs0.trans (hdF.trans (hF8.trans (hF10.trans (hs11.trans (hF12.trans hF13)))))) (by omega) hw'⟩
theorem yda {l:List Dm} (hl:zfe l) {f:Fc} (h:inF l f.1=true):zh6 f=true:=by
 have hlen:=zi0 h;have h4:=hl.2.1;unfold inF at h;rw [Bool.and_eq_true,List.all_eq_true] at h;unfold zh6;rw [decide_eq_true (by omega),Bool.true_and,List.all_eq_true];intro x hx;obtain ⟨i,hi,rfl⟩:=List.mem_iff_getElem.1 hx;have := h.2 i (by rw [List.mem_range]; omega);unfold inP at this;have h1:=of_decide_eq_true this
 have h2:(l.getD i (0,[])).1≤200:=by
  have hi':i<l.length:=by omega
  rw [List.getD_eq_getElem?_getD,List.getElem?_eq_getElem hi'];exact (hl.2.2 _ (List.getElem_mem hi')).2
 rw [List.getD_eq_getElem?_getD,List.getElem?_eq_getElem hi] at h1;simp only [Option.getD_some] at h1;rw [List.getD_eq_getElem?_getD] at h2;refine decide_eq_true ?_;rw [List.getD_eq_getElem?_getD] at h1;exact ⟨h1.1,by omega⟩
theorem ygd {l:List Dm} (hl:zfe l) {fs:List Fc} (h:zcc l fs=true):zen fs=true:=by
 obtain ⟨f1,f2⟩:=zfw h;unfold zen;rw [decide_eq_true f1,Bool.true_and,List.all_eq_true];exact λf hf=>yda hl (f2 f hf)
def mPr (id:Int) (fs:List Fc):zaj:=⟨1,id,0,[0],fs,0,0,[]⟩
theorem ydp {l:List Dm} (hl:zfe l) {fs:List Fc} (id:Int) (h:zcc l fs=true):zbp (mPr id fs)=true:=by
 have := ygd hl h
 simp [zbp,mPr,zav,zbv,zbn,zek,this]
theorem ydf {l:List Dm} (hl:zfe l) {fs:List Fc} (id:Int) (h:zcc l fs=true) (h80:fs.length≤80):(zah (zav (mPr id fs))).length≤5000:=by
 obtain ⟨f1,f2⟩:=zfw h;have h4:=hl.2.1
 have hfl:(zc8 fs).length≤4+80*25:=by
  unfold zc8;rw [List.length_append,za9];have h1:=zl7 zdk 25 fs (λf hf=>by rw [ziy]; have := zi0 (f2 f hf); omega);have h2:=Nat.mul_le_mul_right 25 h80;omega
 rw [zcw];simp only [mPr,zav,zbv,if_true,ziv,List.length_cons,List.length_nil];omega
theorem ymb (id:Int) (fs:List Fc):rPr (mPr id fs)=zav (mPr id fs):=by simp [rPr,mPr,zav,zbv]
theorem yo6 {id:Int} (hid:0≤id∧id<4294967296) {fs:List Fc} (h:∀ f∈fs,zet f.2):(mPr id fs).typ:=⟨hid,by simp [mPr],h,by simp [mPr]⟩
theorem zrv {l:List Dm} {ks:List (List Int)} {v:List Int} (h:∀ x∈v,zet x):∀ f∈zdy l ks v,zet f.2:=λf hf=>by
 rcases (zrq hf).2 with e | e
 ·rw [e]; unfold zet; omega
 ·exact h _ e
theorem ye3 {a b:Int} {es:List En} (h:∀ e∈es,∀ f∈e.2,inR a b f=true) (s:Int):(atT es s).filter (inR a b)=atT es s:=by
 rw [List.filter_eq_self];intro f hf;obtain ⟨e,he,hfe⟩:=yd3 hf;exact h e he f hfe
theorem yij {h es:List En} {a b:Int} (hs:zbx h) (he:zbx es) (hr:∀ e∈es,∀ f∈e.2,inR a b f=true) (hn:∀ e∈es,e.2≠[]):zce a b (zgy a b h es)=es:=by
 have hR:=zga (es:=es) (zia (a:=a) (b:=b) hs);refine yb0 (znk hR) he (λe hm=>(zk4 hm).elim λ_ q=>q.2.2) hn λs=>?_;unfold zgy;rw [ydv s hR,zm6 s (zia hs) he,List.filter_append,zza s hs,ye3 hr,List.filter_filter];rw [List.filter_eq_nil_iff.2 (λf _=>by simp [zfq]),List.nil_append]
theorem zqo {t:Int} {fs:List Fc} {a b:Int} {e:En} (h:e∈zce a b [(t,fs)]):e.1=t∧e.2.length≤fs.length∧(∀ f∈e.2,f∈fs∧inR a b f=true)∧e.2≠[]:=by
 obtain ⟨d,hd,rfl,hne⟩:=zk4 h;rw [List.mem_singleton.1 hd];rw [List.mem_singleton.1 hd] at hne;exact ⟨rfl,List.length_filter_le _ _,λf hf=>List.mem_filter.1 hf,hne⟩
theorem zrb {l:List Dm} {t:Int} {fs:List Fc} (ht:0<t) (hf:zcc l fs=true):okH l 5000 200 [(t,fs)]:=by
 obtain ⟨f1,f2⟩:=zfw hf;refine ⟨zcj.2 ⟨by simp,zm8⟩,?_,?_,by simp,?_⟩
 ·intro e he; rw [List.mem_singleton.1 he]; exact ht
 ·intro e he; rw [List.mem_singleton.1 he]; exact f2
 ·intro e he; rw [List.mem_singleton.1 he]; exact f1
theorem ygt {l:List Dm} {h:List En} (o:okH l 5000 200 h) (a b:Int):zdx l a b 0 (zce a b h)=true:=by
 have oe:=o.ent a b;refine zyb oe.rs λe he=>⟨oe.ti e he,ybd (oe.fl e he) (oe.fi e he),?_⟩;obtain ⟨d,hd,rfl,_⟩:=zk4 he;exact λf hf=>(List.mem_filter.1 hf).2
theorem ypr {l:List Dm} {t u:Int} {fs gs:List Fc} (ht:0<t) (hu:0<u) (hf:zcc l fs=true) (hg:zcc l gs=true) (h1:fs.length≤80) (h2:gs.length≤80) (a b:Int):zfl l a b [(u,gs)] (zce a b [(t,fs)])=0:=by
 have o:=zrb (t:=t) ht hf;have og:=zrb (t:=u) hu hg;unfold zfl;rw [ygt o a b,if_neg (by decide),if_neg];rintro (h | h)
 ·have g1:=znx (zce a b [(t,fs)]) (zcd a b [(u,gs)]);have g2:(zcd a b [(u,gs)]).length≤1:=List.length_filterMap_le _ _;have g3:(zce a b [(t,fs)]).length≤1:=List.length_filterMap_le _ _;unfold zgy at h;omega
 ·have hR:=zga (es:=zce a b [(t,fs)]) (zia (a:=a) (b:=b) og.rs);unfold zl4 at h;rw [List.any_eq_true] at h;obtain ⟨e,he,hl⟩:=h;have hl:=of_decide_eq_true hl;have ea:=yav hR he;unfold zgy at he;rw [zm6 e.1 (zia og.rs) (znk o.rs),zza e.1 og.rs,ydv e.1 o.rs] at ea;have c1:(atT [(u,gs)] e.1).length≤80:=by unfold atT; split; exact h2; simp [atT]
  have c2:(atT [(t,fs)] e.1).length≤80:=by unfold atT; split; exact h1; simp [atT]
  have c3:=List.length_filter_le (zfq a b) (atT [(u,gs)] e.1);have c4:=List.length_filter_le (inR a b) (atT [(t,fs)] e.1);have c5:=congrArg List.length ea;rw [List.length_append] at c5;omega
def mCo (id at':Int):zaj:=⟨4,id,at',[],[],0,0,[]⟩
theorem zx3 (id at':Int):zbp (mCo id at')=true∧(zah (zav (mCo id at'))).length≤60000:=⟨by simp [zbp,mCo,zav,zbv,zbn,zek],by rw [zcw]; simp [mCo,zav,zbv,ziv]⟩
theorem yds {id at':Int} (h:0≤id∧id<4294967296) (h2:0≤at'∧at'<4294967296):(mCo id at').typ:=⟨h,h2,by simp [mCo],by simp [mCo]⟩
theorem yjj (id at':Int):(mCo id at').lens:=⟨by simp [mCo],by simp [mCo],by simp [mCo],by simp [mCo]⟩
structure zyw (s:NS) (id at':Int) (fs:List Fc):Prop where
 h0:s.h=[(at',fs)]
 b0:s.bt=[(id,⟨2,at',[],[]⟩)]
 t0:s.tk=0
 l0:s.bs.length≤10000
structure ym1 (s:NS) (id:Int) (fs:List Fc):Prop where
 h0:s.h=[]
 b0:s.bt=[(id,⟨1,0,[0],fs⟩)]
 t0:s.tk=0
 l0:s.bs.length≤6000
theorem zzv {bs:List Int} {room:Int} {m:zaj} (hs:zbp m=true) (hl:(zah (zav m)).length≤5000) (hb:bs.length≤20000) (hr:40000≤room):zjg bs room (zav m)=true:=by
 unfold zbp at hs; simp only [Bool.and_eq_true] at hs;unfold zjg;rw [hs.2.2.2,decide_eq_true (by omega),decide_eq_true (by omega)]
 rfl
theorem yq4 {l:List Dm} (hl:zfe l) {fs:List Fc} (hf:zcc l fs=true) (h80:fs.length≤80) (id:Int) {room:Int} (hr:40000≤room) :
  ∃ a,zbi l room s18 (mPr id fs)=(NS.ap l s18 (rPr (mPr id fs)),a)∧ym1 (NS.ap l s18 (rPr (mPr id fs))) id fs:=by
 have hlen:=ydf hl id hf h80;have hs:=ydp hl id hf;have hlay:zjg [] room (rPr (mPr id fs))=true:=by rw [ymb]; exact zzv hs hlen (by simp) hr
 refine ⟨[zcb (if apE l [] [] 0 (rPr (mPr id fs))=0 then 2 else 3) id],?_,?_,?_,?_,?_⟩
 ·unfold zbi;rw [if_pos (by simp [mPr]),if_neg (by simp [s18,zal,Bt.no]),if_pos (by rw [show (mPr id fs).fs=fs from rfl,hf]; exact hlay)]
  rfl
 ·show apH l [] [] 0 (rPr (mPr id fs))=[];unfold apH;rw [if_neg (by simp [rPr]),if_neg (by simp [rPr])]
 ·show apS l [] [] (rPr (mPr id fs))=_;unfold apS;rw [if_pos (by simp [rPr])]
  have e:ppE l [] (rPr (mPr id fs))=0:=by
   unfold ppE;rw [if_neg (by simp [zal,Bt.no]),show (rPr (mPr id fs)).fs=fs from rfl,hf,if_neg (by simp)]
  unfold ppS;rw [if_pos e]
  rfl
 ·show apT l [] 0 (rPr (mPr id fs))=0;unfold apT;rw [if_neg (by simp [rPr])]
 ·show ([]++zbd (zah (rPr (mPr id fs)))).length≤6000;rw [List.nil_append,zdp,ymb];omega
theorem zoj (id:Int) (b:Bt):zal [(id,b)] id=b:=by simp [zal]
theorem yqm {l:List Dm} {s:NS} {id at':Int} {fs:List Fc} (p:ym1 s id fs) (hf:zcc l fs=true) (ha:0<at') {room:Int} (hr:40000≤room) :
  ∃ a,zbi l room s (mCo id at')=(NS.ap l s (rCo id at'),a)∧zyw (NS.ap l s (rCo id at')) id at' fs:=by
 have hst:(zal s.bt id).st=1:=by rw [p.b0,zoj]
 have hgf:(zal s.bt id).fs=fs:=by rw [p.b0,zoj]
 have hl0:=p.l0
 have hlay:zjg s.bs room (rCo id at')=true:=by
  have:rCo id at'=zav (mCo id at'):=by simp [rCo,zav,mCo,zbv]
  rw [this];exact zzv (zx3 id at').1 (by rw [zcw]; simp [mCo,zav,zbv,ziv]) (by omega) hr
 have hE:cmE l s.h s.bt (rCo id at')=0:=by
  unfold cmE;rw [show (rCo id at').id=id from rfl,hst,if_pos rfl,hgf,show (rCo id at').tm=at' from rfl,p.h0];unfold zkx;rw [hf,if_neg (by simp),if_neg (by rintro (h | h); omega; simp [zdu,zo1,zbk] at h),if_neg (by simp)]
 refine ⟨if apE l s.h s.bt s.tk (rCo id at')=0 then [zcb 6 id] else [],?_,?_,?_,?_,?_⟩
 ·unfold zbi;rw [if_neg (by simp [mCo]),if_pos (by simp [mCo]),if_pos (by exact hst),if_pos (by exact hlay)]
  rfl
 ·show apH l s.h s.bt s.tk (rCo id at')=_;unfold apH;rw [if_pos (by simp [rCo])];unfold cmH;rw [show (rCo id at').id=id from rfl,hst,if_pos rfl,hgf,show (rCo id at').tm=at' from rfl];unfold cmE at hE;rw [show (rCo id at').id=id from rfl,hst,if_pos rfl,hgf,show (rCo id at').tm=at' from rfl] at hE;unfold zsn;rw [if_pos hE,p.h0]
  simp [zmf,zbk]
 ·show apS l s.h s.bt (rCo id at')=_;unfold apS;rw [if_neg (by simp [rCo]),if_pos (by simp [rCo])];unfold cmS;rw [if_pos hE,p.b0]
  simp [zhk,zo5,rCo]
 ·show apT l s.h s.tk (rCo id at')=0;unfold apT;rw [if_neg (by simp [rCo])];exact p.t0
 ·show (s.bs++zbd (zah (rCo id at'))).length≤10000;rw [List.length_append,zdp,ydg];omega
def mGq (lo hi:Int):zaj:=⟨8,9,0,[],[],lo,hi,[]⟩
def mGn (es:List En):zaj:=⟨9,9,0,[],[],0,0,es⟩
def mTk (lo hi:Int) (es:List En):zaj:=⟨10,9,0,[],[],lo,hi,es⟩
theorem zu9 (lo hi:Int) (h:List En):mGv (mGq lo hi) h=mGn (zce lo hi h):=rfl
structure zkz (es:List En):Prop where
 snd:zg7 es=true
 len:(zc9 es).length≤3000
 ty:∀ e∈es,0≤e.1∧e.1<4294967296∧∀ f∈e.2,zet f.2
 n1:es.length≤1
 n2:∀ e∈es,e.2.length≤80
theorem ypt {l:List Dm} (hl:zfe l) {t:Int} (ht:0<t) (ht2:t<4294967296) {fs:List Fc} (hf:zcc l fs=true) (h80:fs.length≤80) (h64:∀ f∈fs,zet f.2) (a b:Int):zkz (zce a b [(t,fs)]):=by
 obtain ⟨f1,f2⟩:=zfw hf;have hl4:=hl.2.1
 have e0:zce a b [(t,fs)]=if 0<(fs.filter (inR a b)).length then [(t,fs.filter (inR a b))] else []:=by
  unfold zce zm4
  by_cases h:0<(fs.filter (inR a b)).length
  ·rw [List.filterMap_cons_some (by rw [if_pos h]),if_pos h]; rfl
  ·rw [List.filterMap_cons_none (by rw [if_neg h]),if_neg h]; rfl
 have hfl:=List.length_filter_le (inR a b) fs;have hfm:∀ f∈fs.filter (inR a b),f∈fs:=λf h=>(List.mem_filter.1 h).1;refine ⟨?_,?_,λe he=>?_,List.length_filterMap_le _ _,λe he=>by have := (zqo he).2.1; omega⟩
 ·rw [e0]
  split
  ·unfold zg7;rw [decide_eq_true (by simp),Bool.true_and];unfold zfp zfp;rw [Bool.and_true,decide_eq_true (show (-1:Int)<t by omega),Bool.and_true];unfold zen;rw [decide_eq_true (show (fs.filter (inR a b)).length≤200 by omega),Bool.true_and,List.all_eq_true];exact λf h=>yda hl (f2 f (hfm f h))
  ·rfl
 ·rw [e0]
  split
  ·have h1:=zl7 zdk 25 (fs.filter (inR a b)) (λf hf=>by rw [ziy]; have := zi0 (f2 f (hfm f hf)); omega);have h2:=Nat.mul_le_mul_right 25 (show (fs.filter (inR a b)).length≤80 by omega);simp only [zc9,zdq,zc8,List.length_append,za9,List.flatMap_cons,List.flatMap_nil,List.length_nil];omega
  ·simp [zc9,za9]
 ·obtain ⟨q1,_,q3,_⟩:=zqo he;exact ⟨by omega,by omega,λf hf=>h64 f (q3 f hf).1⟩
theorem yns {lo hi:Int} (h:0≤lo∧lo≤10000∧0≤hi∧hi≤10000):zbp (mGq lo hi)=true∧(zah (zav (mGq lo hi))).length≤60000:=⟨by simp [zbp,mGq,zav,zbv,zbn,zg7,zfp,h],by rw [zcw]; simp [mGq,zav,zbv,zmb]⟩
theorem ydw (lo hi:Int):(mGq lo hi).typ:=⟨by simp [mGq],by simp [mGq],by simp [mGq],by simp [mGq]⟩
theorem ykf (lo hi:Int):(mGq lo hi).lens:=⟨by simp [mGq],by simp [mGq],by simp [mGq],by simp [mGq]⟩
theorem zwa {es:List En} (o:zkz es):zbp (mGn es)=true∧(zah (zav (mGn es))).length≤4000:=⟨by simp [zbp,mGn,zav,zbv,zbn,o.snd],by rw [zcw]; have := o.len; simp [mGn,zav,zbv]; omega⟩
theorem yd9 {es:List En} (o:zkz es):(mGn es).typ:=⟨by simp [mGn],by simp [mGn],by simp [mGn],o.ty⟩
theorem ya0 {es:List En} (o:zkz es):(mGn es).lens:=⟨by simp [mGn],by simp [mGn],by have := o.n1; show es.length≤_; omega,λe he=>(o.ty e he).1⟩
theorem ydq {lo hi:Int} {es:List En} (h:0≤lo∧lo≤10000∧0≤hi∧hi≤10000) (o:zkz es):zbp (mTk lo hi es)=true∧(zah (zav (mTk lo hi es))).length≤4000:=⟨by simp [zbp,mTk,zav,zbv,zbn,o.snd,h],by rw [zcw]; have := o.len; simp [mTk,zav,zbv]; omega⟩
theorem zw7 {es:List En} (o:zkz es) (lo hi:Int):(mTk lo hi es).typ:=⟨by simp [mTk],by simp [mTk],by simp [mTk],o.ty⟩
theorem yig {es:List En} (o:zkz es) (lo hi:Int):(mTk lo hi es).lens:=⟨by simp [mTk],by simp [mTk],by have := o.n1; show es.length≤_; omega,λe he=>(o.ty e he).1⟩
theorem ypy {l:List Dm} {s:NS} {id at':Int} {fs:List Fc} (p:zyw s id at' fs) {lo hi:Int} (o:zkz (zce lo hi [(at',fs)])) (room:Int):zbi l room s (mGq lo hi)=(s,[mGn (zce lo hi [(at',fs)])]):=by
 have hw:zjn s.bt=true:=by rw [p.b0]; simp [zjn,zq2,zal]
 have hg:gvB (mGq lo hi) s.h=true:=by
  unfold gvB;rw [zu9,p.h0,(zwa o).1,decide_eq_true (by have := (zwa o).2; omega)]
  rfl
 unfold zbi;rw [if_neg (by simp [mGq]),if_neg (by simp [mGq]),if_neg (by simp [mGq]),if_neg (by simp [mGq]),if_pos (by simp [mGq]),if_pos (by rw [hw,hg]; rfl),zu9,p.h0]
theorem ypz {l:List Dm} {s:NS} {id u:Int} {gs:List Fc} (p:zyw s id u gs) {lo hi:Int} (hr:0≤lo∧lo≤10000∧0≤hi∧hi≤10000) {es:List En} (o:zkz es) (hE:zfl l lo hi [(u,gs)] es=0) {room:Int} (hm:40000≤room) :
  zbi l room s (mTk lo hi es)=(NS.ap l s (rTk (mTk lo hi es)),[zcb 11 9])∧(NS.ap l s (rTk (mTk lo hi es))).tk=9∧(NS.ap l s (rTk (mTk lo hi es))).h=zgy lo hi [(u,gs)] es∧(NS.ap l s (rTk (mTk lo hi es))).bt=s.bt:=by
 have hs:=ydq hr o;have hl0:=p.l0
 have hlay:zjg s.bs room (rTk (mTk lo hi es))=true:=by
  have:rTk (mTk lo hi es)=zav (mTk lo hi es):=by simp [rTk,zav,mTk,zbv]
  rw [this];exact zzv hs.1 (by have := hs.2; omega) (by omega) hm
 have ht:¬ (rTk (mTk lo hi es)).id≤s.tk:=by rw [p.t0]; simp [rTk,mTk]
 have hT:tkE l s.h s.tk (rTk (mTk lo hi es))=0:=by
  unfold tkE;rw [if_neg ht,p.h0];exact hE
 have hA:apE l s.h s.bt s.tk (rTk (mTk lo hi es))=0:=by
  unfold apE;rw [if_neg (by simp [rTk]),if_neg (by simp [rTk]),if_neg (by simp [rTk]),if_pos (by simp [rTk])];exact hT
 refine ⟨?_,?_,?_,?_⟩
 ·unfold zbi;rw [if_neg (by simp [mTk]),if_neg (by simp [mTk]),if_neg (by simp [mTk]),if_neg (by simp [mTk]),if_neg (by simp [mTk]),if_pos (by simp [mTk]),if_neg (by exact ht),if_pos (by exact hlay),if_pos (by exact hA)]
  rfl
 ·show apT l s.h s.tk (rTk (mTk lo hi es))=9;unfold apT;rw [if_pos (by simp [rTk])];unfold tkT;rw [if_pos hT]
  rfl
 ·show apH l s.h s.bt s.tk (rTk (mTk lo hi es))=_;unfold apH;rw [if_neg (by simp [rTk]),if_pos (by simp [rTk])];unfold tkH;rw [if_neg ht,p.h0];unfold zkg;rw [if_pos (by exact hE)]
  rfl
 ·show apS l s.h s.bt (rTk (mTk lo hi es))=s.bt;unfold apS;rw [if_neg (by simp [rTk]),if_neg (by simp [rTk]),if_neg (by simp [rTk])]
theorem yp2 {l:List Dm} {s:NS} (h:s.tk=9) (lo hi:Int) (es:List En) (room:Int):zbi l room s (mTk lo hi es)=(s,[zcb 11 9]):=by
 unfold zbi;rw [if_neg (by simp [mTk]),if_neg (by simp [mTk]),if_neg (by simp [mTk]),if_neg (by simp [mTk]),if_neg (by simp [mTk]),if_pos (by simp [mTk]),if_pos (by rw [h]; simp [mTk])]
 rfl
structure zhe (F:Nat -> Option (List Value)) (M:Nat -> Option zak) (p:Nat) (v:Value) (l:List Int):Prop where
 pp:M p=some (.cells 199 [v,.bool false] 2)
 rd:sF F 1 v l.length (bts l)
 bt:zbg l
 ln:l.length≤100000
theorem zhe.keep {p:Nat} {v:Value} {l:List Int} (h:zhe F M p v l) (hF:za7 F F') (hp:M' p=M p):zhe F' M' p v l:=⟨hp.trans h.pp,h.rd.mono hF,h.bt,h.ln⟩
theorem ynn {size:Nat} {l r:List Int} {x:Int} (h:rd size l=some (x,r)):size≤l.length∧x=rdV (l.take size) 0∧r=l.drop size:=by
 unfold rd at h
 split at h
 ·cases h
 ·simp only [Option.some.injEq,Prod.mk.injEq] at h;exact ⟨by omega,h.1.symm,h.2.symm⟩
theorem ypq {a c:Nat} {h:Hp} (ha:a+c<18446744073709551616) (k:K (.int .u64 ((a+c:Nat):Int)) h):pv (za2 .none .add (.int .u64 (a:Nat)) (.int .u64 (c:Nat))) K h :=
 ⟨_,by
  have e:za2 .none .add (.int .u64 (a:Nat)) (.int .u64 (c:Nat))=zfa .add .u64 (a:Nat) (c:Nat):=by simp [za2]
  rw [e]; rfl,by
  rw [show IntKind.u64.wrap ((a:Int)+(c:Int))=((a+c:Nat):Int) by rw [IntKind.wrap_u64]; omega];exact k⟩
theorem ycx {b o c n:Nat} {l:List Int} (hv:sF F 1 (.slice (some ⟨b,o,none⟩) l.length c) l.length (bts l)) (hn:n≤l.length):sF F 1 (.slice (some (if c=n then ⟨b,o,none⟩ else ⟨b,o+n*1,none⟩)) (l.length - n) (c - n)) (l.drop n).length (bts (l.drop n)):=by
 refine ⟨by simp [bts],?_⟩;rw [List.length_drop]
 rcases hv.2 with ⟨a,c1,h1,h2⟩ | ⟨b1,o1,c1,cs,h1,h2,h3,h4⟩
 ·simp only [Value.slice.injEq] at h1;exact .inl ⟨_,_,by rw [show l.length - n=0 by omega],by omega⟩
 ·simp only [Value.slice.injEq,Option.some.injEq,Addr.mk.injEq] at h1;obtain ⟨⟨rfl,rfl,_⟩,_,rfl⟩:=h1
  by_cases hcs:c=n
  ·exact .inl ⟨_,_,by rw [show l.length - n=0 by omega],by omega⟩
  ·refine .inr ⟨b,o+n*1,c - n,cs,by rw [if_neg hcs],by omega,h3,?_⟩;have h5:=congrArg (List.drop n) h4;rw [List.drop_take,List.drop_drop] at h5;rw [Nat.mul_one,Nat.mul_one,show (bts (l.drop n))=(bts l).drop n by simp [bts],← h5,Nat.mul_one]
theorem zkn {p size:Nat} {v:Value} {l r:List Int} {x:Int} (P:zhe F M p v l) (h:rd size l=some (x,r)) (hs:size≤8) (hs0:0<size)
  (k:∀ v',zhe F (upd M p (some (.cells 199 [v',.bool false] 2))) p v' r -> (Hp.mk F (upd M p (some (.cells 199 [v',.bool false] 2))) N).wf -> K (.int .u64 x) ⟨F,upd M p (some (.cells 199 [v',.bool false] 2)),N⟩) :
  cF 147 #[.pointer (some ⟨p,0,none⟩),.int .i64 (size:Nat)] K E ⟨F,M,N⟩:=by
 refine za4 za8 Tryz.func147 (by kernel_rfl) (ywp _ E _ _) (λhw=>?_);have hln:=P.ln;obtain ⟨hsl,rfl,rfl⟩:=ynn h;have hlv:zab v=some (.int .i64 (l.length:Nat)):=by obtain ⟨a,c,h,_⟩:=P.rd.form; rw [h]; rfl
 try simp only [sS]
 refine ldM (v:=.bool false) ?_ P.pp;try simp only [sS]
 refine ldM (v:=v) ?_ P.pp;refine zaa hlv ?_;refine zat (λh=>absurd h (by omega)) (λh=>?_);try simp only [sS]
 rcases P.rd.2 with ⟨a,c1,h1,h2⟩ | ⟨b,o,c,cs,rfl,h2,h3,h4⟩
 ·rw [h2] at hsl; omega
 refine zp7 (σ:=Nat×Nat) (λs=>.int .u64 (s.2:Nat)) (λs=>.int .i64 (s.1:Nat)) (λs h=>h=⟨F,M,N⟩∧s.1≤size∧rdV (l.take s.1) 0=(s.2:Nat)∧s.2<256 ^ s.1) (λs=>size - s.1) (0,0) rfl rfl
  (λhw1=>⟨_,za1 hw1,rfl,Nat.zero_le _,rfl,by simp⟩) (λk1 s j h1 hI hw1 next=>?_)
 rw [zp9];obtain ⟨rfl,hi,he,hlt0⟩:=hI;refine zat (λhlt=>?_) (λhge=>?_)
 ·have i1:s.1<l.length:=by omega
  have hbt:=P.bt l[s.1] (List.getElem_mem _);obtain ⟨y,hy⟩:∃ y:Nat,l[s.1]=(y:Nat):=⟨l[s.1].toNat,by omega⟩;have h56:s.2<72057594037927936:=Nat.lt_of_lt_of_le hlt0 (Nat.pow_le_pow_right (by omega) (show s.1≤7 by omega));try simp only [sS]
  refine yg1 h56 ?_;try simp only [sS]
  refine ldM (v:=.slice (some ⟨b,o,none⟩) l.length c) ?_ P.pp;refine yly P.rd.sR i1 rfl (by omega) λp'=>?_;rw [hy];refine zaa (v:=.int .u64 (y:Nat)) (by have:IntKind.u64.wrap (y:Nat)=(y:Nat):=(by rw [IntKind.wrap_u64]; omega); simp [cvV,this]) ?_;refine ypq (by omega) ?_;refine zas (by omega) ?_;refine next (s.1+1,s.2*256+y) _ _ (by simp only; omega) (λhw2=>⟨_,za1 hw2,rfl,by simp only; omega,?_,?_⟩)
  ·rw [List.take_add_one,List.getElem?_eq_getElem i1,Option.toList_some,ybs,he,hy]; simp
  ·rw [Nat.pow_succ]; simp only; omega
 ·have es:s.1=size:=by omega
  rw [es] at he;try simp only [sS]
  refine ldM (v:=.slice (some ⟨b,o,none⟩) l.length c) ?_ P.pp;refine zfj size hsl h2 ?_;try simp only [sS]
  rw [← he];refine stM (cs':=[.slice (some (if c=size then ⟨b,o,none⟩ else ⟨b,o+size*1,none⟩)) (l.length - size) (c - size),.bool false]) ?_ P.pp rfl rfl (List.all_eq_true.1 rfl);exact λhc=>⟨_,za1 hc,λhw'=>k _ ⟨za0 _ _ _,ycx P.rd hsl,λx hx=>P.bt x (List.mem_of_mem_drop hx),by rw [List.length_drop]; omega⟩ hw'⟩
theorem zw8 {p size least n:Nat} {v:Value} {l r:List Int} (P:zhe F M p v l) (h:rdM size least l=some (n,r)) (hs:size≤4) (hs0:0<size) (hl0:0<least) (hl1:least≤100)
  (k:∀ v',zhe F (upd M p (some (.cells 199 [v',.bool false] 2))) p v' r -> (Hp.mk F (upd M p (some (.cells 199 [v',.bool false] 2))) N).wf -> K (.int .i64 (n:Nat)) ⟨F,upd M p (some (.cells 199 [v',.bool false] 2)),N⟩) :
  cF 150 #[.pointer (some ⟨p,0,none⟩),.int .i64 (size:Nat),.int .i64 (least:Nat)] K E ⟨F,M,N⟩:=by
 refine za4 za8 Tryz.func150 (by kernel_rfl) (ywz _ E _ _ _) (λhw=>?_);unfold rdM at h;cases h1:rd size l with
 | none=>rw [h1] at h; cases h
 | some q=>
  obtain ⟨x,r1⟩:=q;rw [h1] at h;simp only at h
  split at h
  ·cases h
  ·rename_i hle
   simp only [Option.some.injEq,Prod.mk.injEq] at h;obtain ⟨rfl,rfl⟩:=h;refine zkn P h1 (by omega) hs0 (λv' P1 hw1=>?_);have hlr:=P1.ln;have hx0:=zfv h1 P.bt;have hlv:zab v'=some (.int .i64 (r1.length:Nat)):=by obtain ⟨a,c,h,_⟩:=P1.rd.form; rw [h]; rfl
   have hle2:r1.length/least≤r1.length:=Nat.div_le_self _ _;try simp only [sS]
   refine ldM (v:=v') ?_ P1.pp;refine zaa hlv ?_;refine yf1 (a:=(r1.length:Nat)) (b:=(least:Nat)) (by omega) (by omega) (by omega) ?_;have eq:((r1.length:Nat):Int)/((least:Nat):Int)=((r1.length/least:Nat):Int):=by simp
   rw [eq]
   have hu:cvV .u64 (.int .i64 ((r1.length/least:Nat):Int))=some (.int .u64 ((r1.length/least:Nat):Int)):=by
    generalize r1.length/least=y at hle2;have:IntKind.u64.wrap (y:Int)=(y:Int):=by rw [IntKind.wrap_u64]; omega
    simp [cvV,this]
   refine zaa hu ?_;refine zbw (λhg=>absurd hg hle) (λ_=>?_);try simp only [sS]
   have hx:x≤((r1.length/least:Nat):Int):=by omega
   have hc:cvV .i64 (.int .u64 x)=some (.int .i64 ((x.toNat:Nat):Int)):=by
    have:IntKind.i64.wrap x=((x.toNat:Nat):Int):=by rw [IntKind.wrap_i64]; omega
    simp [cvV,this]
   refine zaa hc ?_;exact λhc=>⟨_,za1 hc,λhw'=>k v' P1 hw'⟩
theorem ya8 {α:Type} {f:List Int -> Option (α×List Int)} {n:Nat} {l r:List Int} {xs:List α} (h:rdL f (n+1) l=some (xs,r)):∃ x r1 ys,f l=some (x,r1)∧rdL f n r1=some (ys,r)∧xs=x::ys:=by
 simp only [rdL] at h;cases h1:f l with
 | none=>rw [h1] at h; cases h
 | some q=>
  obtain ⟨x,r1⟩:=q;rw [h1] at h;simp only at h;cases h2:rdL f n r1 with
  | none=>rw [h2] at h; cases h
  | some q=>
   obtain ⟨ys,r2⟩:=q;rw [h2] at h;simp only [Option.some.injEq,Prod.mk.injEq] at h;exact ⟨x,r1,ys,rfl,by rw [h2,h.2],h.1.symm⟩
theorem ztp {α:Type} {f:List Int -> Option (α×List Int)}:∀ {n:Nat} {l r:List Int} {xs:List α},rdL f n l=some (xs,r) -> xs.length=n
 | 0,l,r,xs,h=>by simp only [rdL,Option.some.injEq,Prod.mk.injEq] at h; rw [← h.1]; rfl
 | n+1,l,r,xs,h=>by
  obtain ⟨x,r1,ys,h1,h2,rfl⟩:=ya8 h;rw [List.length_cons,ztp h2]
theorem zzy {α:Type} {f:List Int -> Option (α×List Int)} {n i:Nat} {l r:List Int} {xs:List α} (hi:i<n) (hn:xs.length=n) (h:rdL f (n - i) l=some (xs.drop i,r)):∃ r1,f l=some (xs[i]'(by omega),r1)∧rdL f (n - (i+1)) r1=some (xs.drop (i+1),r):=by
 rw [show n - i=(n - (i+1))+1 by omega,List.drop_eq_getElem_cons (by omega)] at h;obtain ⟨x,r1,ys,h1,h2,h3⟩:=ya8 h
 injection h3 with h4 h5
 exact ⟨r1,by rw [h1,h4],by rw [h2,h5]⟩
theorem zz0 {size least n:Nat} {l r:List Int} (h:rdM size least l=some (n,r)):n≤r.length:=by
 unfold rdM at h;cases h1:rd size l with
 | none=>rw [h1] at h; cases h
 | some q=>
  obtain ⟨x,r1⟩:=q;rw [h1] at h;simp only at h
  split at h
  ·cases h
  ·simp only [Option.some.injEq,Prod.mk.injEq] at h;have:r1.length/least≤r1.length:=Nat.div_le_self _ _;rw [← h.1,← h.2]; omega
theorem yen {x:Int} (h0:0≤x) (h1:x<9223372036854775808):cvV .i64 (.int .u64 x)=some (.int .i64 x):=by
 have:IntKind.i64.wrap x=x:=by rw [IntKind.wrap_i64]; omega
 simp [cvV,this]
theorem yod {p:Nat} {v:Value} {l r:List Int} {fs:List Fc} (P:zhe F M p v l) (h:zfb l=some (fs,r))
  (k:∀ fv v' F' M' N',zhe F' M' p v' r -> za7 F F' -> zbo F' fv fs -> N≤N' -> (∀ q,q≠p -> q<N -> M' q=M q) -> za5 M' N' -> (Hp.mk F' M' N').wf -> K fv ⟨F',M',N'⟩) :
  cF 149 #[.pointer (some ⟨p,0,none⟩)] K E ⟨F,M,N⟩:=by
 refine za4 za8 Tryz.func149 (by kernel_rfl) (yuf _ E _) (λhw=>?_);have hm:za5 M N:=hw.m;have hpN:=hm.lt P.pp;unfold zfb at h;cases h1:rdM 4 9 l with
 | none=>rw [h1] at h; cases h
 | some q=>
 obtain ⟨n,r1⟩:=q;rw [h1] at h;simp only at h;have hn:=ztp h;have hmn:=(zhw h1).1;have hmn2:=zz0 h1;have hln:=P.ln;refine zw8 (size:=4) (least:=9) P h1 (by omega) (by omega) (by omega) (by omega) (λv1 P1 hw1=>?_);have hn9:n≤100000:=by omega
 refine zpv (σ:=Nat×Value) (λs=>s.2) (λs=>.int .i64 (s.1:Nat))
  (λs h'=>∃ F' M' N' v' rows ri,h'=⟨F',M',N'⟩∧za7 F F'∧N≤N'∧(∀ q,q≠p -> q<N -> M' q=M q)∧za5 M' N'∧s.1≤n∧zhe F' M' p v' ri∧rdL rdF (n - s.1) ri=some (fs.drop s.1,r)∧own M' N 110 2 s.2 s.1 rows.flatten∧zag (zcl F') 2 rows (fs.take s.1)) (λs=>n - s.1) (0,.slice none 0 0) rfl rfl
  (λhw2=>⟨_,za1 hw2,F,_,N,v1,[],r1,rfl,za7.refl _,Nat.le_refl _,λq hq _=>za3 _ _ hq,hm.set hpN _,Nat.zero_le _,P1,by simpa using h,own.nil,zag.nil _ _⟩) (λk1 s j h1 hI hw1 next=>?_)
 rw [zpk];obtain ⟨F2,M2,N2,v2,rows,ri,rfl,hF2,hN2,hM2,hm2,hi,P2,hrd,ho,hrow⟩:=hI;refine zat (λhlt=>?_) (λhge=>?_)
 rotate_left
 ·try simp only [sS]
  try rw [t149_1_1_1_1]
  have es:s.1=n:=by omega
  rw [es,Nat.sub_self] at hrd;simp only [rdL,Option.some.injEq,Prod.mk.injEq] at hrd;rw [es] at ho;rw [List.take_of_length_le (by omega)] at hrow;rw [hrd.2] at P2;refine λhc=>⟨_,zog (p:=λq=>N≤q) hc,λhw'=>k s.2 v2 _ _ N2 (P2.keep (zc5 hc) (zch (by omega))) (hF2.trans (zc5 hc)) ⟨rows,?_,hrow.mono λ_ _ h=>h.mono (zc5 hc)⟩ hN2 (λq q1 q2=>(zch (by omega)).trans (hM2 q q1 q2)) (zei hm2) hw'⟩;rw [hn];exact ho.frzP (λq hq=>(ho.ge q hq).1)
 have i1:s.1<n:=by omega
 obtain ⟨r2,hf,hrd2⟩:=zzy i1 hn hrd;unfold rdF zin at hf;cases hk1:rdM 1 4 ri with
 | none=>rw [hk1] at hf; cases hf
 | some q=>
 obtain ⟨kn,r3⟩:=q;rw [hk1] at hf;simp only at hf;cases hk2:rdL (rd 4) kn r3 with
 | none=>rw [hk2] at hf; cases hf
 | some q=>
 obtain ⟨key,r4⟩:=q;rw [hk2] at hf;simp only at hf;cases hk3:rd 8 r4 with
 | none=>rw [hk3] at hf; cases hf
 | some q=>
 obtain ⟨vv,r5⟩:=q;rw [hk3] at hf;simp only [Option.some.injEq,Prod.mk.injEq] at hf;obtain ⟨hfe,rfl⟩:=hf;have hkn:=ztp hk2;have hkm:=(zhw hk1).1;have hkm2:=zz0 hk1;have hln2:=P2.ln;have hkn9:kn≤100000:=by omega
 try simp only [sS]
 refine ldM (v:=.bool false) ?_ P2.pp;try simp only [sS]
 refine zaa (v:=.agg #[.slice none 0 0,.int .i64 0]) (by kernel_rfl) ?_;refine zap (cs:=[.slice none 0 0,.int .i64 0]) (λb hb=>?_);refine stM (cs':=[.slice none 0 0,.int .i64 0]) ?_ (za0 _ _ _) rfl;rw [zan];refine (show (_:Hp -> Prop) ⟨F2,upd M2 b (some (.cells 110 [.slice none 0 0,.int .i64 0] 2)),b+1⟩ from ?_);have hb3:=za0 M2 b (some (.cells 110 [.slice none 0 0,.int .i64 0] 2));have hM3:∀ q,q<N2 -> upd M2 b (some (.cells 110 [.slice none 0 0,.int .i64 0] 2)) q=M2 q:=λq hq=>za3 _ _ (by omega);have hm3:=hm2.new hb (some (.cells 110 [.slice none 0 0,.int .i64 0] 2));generalize upd M2 b _=M3 at *;have P3:=P2.keep (M':=M3) (za7.refl _) (hM3 p (by omega));refine zw8 (size:=1) (least:=4) P3 hk1 (by omega) (by omega) (by omega) (by omega) (λv4 P4 hw4=>?_)
 refine zhc (σ:=Nat) (λi=>.int .i64 (i:Nat))
  (λi h'=>∃ M' N' v' kv rj,h'=⟨F2,M',N'⟩∧b<N'∧(∀ q,q≠p -> q<b -> M' q=M3 q)∧za5 M' N'∧i≤kn∧zhe F2 M' p v' rj∧rdL (rd 4) (kn - i) rj=some (key.drop i,r4)∧M' b=some (.cells 110 [kv,.int .i64 0] 2)∧own M' (b+1) 3 1 kv i (ic (key.take i))) (λi=>kn - i) 0 rfl
  (λhw5=>⟨_,za1 hw5,_,b+1,v4,.slice none 0 0,r3,rfl,by omega,λq hq _=>za3 _ _ hq,hm3.set (by omega) _,Nat.zero_le _,P4,by simpa using hk2,(za3 _ _ (by omega)).trans hb3,own.nil⟩) (λk2 i j2 h2 hI2 hw5 next2=>?_)
 rw [zhm];obtain ⟨M5,N5,v5,kv,rj,rfl,hN5,hM5,hm5,hi5,P5,hrd5,hb5,hkv⟩:=hI2;obtain ⟨ka,kc,rfl,_⟩:=hkv.form;have hpb:p≠b:=by omega
 refine zat (λhlt5=>?_) (λhge5=>?_)
 ·have i5:i<kn:=by omega
  obtain ⟨r6,hx,hrd6⟩:=zzy i5 hkn hrd5;have hx0:=zfv hx P5.bt;try simp only [sS]
  refine ldM (v:=.slice ka i kc) ?_ hb5;refine zkn (size:=4) P5 hx (by omega) (by omega) (λv6 P6 hw6=>?_);have hb6:upd M5 p (some (.cells 199 [v6,.bool false] 2)) b=_:=(za3 _ _ hpb.symm).trans hb5;have hM6:∀ q,q≠p -> upd M5 p (some (.cells 199 [v6,.bool false] 2)) q=M5 q:=λq hq=>za3 _ _ hq;have hm6:=hm5.set (show p<N5 by omega) (some (.cells 199 [v6,.bool false] 2));generalize upd M5 p _=M6 at *;refine ⟨zaz (zb4 hb6) rfl,?_⟩;refine zaa (yen hx0.1 (by have := hx0.2.1; omega)) ?_;refine zcx (cs:=[.int .i64 key[i]]) (by kernel_rfl) (λb7 hb7=>?_);have hM7:∀ q,q<N5 -> upd M6 b7 (some (.cells 3 [.int .i64 key[i]] 1)) q=M6 q:=λq hq=>za3 _ _ (by omega);have hm7:=hm6.new hb7 (some (.cells 3 [.int .i64 key[i]] 1));have hsr:sR F2 (upd M6 b7 (some (.cells 3 [.int .i64 key[i]] 1))) 1 (.slice (some ⟨b7,0,none⟩) 1 1) 1 [.int .i64 key[i]]:=⟨rfl,.inr ⟨b7,0,1,_,rfl,Nat.le_refl _,.inr ⟨_,_,za0 _ _ _⟩,rfl⟩⟩;simp only [List.length_cons,List.length_nil,Nat.zero_add];generalize upd M6 b7 _=M7 at *;have hb7':=(hM7 b (by omega)).trans hb6;refine ⟨zaz (zb4 hb7') rfl,?_⟩;have hkv7:own M7 (b+1) 3 1 (.slice ka i kc) i (ic (key.take i)):=hkv.keep (λq hq=>(hM7 q (hkv.lt hm5 q hq)).trans (hM6 q (by have := (hkv.ge q hq).1; omega))) (Nat.le_refl _);have P7:=P6.keep (M':=M7) (za7.refl _) (hM7 p (by omega));refine hkv7.app hm7 (by omega) hsr (List.all_eq_true.1 rfl) (by omega) (by unfold maxLen; omega) (λkv8 M8 N8 h8 hf8 hN8 hm8=>?_);obtain ⟨ka8,kc8,rfl,_⟩:=h8.form;have fk:∀ q,q<b+1 -> M8 q=M7 q:=λq hq=>(hf8 q (λe=>by have := (hkv.ge q e).1; omega) (by omega)).1;try simp only [sS]
  refine stM (cs':=[.slice ka8 (i+1) kc8,.int .i64 0]) ?_ ((fk b (by omega)).trans hb7') rfl;refine zas (by omega) ?_;refine next2 (i+1) _ _ (by omega) (λhw9=>⟨_,za1 hw9,_,N8,v6,_,r6,rfl,by omega,λq q1 q2=>(za3 _ _ (by omega)).trans ((fk q (by omega)).trans ((hM7 q (by omega)).trans ((hM6 q q1).trans (hM5 q q1 q2)))),hm8.set (by omega) _,i5,P7.keep (za7.refl _) ((za3 _ _ hpb).trans (fk p (by omega))),hrd6,za0 _ _ _,?_⟩);rw [List.take_add_one,List.getElem?_eq_getElem (by omega),Option.toList_some];rw [show ic (key.take i++[key[i]])=ic (key.take i)++[.int .i64 key[i]] by simp only [ic,List.map_append,List.map_cons,List.map_nil]];exact h8.keep (λq hq=>za3 _ _ (by have := (h8.ge q hq).1; omega)) (Nat.le_refl _)
 ·try simp only [sS]
  have es:i=kn:=by omega
  rw [es,Nat.sub_self] at hrd5;simp only [rdL,Option.some.injEq,Prod.mk.injEq] at hrd5;rw [es,List.take_of_length_le (by omega),← hkn] at hkv;rw [hrd5.2] at P5;rw [es,← hkn] at hb5;rw [es,← hkn];refine zkn (size:=8) P5 hk3 (by omega) (by omega) (λv6 P6 hw6=>?_);have hb6:upd M5 p (some (.cells 199 [v6,.bool false] 2)) b=_:=(za3 _ _ hpb.symm).trans hb5;have hM6:∀ q,q≠p -> upd M5 p (some (.cells 199 [v6,.bool false] 2)) q=M5 q:=λq hq=>za3 _ _ hq;have hm6:=hm5.set (show p<N5 by omega) (some (.cells 199 [v6,.bool false] 2));generalize upd M5 p _=M6 at *;refine zaa (v:=.int .i64 (zgd vv)) rfl ?_;try simp only [sS]
  refine stM (cs':=[.slice ka key.length kc,.int .i64 (zgd vv)]) ?_ hb6 rfl;have hM7:∀ q,q≠b -> upd M6 b (some (.cells 110 [.slice ka key.length kc,.int .i64 (zgd vv)] 2)) q=M6 q:=λq hq=>za3 _ _ hq;have hb7:=za0 M6 b (some (.cells 110 [.slice ka key.length kc,.int .i64 (zgd vv)] 2));have hm7:=hm6.set (show b<N5 by omega) (some (.cells 110 [.slice ka key.length kc,.int .i64 (zgd vv)] 2));generalize upd M6 b _=M7 at *;refine zb6 (vs:=[.slice ka key.length kc,.int .i64 (zgd vv)]) ?_ hb7;have hkv7:own M7 (b+1) 3 1 (.slice ka key.length kc) key.length (ic key):=hkv.keep (λq hq=>by have := (hkv.ge q hq).1; exact (hM7 q (by omega)).trans (hM6 q (by omega))) (Nat.le_refl _);have hol:∀ q,s.2.ownBlock=some q -> N≤q∧q<N2:=λq hq=>⟨(ho.ge q hq).1,ho.lt hm2 q hq⟩;have low:∀ q,q≠p -> q<N2 -> M7 q=M2 q:=λq q1 q2=>(hM7 q (by omega)).trans ((hM6 q q1).trans ((hM5 q q1 (by omega)).trans (hM3 q q2)));have ho7:own M7 N 110 2 s.2 s.1 rows.flatten:=ho.keep (λq hq=>low q (by have := hol q hq; omega) (hol q hq).2) (Nat.le_refl _);refine zhb (new:=[.slice ka key.length kc,.int .i64 (zgd vv)]) ho7 hm7 (by omega) (by kernel_rfl) rfl (List.all_eq_true.1 rfl) (by omega) (by unfold maxLen; omega) (λpp v8 M8 N8 h8 hf8 hN8 hm8=>?_);refine zas (by omega) ?_;have hne:∀ q,(Value.slice ka key.length kc).ownBlock=some q -> s.2.ownBlock≠some q:=λq hq e=>by have := (hkv7.ge q hq).1; have := (hol q e).2; omega
  obtain ⟨ok8,hne8⟩:=hkv7.far hf8 hm7 hne;have P8:=P6.keep (M':=M8) (za7.refl _) (((hf8 p (λe=>by have := (hol p e).1; omega) (by omega)).1).trans (hM7 p hpb));refine next (s.1+1,v8) _ _ (by simp only; omega) (λhw9=>⟨_,zog (p:=λq=>(Value.slice ka key.length kc).ownBlock=some q) hw9,_,_,N8,v6,rows++[[.slice ka key.length kc,.int .i64 (zgd vv)]],r5,rfl,hF2.trans (zc5 hw9),by omega,λq q1 q2=>?_,zei hm8,i1,P8.keep (zc5 hw9) (zch (λe=>by have := (hkv7.ge p e).1; omega)),hrd2,?_,?_⟩)
  ·exact (zch (λe=>by have := (hkv7.ge q e).1; omega)).trans (((hf8 q (λe=>by have := (hol q e).1; omega) (by omega)).1).trans ((low q q1 (by omega)).trans (hM2 q q1 q2)))
  ·refine own.keep (M:=M8) ?_ (λq hq=>zch (λe=>hne8 q e hq)) (Nat.le_refl _)
   simpa using h8
  ·simp only;rw [List.take_add_one,List.getElem?_eq_getElem (by omega),Option.toList_some]
   have h1f:zcl (frzP F2 M8 (λq=>(Value.slice ka key.length kc).ownBlock=some q)) [.slice ka key.length kc,.int .i64 (zgd vv)] fs[s.1]:=by
    rw [← hfe];exact ⟨_,rfl,ok8.frzP (λq h=>h),by show key.length≤_; omega⟩
   exact zca (hrow.mono λ_ _ h=>h.mono (zc5 hw9)) h1f.one h1f
theorem yqn {l r:List Int} {fs:List Fc} (h:zfb l=some (fs,r)):fs.length≤l.length:=by
 unfold zfb at h;cases h1:rdM 4 9 l with
 | none=>rw [h1] at h; cases h
 | some q=>
  obtain ⟨n,r1⟩:=q;rw [h1] at h;have h2:=ztp h;have h3:=zz0 h1;have h4:=(zhw h1).1;omega
theorem ypx {p:Nat} {v:Value} {l r:List Int} {es:List En} (P:zhe F M p v l) (h:zgz l=some (es,r))
  (k:∀ ev v' F' M' N',zhe F' M' p v' r -> za7 F F' -> zc6 F' ev es -> N≤N' -> (∀ q,q≠p -> q<N -> M' q=M q) -> za5 M' N' -> (Hp.mk F' M' N').wf -> K ev ⟨F',M',N'⟩) :
  cF 151 #[.pointer (some ⟨p,0,none⟩)] K E ⟨F,M,N⟩:=by
 refine za4 za8 Tryz.func151 (by kernel_rfl) (yud _ E _) (λhw=>?_);have hm:za5 M N:=hw.m;have hpN:=hm.lt P.pp;unfold zgz at h;cases h1:rdM 4 8 l with
 | none=>rw [h1] at h; cases h
 | some q=>
 obtain ⟨n,r1⟩:=q;rw [h1] at h;simp only at h;have hn:=ztp h;have hmn:=(zhw h1).1;have hmn2:=zz0 h1;have hln:=P.ln;refine zw8 (size:=4) (least:=8) P h1 (by omega) (by omega) (by omega) (by omega) (λv1 P1 hw1=>?_);have hn9:n≤100000:=by omega
 refine zq3 (σ:=Nat×Value) (λs=>s.2) (λs=>.int .i64 (s.1:Nat))
  (λs h'=>∃ F' M' N' v' rows ri,h'=⟨F',M',N'⟩∧za7 F F'∧N≤N'∧(∀ q,q≠p -> q<N -> M' q=M q)∧za5 M' N'∧s.1≤n∧zhe F' M' p v' ri∧rdL rdE (n - s.1) ri=some (es.drop s.1,r)∧own M' N 143 2 s.2 s.1 rows.flatten∧zag (ze2 F') 2 rows (es.take s.1)) (λs=>n - s.1) (0,.slice none 0 0) rfl rfl
  (λhw2=>⟨_,za1 hw2,F,_,N,v1,[],r1,rfl,za7.refl _,Nat.le_refl _,λq hq _=>za3 _ _ hq,hm.set hpN _,Nat.zero_le _,P1,by simpa using h,own.nil,zag.nil _ _⟩) (λk1 s j h1 hI hw1 next=>?_)
 rw [zpx];obtain ⟨F2,M2,N2,v2,rows,ri,rfl,hF2,hN2,hM2,hm2,hi,P2,hrd,ho,hrow⟩:=hI;refine zat (λhlt=>?_) (λhge=>?_)
 rotate_left
 ·try simp only [sS]
  try rw [t151_1_1_1_1]
  have e1:s.1=n:=by omega
  rw [e1,Nat.sub_self] at hrd;simp only [rdL,Option.some.injEq,Prod.mk.injEq] at hrd;rw [e1] at ho;rw [List.take_of_length_le (by omega)] at hrow;rw [hrd.2] at P2;refine λhc=>⟨_,zog (p:=λq=>N≤q) hc,λhw'=>k s.2 v2 _ _ N2 (P2.keep (zc5 hc) (zch (by omega))) (hF2.trans (zc5 hc)) ⟨rows,?_,hrow.mono λ_ _ h=>h.mono (zc5 hc)⟩ hN2 (λq q1 q2=>(zch (by omega)).trans (hM2 q q1 q2)) (zei hm2) hw'⟩;rw [hn];exact ho.frzP (λq hq=>(ho.ge q hq).1)
 have i1:s.1<n:=by omega
 obtain ⟨r2,hf,hrd2⟩:=zzy i1 hn hrd;unfold rdE at hf;cases hk1:rd 4 ri with
 | none=>rw [hk1] at hf; cases hf
 | some q=>
 obtain ⟨tm,r3⟩:=q;rw [hk1] at hf;simp only at hf;cases hk2:zfb r3 with
 | none=>rw [hk2] at hf; cases hf
 | some q=>
 obtain ⟨fs,r4⟩:=q;rw [hk2] at hf;simp only [Option.some.injEq,Prod.mk.injEq] at hf;obtain ⟨hfe,rfl⟩:=hf;have hln2:=P2.ln;have ht0:=zfv hk1 P2.bt;have hfn:=yqn hk2;have hr3:r3.length≤ri.length:=by rw [ht0.2.2.1,List.length_drop]; omega
 try simp only [sS]
 refine ldM (v:=.bool false) ?_ P2.pp;try simp only [sS]
 refine zaa (v:=.agg #[.int .u32 0,.slice none 0 0]) (by kernel_rfl) ?_;refine zap (cs:=[.int .u32 0,.slice none 0 0]) (λb hb=>?_);refine stM (cs':=[.int .u32 0,.slice none 0 0]) ?_ (za0 _ _ _) rfl;rw [zan];refine (show (_:Hp -> Prop) ⟨F2,upd M2 b (some (.cells 143 [.int .u32 0,.slice none 0 0] 2)),b+1⟩ from ?_);have hb3:=za0 M2 b (some (.cells 143 [.int .u32 0,.slice none 0 0] 2));have hM3:∀ q,q<N2 -> upd M2 b (some (.cells 143 [.int .u32 0,.slice none 0 0] 2)) q=M2 q:=λq hq=>za3 _ _ (by omega);have hm3:=hm2.new hb (some (.cells 143 [.int .u32 0,.slice none 0 0] 2));generalize upd M2 b _=M3 at *;have P3:=P2.keep (M':=M3) (za7.refl _) (hM3 p (by omega));have hpb:p≠b:=by omega
 refine zkn (size:=4) P3 hk1 (by omega) (by omega) (λv4 P4 hw4=>?_);refine zaa (v:=.int .u32 tm) (by have:IntKind.u32.wrap tm=tm:=(by rw [IntKind.wrap_u32]; have := ht0.2.1; omega); simp [cvV,this]) ?_;try simp only [sS]
 refine stM (cs':=[.int .u32 tm,.slice none 0 0]) ?_ ((za3 _ _ hpb.symm).trans hb3) rfl;have hb5:=za0 (upd M3 p (some (.cells 199 [v4,.bool false] 2))) b (some (.cells 143 [.int .u32 tm,.slice none 0 0] 2));have hM5:∀ q,q≠p -> q≠b -> upd (upd M3 p (some (.cells 199 [v4,.bool false] 2))) b (some (.cells 143 [.int .u32 tm,.slice none 0 0] 2)) q=M3 q:=λq q1 q2=>(za3 _ _ q2).trans (za3 _ _ q1);have P5:=P4.keep (M':=upd (upd M3 p (some (.cells 199 [v4,.bool false] 2))) b (some (.cells 143 [.int .u32 tm,.slice none 0 0] 2))) (za7.refl _) (za3 _ _ hpb);have hm5:=(hm3.set (show p<b+1 by omega) (some (.cells 199 [v4,.bool false] 2))).set (show b<b+1 by omega) (some (.cells 143 [.int .u32 tm,.slice none 0 0] 2));generalize upd (upd M3 p _) b _=M5 at *;refine yod P5 hk2 (λfv v6 F6 M6 N6 P6 hF6 hf6 hN6 hM6 hm6 hw6=>?_);have hf60:=hf6;obtain ⟨fa,fc,rfl⟩:=hf6.form;have hb6:=(hM6 b hpb.symm (by omega)).trans hb5;try simp only [sS]
 refine stM (cs':=[.int .u32 tm,.slice fa fs.length fc]) ?_ hb6 rfl;have hM7:∀ q,q≠b -> upd M6 b (some (.cells 143 [.int .u32 tm,.slice fa fs.length fc] 2)) q=M6 q:=λq hq=>za3 _ _ hq;have hb7:=za0 M6 b (some (.cells 143 [.int .u32 tm,.slice fa fs.length fc] 2));have hm7:=hm6.set (show b<N6 by omega) (some (.cells 143 [.int .u32 tm,.slice fa fs.length fc] 2));generalize upd M6 b _=M7 at *;refine zb6 (vs:=[.int .u32 tm,.slice fa fs.length fc]) ?_ hb7;have hol:∀ q,s.2.ownBlock=some q -> N≤q∧q<N2:=λq hq=>⟨(ho.ge q hq).1,ho.lt hm2 q hq⟩;have low:∀ q,q≠p -> q<N2 -> M7 q=M2 q:=λq q1 q2=>(hM7 q (by omega)).trans ((hM6 q q1 (by omega)).trans ((hM5 q q1 (by omega)).trans (hM3 q q2)));have ho7:own M7 N 143 2 s.2 s.1 rows.flatten:=ho.keep (λq hq=>low q (by have := hol q hq; omega) (hol q hq).2) (Nat.le_refl _);refine zhb (new:=[.int .u32 tm,.slice fa fs.length fc]) ho7 hm7 (by omega) (by kernel_rfl) rfl (List.all_eq_true.1 rfl) (by omega) (by unfold maxLen; omega) (λpp v8 M8 N8 h8 hf8 hN8 hm8=>?_);refine zas (by omega) ?_;have P8:=P6.keep (M':=M8) (za7.refl _) (((hf8 p (λe=>by have := (hol p e).1; omega) (by omega)).1).trans (hM7 p hpb));refine next (s.1+1,v8) _ _ (by simp only; omega) (λhw9=>⟨_,za1 hw9,F6,M8,N8,v6,rows++[[.int .u32 tm,.slice fa fs.length fc]],r4,rfl,hF2.trans hF6,by omega,λq q1 q2=>?_,hm8,i1,P8,hrd2,?_,?_⟩)
 ·exact (((hf8 q (λe=>by have := (hol q e).1; omega) (by omega)).1).trans ((low q q1 (by omega)).trans (hM2 q q1 q2)))
 ·simpa using h8
 ·simp only;rw [List.take_add_one,List.getElem?_eq_getElem (by omega),Option.toList_some]
  have h1f:ze2 F6 [.int .u32 tm,.slice fa fs.length fc] es[s.1]:=by
   rw [← hfe];exact ⟨_,rfl,hf60,by show fs.length≤_; omega⟩
  exact zca (hrow.mono λ_ _ h=>h.mono hF6) h1f.one h1f
theorem yrk {r:zaj} (h7:r.kind=7) {l rest:List Int} (h:rdR l=some (r,rest)):∃ l1 l2 l3 l4,rd 1 l=some (7,l1)∧rd 4 l1=some (r.id,l2)∧rd 4 l2=some (r.lo,l3)∧rd 4 l3=some (r.hi,l4)∧zgz l4=some (r.es,rest)∧r=⟨7,r.id,0,[],[],r.lo,r.hi,r.es⟩:=by
 unfold rdR at h;cases h1:rd 1 l with
 | none=>rw [h1] at h; cases h
 | some q=>
 obtain ⟨kind,l1⟩:=q;rw [h1] at h;simp only at h;cases h2:rd 4 l1 with
 | none=>rw [h2] at h; cases h
 | some q=>
 obtain ⟨id,l2⟩:=q;rw [h2] at h;simp only at h
 have hk:kind=7:=by
  split at h
  ·split at h
   ·cases h
   ·split at h
    ·cases h
    ·simp only [Option.some.injEq,Prod.mk.injEq] at h; rw [← h.1] at h7; exact h7
  ·split at h
   ·split at h
    ·cases h
    ·split at h
     ·cases h
     ·simp only [Option.some.injEq,Prod.mk.injEq] at h; rw [← h.1] at h7; exact h7
   ·split at h
    ·assumption
    ·simp only [Option.some.injEq,Prod.mk.injEq] at h; rw [← h.1] at h7; exact h7
 subst hk;rw [if_neg (by omega),if_neg (by omega),if_pos rfl] at h;cases h3:rd 4 l2 with
 | none=>rw [h3] at h; cases h
 | some q=>
 obtain ⟨lo,l3⟩:=q;rw [h3] at h;simp only at h;cases h4:rd 4 l3 with
 | none=>rw [h4] at h; cases h
 | some q=>
 obtain ⟨hi,l4⟩:=q;rw [h4] at h;simp only at h;cases h5:zgz l4 with
 | none=>rw [h5] at h; cases h
 | some q=>
 obtain ⟨es,l5⟩:=q;rw [h5] at h;simp only [Option.some.injEq,Prod.mk.injEq] at h;obtain ⟨rfl,rfl⟩:=h;exact ⟨l1,l2,l3,l4,rfl,h2,h3,h4,h5,rfl⟩
theorem yrs {p:Nat} {v:Value} {l rest:List Int} {r:zaj} (P:zhe F M p v l) (h:rdR l=some (r,rest)) (h7:r.kind=7)
  (k:∀ cs v' F' M' N',zdr F' cs r -> zhe F' M' p v' rest -> za7 F F' -> N≤N' -> (∀ q,q≠p -> q<N -> M' q=M q) -> za5 M' N' -> (Hp.mk F' M' N').wf -> K (.agg cs.toArray) ⟨F',M',N'⟩) :
  cF 101 #[.pointer (some ⟨p,0,none⟩)] K E ⟨F,M,N⟩:=by
 refine za4 za8 Tryz.func101 (by kernel_rfl) (t101 _ E _) (λhw=>?_);have hm:za5 M N:=hw.m;have hpN:=hm.lt P.pp;obtain ⟨l1,l2,l3,l4,g1,g2,g3,g4,g5,er⟩:=yrk h7 h;have hbt:=P.bt;refine zap (cs:=zac) (λb1 hb1=>?_);refine zaa (v:=.agg zac.toArray) (by kernel_rfl) ?_;refine zap (cs:=zac) (λb3 hb3=>?_);refine stM (cs':=zac) ?_ (za0 _ _ _) rfl;rw [zan];refine (show (_:Hp -> Prop) ⟨F,upd (upd M b1 (some (.cells 77 zac 10))) b3 (some (.cells 77 zac 10)),b3+1⟩ from ?_);have x1:upd (upd M b1 (some (.cells 77 zac 10))) b3 (some (.cells 77 zac 10)) b1=_:=(za3 _ _ (by omega)).trans (za0 _ _ _);have x3:=za0 (upd M b1 (some (.cells 77 zac 10))) b3 (some (.cells 77 zac 10));have low:∀ q,q<N -> upd (upd M b1 (some (.cells 77 zac 10))) b3 (some (.cells 77 zac 10)) q=M q:=λq hq=>(za3 _ _ (by omega)).trans (za3 _ _ (by omega));have hm2:=(hm.new hb1 (some (.cells 77 zac 10))).new hb3 (some (.cells 77 zac 10));generalize upd (upd M b1 _) b3 _=M2 at *;have P2:=P.keep (M':=M2) (za7.refl _) (low p hpN);refine zkn (size:=1) P2 g1 (by omega) (by omega) (λv3 P3 hw3=>?_);refine zaa (v:=.int .u8 7) rfl ?_;try simp only [sS]
 refine stM (cs':=.int .u8 7::zac.drop 1) ?_ ((za3 _ _ (by omega)).trans x3) rfl;have y1:∀ (a b:Option zak),upd (upd M2 p a) b3 b b1=_:=λa b=>(za3 _ _ (by omega)).trans ((za3 _ _ (by omega)).trans x1);have P4:=P3.keep (M':=upd (upd M2 p (some (.cells 199 [v3,.bool false] 2))) b3 (some (.cells 77 (.int .u8 7::zac.drop 1) 10))) (za7.refl _) (za3 _ _ (by omega));have x4:=za0 (upd M2 p (some (.cells 199 [v3,.bool false] 2))) b3 (some (.cells 77 (.int .u8 7::zac.drop 1) 10));have x41:=y1 (some (.cells 199 [v3,.bool false] 2)) (some (.cells 77 (.int .u8 7::zac.drop 1) 10));have low4:∀ q,q≠p -> q<N -> upd (upd M2 p (some (.cells 199 [v3,.bool false] 2))) b3 (some (.cells 77 (.int .u8 7::zac.drop 1) 10)) q=M q:=λq q1 q2=>(za3 _ _ (by omega)).trans ((za3 _ _ q1).trans (low q q2));have hm4:=(hm2.set (show p<b3+1 by omega) (some (.cells 199 [v3,.bool false] 2))).set (show b3<b3+1 by omega) (some (.cells 77 (.int .u8 7::zac.drop 1) 10));generalize upd (upd M2 p _) b3 _=M4 at *;have hid:=zfv g2 P4.bt;refine zkn (size:=4) P4 g2 (by omega) (by omega) (λv5 P5 hw5=>?_);refine zaa (v:=.int .u32 r.id) (by have:IntKind.u32.wrap r.id=r.id:=(by rw [IntKind.wrap_u32]; have := hid.2.1; omega); simp [cvV,this]) ?_;try simp only [sS]
 refine stM (cs':=.int .u8 7 :: .int .u32 r.id::zac.drop 2) ?_ ((za3 _ _ (by omega)).trans x4) rfl;have P6:=P5.keep (M':=upd (upd M4 p (some (.cells 199 [v5,.bool false] 2))) b3 (some (.cells 77 (.int .u8 7 :: .int .u32 r.id::zac.drop 2) 10))) (za7.refl _) (za3 _ _ (by omega));have x6:=za0 (upd M4 p (some (.cells 199 [v5,.bool false] 2))) b3 (some (.cells 77 (.int .u8 7 :: .int .u32 r.id::zac.drop 2) 10));have x61:upd (upd M4 p (some (.cells 199 [v5,.bool false] 2))) b3 (some (.cells 77 (.int .u8 7 :: .int .u32 r.id::zac.drop 2) 10)) b1=_:=(za3 _ _ (by omega)).trans ((za3 _ _ (by omega)).trans x41);have low6:∀ q,q≠p -> q<N -> upd (upd M4 p (some (.cells 199 [v5,.bool false] 2))) b3 (some (.cells 77 (.int .u8 7 :: .int .u32 r.id::zac.drop 2) 10)) q=M q:=λq q1 q2=>(za3 _ _ (by omega)).trans ((za3 _ _ q1).trans (low4 q q1 q2));have hm6:=(hm4.set (show p<b3+1 by omega) (some (.cells 199 [v5,.bool false] 2))).set (show b3<b3+1 by omega) (some (.cells 77 (.int .u8 7 :: .int .u32 r.id::zac.drop 2) 10));generalize upd (upd M4 p _) b3 _=M6 at *;refine ldM (v:=.int .u8 7) ?_ x6;refine zbj (by decide) (zaq ?_);refine zbj (by decide) (zaq ?_);refine zbj (by decide) (zaq ?_);refine zeg rfl (zax ?_);have hlo:=zfv g3 P6.bt;refine zkn (size:=4) P6 g3 (by omega) (by omega) (λv7 P7 hw7=>?_);refine zaa (yen hlo.1 (by have := hlo.2.1; omega)) ?_;try simp only [sS]
 refine stM (cs':=[.int .u8 7,.int .u32 r.id,.int .u32 0,.slice none 0 0,.slice none 0 0,.int .u32 0,.slice none 0 0,.int .i64 r.lo,.int .i64 0,.slice none 0 0]) ?_ ((za3 _ _ (by omega)).trans x6) rfl;have P8:=P7.keep (M':=upd (upd M6 p (some (.cells 199 [v7,.bool false] 2))) b3 (some (.cells 77 [.int .u8 7,.int .u32 r.id,.int .u32 0,.slice none 0 0,.slice none 0 0,.int .u32 0,.slice none 0 0,.int .i64 r.lo,.int .i64 0,.slice none 0 0] 10))) (za7.refl _) (za3 _ _ (by omega));have x8:=za0 (upd M6 p (some (.cells 199 [v7,.bool false] 2))) b3 (some (.cells 77 [.int .u8 7,.int .u32 r.id,.int .u32 0,.slice none 0 0,.slice none 0 0,.int .u32 0,.slice none 0 0,.int .i64 r.lo,.int .i64 0,.slice none 0 0] 10));have x81:upd (upd M6 p (some (.cells 199 [v7,.bool false] 2))) b3 (some (.cells 77 [.int .u8 7,.int .u32 r.id,.int .u32 0,.slice none 0 0,.slice none 0 0,.int .u32 0,.slice none 0 0,.int .i64 r.lo,.int .i64 0,.slice none 0 0] 10)) b1=_:=(za3 _ _ (by omega)).trans ((za3 _ _ (by omega)).trans x61);have low8:∀ q,q≠p -> q<N -> upd (upd M6 p (some (.cells 199 [v7,.bool false] 2))) b3 (some (.cells 77 [.int .u8 7,.int .u32 r.id,.int .u32 0,.slice none 0 0,.slice none 0 0,.int .u32 0,.slice none 0 0,.int .i64 r.lo,.int .i64 0,.slice none 0 0] 10)) q=M q:=λq q1 q2=>(za3 _ _ (by omega)).trans ((za3 _ _ q1).trans (low6 q q1 q2));have hm8:=(hm6.set (show p<b3+1 by omega) (some (.cells 199 [v7,.bool false] 2))).set (show b3<b3+1 by omega) (some (.cells 77 [.int .u8 7,.int .u32 r.id,.int .u32 0,.slice none 0 0,.slice none 0 0,.int .u32 0,.slice none 0 0,.int .i64 r.lo,.int .i64 0,.slice none 0 0] 10));generalize upd (upd M6 p _) b3 _=M8 at *;have hhi:=zfv g4 P8.bt;refine zkn (size:=4) P8 g4 (by omega) (by omega) (λv9 P9 hw9=>?_);refine zaa (yen hhi.1 (by have := hhi.2.1; omega)) ?_;try simp only [sS]
 refine stM (cs':=[.int .u8 7,.int .u32 r.id,.int .u32 0,.slice none 0 0,.slice none 0 0,.int .u32 0,.slice none 0 0,.int .i64 r.lo,.int .i64 r.hi,.slice none 0 0]) ?_ ((za3 _ _ (by omega)).trans x8) rfl;have P10:=P9.keep (M':=upd (upd M8 p (some (.cells 199 [v9,.bool false] 2))) b3 (some (.cells 77 [.int .u8 7,.int .u32 r.id,.int .u32 0,.slice none 0 0,.slice none 0 0,.int .u32 0,.slice none 0 0,.int .i64 r.lo,.int .i64 r.hi,.slice none 0 0] 10))) (za7.refl _) (za3 _ _ (by omega));have x10:=za0 (upd M8 p (some (.cells 199 [v9,.bool false] 2))) b3 (some (.cells 77 [.int .u8 7,.int .u32 r.id,.int .u32 0,.slice none 0 0,.slice none 0 0,.int .u32 0,.slice none 0 0,.int .i64 r.lo,.int .i64 r.hi,.slice none 0 0] 10));have x101:upd (upd M8 p (some (.cells 199 [v9,.bool false] 2))) b3 (some (.cells 77 [.int .u8 7,.int .u32 r.id,.int .u32 0,.slice none 0 0,.slice none 0 0,.int .u32 0,.slice none 0 0,.int .i64 r.lo,.int .i64 r.hi,.slice none 0 0] 10)) b1=_:=(za3 _ _ (by omega)).trans ((za3 _ _ (by omega)).trans x81);have low10:∀ q,q≠p -> q<N -> upd (upd M8 p (some (.cells 199 [v9,.bool false] 2))) b3 (some (.cells 77 [.int .u8 7,.int .u32 r.id,.int .u32 0,.slice none 0 0,.slice none 0 0,.int .u32 0,.slice none 0 0,.int .i64 r.lo,.int .i64 r.hi,.slice none 0 0] 10)) q=M q:=λq q1 q2=>(za3 _ _ (by omega)).trans ((za3 _ _ q1).trans (low8 q q1 q2));have hm10:=(hm8.set (show p<b3+1 by omega) (some (.cells 199 [v9,.bool false] 2))).set (show b3<b3+1 by omega) (some (.cells 77 [.int .u8 7,.int .u32 r.id,.int .u32 0,.slice none 0 0,.slice none 0 0,.int .u32 0,.slice none 0 0,.int .i64 r.lo,.int .i64 r.hi,.slice none 0 0] 10));generalize upd (upd M8 p _) b3 _=M10 at *;refine ypx P10 g5 (λev v11 F11 M11 N11 P11 hF11 he11 hN11 hM11 hm11 hw11=>?_);have he110:=he11;obtain ⟨ea,ec,rfl⟩:=he11.form;try simp only [sS]
 refine stM (cs':=[.int .u8 7,.int .u32 r.id,.int .u32 0,.slice none 0 0,.slice none 0 0,.int .u32 0,.slice none 0 0,.int .i64 r.lo,.int .i64 r.hi,.slice ea r.es.length ec]) ?_ ((hM11 b3 (by omega) (by omega)).trans x10) rfl;rw [zxc];refine zb6 (vs:=[.int .u8 7,.int .u32 r.id,.int .u32 0,.slice none 0 0,.slice none 0 0,.int .u32 0,.slice none 0 0,.int .i64 r.lo,.int .i64 r.hi,.slice ea r.es.length ec]) ?_ (za0 _ _ _);refine stM (cs':=[.int .u8 7,.int .u32 r.id,.int .u32 0,.slice none 0 0,.slice none 0 0,.int .u32 0,.slice none 0 0,.int .i64 r.lo,.int .i64 r.hi,.slice ea r.es.length ec]) ?_ ((za3 _ _ (by omega)).trans ((hM11 b1 (by omega) (by omega)).trans x101)) rfl;refine zb6 (vs:=[.int .u8 7,.int .u32 r.id,.int .u32 0,.slice none 0 0,.slice none 0 0,.int .u32 0,.slice none 0 0,.int .i64 r.lo,.int .i64 r.hi,.slice ea r.es.length ec]) ?_ (za0 _ _ _);refine λhc=>⟨_,za1 hc,λhw'=>k _ v11 _ _ N11 ?_ (P11.keep (za7.refl _) ((za3 _ _ (by omega)).trans (za3 _ _ (by omega)))) hF11 (by omega) (λq q1 q2=>(za3 _ _ (by omega)).trans ((za3 _ _ (by omega)).trans ((hM11 q q1 (by omega)).trans (low10 q q1 q2)))) ((hm11.set (by omega) _).set (by omega) _) hw'⟩;rw [er];exact ⟨none,0,.slice none 0 0,none,0,.slice ea r.es.length ec,rfl,sF.nil _ _ _,⟨[],sF.nil _ _ _,zag.nil _ _⟩,he110⟩
theorem yhl {e:EqK} {s:ByteArray} {h:Hp} (k:K (.bool false) h):pv (za2 e .neq (.string s) (.string s)) K h:=zaa (v:=.bool false) (by simp [za2,zvy]) k
theorem ymd {v:Value} {r:zaj} (hv:sF F 1 v (zah r).length (bts (zah r))) (hs:zbn r=true) (ht:r.typ) (hL:r.lens) (h7:r.kind=7) (hl:(zah r).length≤60000) (hnl:r.ns.length≤1000000) (hfl:r.fs.length≤1000000) (hel:r.es.length≤1000000) (hee:∀ e∈r.es,e.2.length≤1000000)
  (k:∀ cs F' M' N',zdr F' cs r -> za7 F F' -> N≤N' -> (∀ q,q<N -> M' q=M q) -> za5 M' N' -> (Hp.mk F' M' N').wf -> K (.tuple #[.agg cs.toArray,.int .i64 0]) ⟨F',M',N'⟩) :
  cF 50 #[v] K E ⟨F,M,N⟩:=by
 refine za4 za8 Tryz.func50 (by kernel_rfl) (t50 _ E _) (λhw=>?_);have hm:za5 M N:=hw.m;obtain ⟨va,vc,rfl,_⟩:=hv.form;refine zap (cs:=zac) (λb1 hb1=>?_);refine zaa (v:=.int .i64 ((zah r).length:Nat)) rfl ?_;refine zbw (λhg=>absurd hg (by omega)) (λ_=>?_);refine zaq ?_;refine zaa (v:=.agg #[.slice va (zah r).length vc,.bool false]) (by kernel_rfl) ?_;refine zap (cs:=[.slice va (zah r).length vc,.bool false]) (λp hp=>?_);refine (show (_:Hp -> Prop) ⟨F,upd (upd M b1 (some (.cells 77 zac 10))) p (some (.cells 199 [.slice va (zah r).length vc,.bool false] 2)),p+1⟩ from ?_);have x1:upd (upd M b1 (some (.cells 77 zac 10))) p (some (.cells 199 [.slice va (zah r).length vc,.bool false] 2)) b1=_:=(za3 _ _ (by omega)).trans (za0 _ _ _);have P:zhe F (upd (upd M b1 (some (.cells 77 zac 10))) p (some (.cells 199 [.slice va (zah r).length vc,.bool false] 2))) p (.slice va (zah r).length vc) (zah r):=⟨za0 _ _ _,hv,zl9 r,by omega⟩;have low:∀ q,q<N -> upd (upd M b1 (some (.cells 77 zac 10))) p (some (.cells 199 [.slice va (zah r).length vc,.bool false] 2)) q=M q:=λq hq=>(za3 _ _ (by omega)).trans (za3 _ _ (by omega));have hm2:=(hm.new hb1 (some (.cells 77 zac 10))).new hp (some (.cells 199 [.slice va (zah r).length vc,.bool false] 2));generalize upd (upd M b1 _) p _=M2 at *;have hrd:rdR (zah r)=some (r,[]):=by have := ydr hs ht []; rwa [List.append_nil] at this
 refine yrs P hrd h7 (λcs v3 F3 M3 N3 hz P3 hF3 hN3 hM3 hm3 hw3=>?_);have hz0:=hz;obtain ⟨na,nc,fv,sa,sc,ev,rfl,hn,hf,he⟩:=hz;obtain ⟨fa,fc,rfl⟩:=hf.form;obtain ⟨ea,ec,rfl⟩:=he.form;refine zap (cs:=zac) (λb9 hb9=>?_);refine stM (cs':=[.int .u8 r.kind,.int .u32 r.id,.int .u32 r.tm,.slice na r.ns.length nc,.slice fa r.fs.length fc,.int .u32 0,.slice sa 0 sc,.int .i64 r.lo,.int .i64 r.hi,.slice ea r.es.length ec]) ?_ (za0 _ _ _) rfl;rw [zan];refine (show (_:Hp -> Prop) ⟨F3,upd M3 b9 (some (.cells 77 [.int .u8 r.kind,.int .u32 r.id,.int .u32 r.tm,.slice na r.ns.length nc,.slice fa r.fs.length fc,.int .u32 0,.slice sa 0 sc,.int .i64 r.lo,.int .i64 r.hi,.slice ea r.es.length ec] 10)),b9+1⟩ from ?_);have x9:=za0 M3 b9 (some (.cells 77 [.int .u8 r.kind,.int .u32 r.id,.int .u32 r.tm,.slice na r.ns.length nc,.slice fa r.fs.length fc,.int .u32 0,.slice sa 0 sc,.int .i64 r.lo,.int .i64 r.hi,.slice ea r.es.length ec] 10));have hM9:∀ q,q<N3 -> upd M3 b9 (some (.cells 77 [.int .u8 r.kind,.int .u32 r.id,.int .u32 r.tm,.slice na r.ns.length nc,.slice fa r.fs.length fc,.int .u32 0,.slice sa 0 sc,.int .i64 r.lo,.int .i64 r.hi,.slice ea r.es.length ec] 10)) q=M3 q:=λq hq=>za3 _ _ (by omega);have hm9:=hm3.new hb9 (some (.cells 77 [.int .u8 r.kind,.int .u32 r.id,.int .u32 r.tm,.slice na r.ns.length nc,.slice fa r.fs.length fc,.int .u32 0,.slice sa 0 sc,.int .i64 r.lo,.int .i64 r.hi,.slice ea r.es.length ec] 10));generalize upd M3 b9 _=M9 at *;refine zb6 (vs:=[.int .u8 r.kind,.int .u32 r.id,.int .u32 r.tm,.slice na r.ns.length nc,.slice fa r.fs.length fc,.int .u32 0,.slice sa 0 sc,.int .i64 r.lo,.int .i64 r.hi,.slice ea r.es.length ec]) ?_ x9;refine yhp hz0 hL ht (by omega) hnl hfl hel hee (by omega) (λh=>by rw [hs] at h; cases h) (λ_ h=>by omega) (λ_ _ w M10 N10 ho hM10 hN10 hm10 hw10=>?_);have x10:=(hM10 b9 (by omega)).trans x9;have q10:=(hM10 p (by omega)).trans ((hM9 p (by omega)).trans P3.pp);try simp only [sS]
 refine ldM (v:=.bool false) ?_ q10;try simp only [sS]
 refine zc3 rfl ?_;try simp only [sS]
 refine zm5 ho.rd.read ?_;try simp only [sS]
 refine zm5 (hv.mono hF3).sR.read ?_;try simp only [sS]
 refine yhl ?_;try simp only [sS]
 refine zb6 (vs:=[.int .u8 r.kind,.int .u32 r.id,.int .u32 r.tm,.slice na r.ns.length nc,.slice fa r.fs.length fc,.int .u32 0,.slice sa 0 sc,.int .i64 r.lo,.int .i64 r.hi,.slice ea r.es.length ec]) ?_ x10;refine stM (cs':=[.int .u8 r.kind,.int .u32 r.id,.int .u32 r.tm,.slice na r.ns.length nc,.slice fa r.fs.length fc,.int .u32 0,.slice sa 0 sc,.int .i64 r.lo,.int .i64 r.hi,.slice ea r.es.length ec]) ?_ ((hM10 b1 (by omega)).trans ((hM9 b1 (by omega)).trans ((hM3 b1 (by omega) (by omega)).trans x1))) rfl;refine zb6 (vs:=[.int .u8 r.kind,.int .u32 r.id,.int .u32 r.tm,.slice na r.ns.length nc,.slice fa r.fs.length fc,.int .u32 0,.slice sa 0 sc,.int .i64 r.lo,.int .i64 r.hi,.slice ea r.es.length ec]) ?_ (za0 _ _ _);exact λhc=>⟨_,za1 hc,λhw'=>k _ F3 _ N10 hz0 hF3 (by omega) (λq hq=>(za3 _ _ (by omega)).trans ((hM10 q (by omega)).trans ((hM9 q (by omega)).trans ((hM3 q (by omega) (by omega)).trans (low q hq))))) (hm10.set (by omega) _) hw'⟩
theorem yk3 {v:Value} {m:zaj} (hv:sF F 1 v (zbe m).length (bts (zbe m))) (hs:zbp m=true) (ht:m.typ) (hL:m.lens) (h7:m.kind=8∨m.kind=9∨m.kind=10) (hl:(zah (zav m)).length≤60000) (hnl:m.ns.length≤1000000) (hfl:m.fs.length≤1000000) (hel:m.es.length≤1000000) (hee:∀ e∈m.es,e.2.length≤1000000)
  (k:∀ cs F' M' N',zfz F' cs m -> za7 F F' -> N≤N' -> (∀ q,q<N -> M' q=M q) -> za5 M' N' -> (Hp.mk F' M' N').wf -> K (.tuple #[.agg cs.toArray,.int .i64 0]) ⟨F',M',N'⟩) :
  cF 18 #[v] K E ⟨F,M,N⟩:=by
 refine za4 za8 Tryz.func18 (by kernel_rfl) (t18 _ E _) (λhw=>?_);have hm:za5 M N:=hw.m
 have hsr:zbn (zav m)=true:=by
  unfold zbp at hs; simp only [Bool.and_eq_true] at hs; exact hs.2.2.2
 have hk7:(zav m).kind=7:=by show zbv m.kind=7; unfold zbv; rw [if_neg (by omega),if_neg (by omega),if_pos h7]
 have hle:(zbe m).length=(zah (zav m)).length+1:=by simp [zbe]
 rcases hv.2 with ⟨a,c1,h1,h2⟩ | ⟨b,o,c,ccs,rfl,h2,h3,h4⟩
 ·rw [hle] at h2; omega
 refine zap (cs:=zc4) (λb1 hb1=>?_);refine zaa (v:=.int .i64 ((zbe m).length:Nat)) rfl ?_;refine zat (λhg=>absurd hg (by omega)) (λ_=>?_);refine zaq ?_;refine zfj 1 (by omega) h2 ?_;have hdrop:=ycx (n:=1) hv (by omega);rw [show (zbe m).drop 1=zah (zav m) from rfl] at hdrop;refine (show (_:Hp -> Prop) ⟨F,upd M b1 (some (.cells 49 zc4 8)),b1+1⟩ from ?_);have x1:=za0 M b1 (some (.cells 49 zc4 8));have low1:∀ q,q<N -> upd M b1 (some (.cells 49 zc4 8)) q=M q:=λq hq=>za3 _ _ (by omega);have hm1:=hm.new hb1 (some (.cells 49 zc4 8));generalize upd M b1 _=M1 at *;refine ymd (r:=zav m) hdrop hsr (znz ht) (zgp hL) hk7 hl hnl hfl hel hee (λcs F2 M2 N2 hz hF2 hN2 hM2 hm2 hw2=>?_);obtain ⟨na,nc,fv,sa,sc,ev,rfl,hn,hf,he⟩:=hz;obtain ⟨fa,fc,rfl⟩:=hf.form;obtain ⟨ea,ec,rfl⟩:=he.form;refine zaa rfl (zaa rfl ?_);refine zap (cs:=zac) (λb10 hb10=>?_);refine stM (cs':=[.int .u8 (zav m).kind,.int .u32 m.id,.int .u32 m.tm,.slice na m.ns.length nc,.slice fa m.fs.length fc,.int .u32 0,.slice sa 0 sc,.int .i64 m.lo,.int .i64 m.hi,.slice ea m.es.length ec]) ?_ (za0 _ _ _) rfl;rw [zan];refine (show (_:Hp -> Prop) ⟨F2,upd M2 b10 (some (.cells 77 [.int .u8 (zav m).kind,.int .u32 m.id,.int .u32 m.tm,.slice na m.ns.length nc,.slice fa m.fs.length fc,.int .u32 0,.slice sa 0 sc,.int .i64 m.lo,.int .i64 m.hi,.slice ea m.es.length ec] 10)),b10+1⟩ from ?_);have x10:=za0 M2 b10 (some (.cells 77 [.int .u8 (zav m).kind,.int .u32 m.id,.int .u32 m.tm,.slice na m.ns.length nc,.slice fa m.fs.length fc,.int .u32 0,.slice sa 0 sc,.int .i64 m.lo,.int .i64 m.hi,.slice ea m.es.length ec] 10));have low10:∀ q,q<N2 -> upd M2 b10 (some (.cells 77 [.int .u8 (zav m).kind,.int .u32 m.id,.int .u32 m.tm,.slice na m.ns.length nc,.slice fa m.fs.length fc,.int .u32 0,.slice sa 0 sc,.int .i64 m.lo,.int .i64 m.hi,.slice ea m.es.length ec] 10)) q=M2 q:=λq hq=>za3 _ _ (by omega);have hm10:=hm2.new hb10 (some (.cells 77 [.int .u8 (zav m).kind,.int .u32 m.id,.int .u32 m.tm,.slice na m.ns.length nc,.slice fa m.fs.length fc,.int .u32 0,.slice sa 0 sc,.int .i64 m.lo,.int .i64 m.hi,.slice ea m.es.length ec] 10));generalize upd M2 b10 _=M10 at *;have hv2:=hv.mono hF2;refine zct (i:=0) (by omega) ?_
 have hc0:ccs[o+0*1]?=some (.int .u8 m.kind):=by
  have h5:(bts (zbe m))[0]?=some (.int .u8 m.kind):=rfl;rw [← h4,List.getElem?_take,if_pos (by omega),List.getElem?_drop] at h5
  simpa using h5
 refine zfo (zaz (zh9 (hF2 _ _ h3)) hc0) ?_;try simp only [sS]
 refine ldM (v:=.int .u32 m.id) ?_ x10;try simp only [sS]
 refine ldM (v:=.int .u32 m.tm) ?_ x10;try simp only [sS]
 refine ldM (v:=.slice na m.ns.length nc) ?_ x10;try simp only [sS]
 refine ldM (v:=.slice fa m.fs.length fc) ?_ x10;try simp only [sS]
 refine ldM (v:=.int .i64 m.lo) ?_ x10;try simp only [sS]
 refine ldM (v:=.int .i64 m.hi) ?_ x10;try simp only [sS]
 refine ldM (v:=.slice ea m.es.length ec) ?_ x10;refine zaa (v:=.agg #[.int .u8 m.kind,.int .u32 m.id,.int .u32 m.tm,.slice na m.ns.length nc,.slice fa m.fs.length fc,.int .i64 m.lo,.int .i64 m.hi,.slice ea m.es.length ec]) (by kernel_rfl) ?_;have hzm:zfz F2 [.int .u8 m.kind,.int .u32 m.id,.int .u32 m.tm,.slice na m.ns.length nc,.slice fa m.fs.length fc,.int .i64 m.lo,.int .i64 m.hi,.slice ea m.es.length ec] m:=⟨na,nc,.slice fa m.fs.length fc,.slice ea m.es.length ec,rfl,hn,hf,he⟩;refine zap (cs:=zc4) (λb28 hb28=>?_);have y10:∀ c,upd M10 b28 c b10=_:=λc=>(za3 _ _ (by omega)).trans x10;refine ⟨zaz (zb4 (y10 _)) rfl,zaz (zb4 (y10 _)) rfl,zaz (zb4 (y10 _)) rfl,zaz (zb4 (y10 _)) rfl,zaz (zb4 (y10 _)) rfl,zaz (zb4 (y10 _)) rfl,zaz (zb4 (y10 _)) rfl,zaz (zh9 (hF2 _ _ h3)) hc0,?_⟩;refine stM (cs':=[.int .u8 m.kind,.int .u32 m.id,.int .u32 m.tm,.slice na m.ns.length nc,.slice fa m.fs.length fc,.int .i64 m.lo,.int .i64 m.hi,.slice ea m.es.length ec]) ?_ (za0 _ _ _) rfl;rw [zan];refine (show (_:Hp -> Prop) ⟨F2,upd M10 b28 (some (.cells 49 [.int .u8 m.kind,.int .u32 m.id,.int .u32 m.tm,.slice na m.ns.length nc,.slice fa m.fs.length fc,.int .i64 m.lo,.int .i64 m.hi,.slice ea m.es.length ec] 8)),b28+1⟩ from ?_);have x28:=za0 M10 b28 (some (.cells 49 [.int .u8 m.kind,.int .u32 m.id,.int .u32 m.tm,.slice na m.ns.length nc,.slice fa m.fs.length fc,.int .i64 m.lo,.int .i64 m.hi,.slice ea m.es.length ec] 8));have low28:∀ q,q<b10+1 -> upd M10 b28 (some (.cells 49 [.int .u8 m.kind,.int .u32 m.id,.int .u32 m.tm,.slice na m.ns.length nc,.slice fa m.fs.length fc,.int .i64 m.lo,.int .i64 m.hi,.slice ea m.es.length ec] 8)) q=M10 q:=λq hq=>za3 _ _ (by omega);have hm28:=hm10.new hb28 (some (.cells 49 [.int .u8 m.kind,.int .u32 m.id,.int .u32 m.tm,.slice na m.ns.length nc,.slice fa m.fs.length fc,.int .i64 m.lo,.int .i64 m.hi,.slice ea m.es.length ec] 8));generalize upd M10 b28 _=M28 at *;refine zb6 (vs:=[.int .u8 m.kind,.int .u32 m.id,.int .u32 m.tm,.slice na m.ns.length nc,.slice fa m.fs.length fc,.int .i64 m.lo,.int .i64 m.hi,.slice ea m.es.length ec]) ?_ x28;refine zr5 hzm hL ht (by omega) hnl hfl hel hee (by omega) (λhno=>absurd ⟨hs,hl⟩ hno) (λ_ _ w M30 N30 ho hM30 hN30 hm30 hw30=>?_);have x30:=(hM30 b28 (by omega)).trans x28;try simp only [sS]
 refine zc3 rfl ?_;try simp only [sS]
 refine zc3 rfl ?_;try simp only [sS]
 refine zm5 ho.rd.read ?_;try simp only [sS]
 refine zm5 hv2.sR.read ?_;try simp only [sS]
 refine yhl ?_;try simp only [sS]
 refine zb6 (vs:=[.int .u8 m.kind,.int .u32 m.id,.int .u32 m.tm,.slice na m.ns.length nc,.slice fa m.fs.length fc,.int .i64 m.lo,.int .i64 m.hi,.slice ea m.es.length ec]) ?_ x30;refine stM (cs':=[.int .u8 m.kind,.int .u32 m.id,.int .u32 m.tm,.slice na m.ns.length nc,.slice fa m.fs.length fc,.int .i64 m.lo,.int .i64 m.hi,.slice ea m.es.length ec]) ?_ ((hM30 b1 (by omega)).trans ((low28 b1 (by omega)).trans ((low10 b1 (by omega)).trans ((hM2 b1 (by omega)).trans x1)))) rfl;refine zb6 (vs:=[.int .u8 m.kind,.int .u32 m.id,.int .u32 m.tm,.slice na m.ns.length nc,.slice fa m.fs.length fc,.int .i64 m.lo,.int .i64 m.hi,.slice ea m.es.length ec]) ?_ (za0 _ _ _);exact λhc=>⟨_,za1 hc,λhw'=>k _ F2 _ N30 hzm hF2 (by omega) (λq hq=>(za3 _ _ (by omega)).trans ((hM30 q (by omega)).trans ((low28 q (by omega)).trans ((low10 q (by omega)).trans ((hM2 q (by omega)).trans (low1 q hq)))))) (hm30.set (by omega) _) hw'⟩
section
variable {B nb lg pd:Nat} {v:Value} {room:Int} {p g mb:Nat} {hv dv:Value} {rows:List (List Value)} {l:List Dm} {me:Int} {ov:Value} {s:NS}
theorem yoz {frm:Int} {bv:Value} {m:zaj} {s':NS} {ans:List zaj} (H:zao F M B nb lg pd v s.bs s.ls room p g mb hv dv rows l s.h s.bt s.tk me ov) (hB:B≤N) (hr0:0≤room) (hroom:room≤2000000) (o:okH l 5000 200 s.h) (hdl:l.length≤1000)
  (hv0:sF F 1 bv (zbe m).length (bts (zbe m))) (ho:∀ q,bv.ownBlock=some q -> q<N) (hs:zbp m=true) (ht:m.typ) (hl:(zah (zav m)).length≤60000) (hk:1≤m.kind∧m.kind≤11)
  (hE:E [] zcu) (h12:s.bt.length≤12) (hGe:(zah (zav (mGv m s.h))).length≤2097152) (hGl:(mGv m s.h).lens) (hGt:(mGv m s.h).typ)
  (hfb:(zal s.bt m.id).fs.length≤140737488351232) (htm:0≤(zal s.bt m.id).tm∧(zal s.bt m.id).tm<4294967296) (es:zbi l room s m=(s',ans))
  (k:∀ v' hv' F' M' N' rows' ov',za7 F F' -> zao F' M' B nb lg pd v' s'.bs s'.ls room p g mb hv' dv rows' l s'.h s'.bt s'.tk me ov' -> zk5 F' ov' (ans.map λa=>(me,frm,zbe a)) ->
   (∀ q,¬ nft nb lg pd p g mb v hv q -> q<N -> M' q=M q∧¬ nft nb lg pd p g mb v' hv' q) -> N≤N' -> za5 M' N' -> (Hp.mk F' M' N').wf -> K (.tuple #[ov',.int .u16 0]) ⟨F',M',N'⟩) :
  cF 16 #[.pointer (some ⟨nb,0,none⟩),.int .i64 frm,bv] K E ⟨F,M,N⟩:=by
 obtain ⟨g1,g2,g3⟩:=ya6 hs hl;refine zxn H hB hr0 hroom o hdl hv0.sR ho (ydn (by omega)) (by simp [zbe]; omega) (ybr m) (yak hs ht hl) (λ_=>⟨hE,h12,hGe,hGl,hGt⟩) g1 g2 (by omega) hfb htm (λs2 ans2 es2=>?_);rw [es] at es2;simp only [Prod.mk.injEq] at es2;obtain ⟨rfl,rfl⟩:=es2;exact k
theorem yga {id at':Int} {fv:Value} {fs:List Fc} (H:zao F M B nb lg pd v s18.bs s18.ls 262144 p g mb hv dv rows l s18.h s18.bt s18.tk me ov) (hB:B≤N) (hl:zfe l) (hid:0≤id∧id<4294967296) (hat:0<at'∧at'<4294967296) (hfv:zbo F fv fs) (hf:zcc l fs=true) (h80:fs.length≤80) (h64:∀ f∈fs,zet f.2)
  (k:∀ s',zyw s' id at' fs -> ∀ v' hv' F' M' N' rows' ov',za7 F F' -> zao F' M' B nb lg pd v' s'.bs s'.ls 262144 p g mb hv' dv rows' l s'.h s'.bt s'.tk me ov' ->
   (∀ q,¬ nft nb lg pd p g mb v hv q -> q<N -> M' q=M q∧¬ nft nb lg pd p g mb v' hv' q) -> N≤N' -> za5 M' N' -> (Hp.mk F' M' N').wf -> K (.tuple #[]) ⟨F',M',N'⟩) :
  cF 14 #[.pointer (some ⟨nb,0,none⟩),.int .u32 id,.int .u32 at',fv] K E ⟨F,M,N⟩:=by
 refine za4 za8 Tryz.func14 (by kernel_rfl) (t14 _ E _ _ _ _) (λhw=>?_);have hm:za5 M N:=hw.m;have hl4:=hl.2.1;obtain ⟨af,cf,rfl⟩:=hfv.form;refine zcx (cs:=[.int .i64 0]) (by kernel_rfl) (λb7 hb7=>?_);have x7:=za0 M b7 (some (.cells 3 [.int .i64 0] [Value.int .i64 0].length));refine zaa (v:=.agg #[.int .u8 1,.int .u32 id,.int .u32 0,.slice (some ⟨b7,0,none⟩) 1 1,.slice af fs.length cf,.int .i64 0,.int .i64 0,.slice none 0 0]) (by kernel_rfl) ?_;refine ziz (λhc=>⟨_,zdw hm (λq hq=>za3 _ _ (by omega)) hc,?_⟩);have hs7:=zb9 (N:=N) hc;have y7:=zhq (F:=F) (N:=N) (b:=b7) (by omega) x7;generalize zd3 F _ N=F7 at *;clear hc x7;have hr:zfz F7 [.int .u8 1,.int .u32 id,.int .u32 0,.slice (some ⟨b7,0,none⟩) 1 1,.slice af fs.length cf,.int .i64 0,.int .i64 0,.slice none 0 0] (mPr id fs):=⟨_,_,_,_,rfl,yon y7,hfv.mono hs7,zc6.nil⟩;have typ:=yo6 hid h64;have msnd:=ydp hl id hf;have mlen:=ydf hl id hf h80;refine zqu hr ⟨by simp [mPr],by show fs.length≤_; omega,by simp [mPr],by simp [mPr]⟩ typ (by show (1:Int)≤1∧(1:Int)≤11; omega) (by simp [mPr]) (by show fs.length≤_; omega) (by simp [mPr]) (by simp [mPr]) (by omega) (λhno=>absurd ⟨msnd,by omega⟩ hno) (λhs9 hle9 bv F9 N9 hbv hbo hF9 hN9 hw9=>?_);obtain ⟨a0,e0,pre⟩:=yq4 hl hf h80 id (room:=262144) (by omega);refine znr (s:=s18) (H.keepN (hs7.trans hF9) (λ_ _=>rfl)) (by omega) (by omega) (by omega) (okH.nil _ _ _) (by omega) hbv hbo msnd typ (by omega) (by show (1:Int)≤1∧(1:Int)≤11; omega) (by show (1:Int)≠8; omega) (by simp [s18,zal,Bt.no]) (by simp [s18,zal,Bt.no]) e0 (λv10 hv10 F10 M10 N10 rows10 ov10 hF10 H10 O10 fr10 hN10 hm10 hw10=>?_);obtain ⟨a1,e1,laid⟩:=yqm (l:=l) pre hf hat.1 (room:=262144) (by omega);generalize NS.ap l s18 (rPr (mPr id fs))=s1 at *;generalize NS.ap l s1 (rCo id at')=s2 at *;refine zaa (v:=.agg #[.int .u8 4,.int .u32 id,.int .u32 at',.slice none 0 0,.slice none 0 0,.int .i64 0,.int .i64 0,.slice none 0 0]) (by kernel_rfl) ?_;refine zqu (m:=mCo id at') (cs:=[.int .u8 4,.int .u32 id,.int .u32 at',.slice none 0 0,.slice none 0 0,.int .i64 0,.int .i64 0,.slice none 0 0]) ⟨_,_,_,_,rfl,sF.nil _ _ _,⟨[],sF.nil _ _ _,zag.nil _ _⟩,zc6.nil⟩ (yjj id at') (yds hid ⟨by omega,hat.2⟩) (by show (1:Int)≤4∧(4:Int)≤11; omega) (by simp [mCo]) (by simp [mCo]) (by simp [mCo]) (by simp [mCo]) (by have := (zx3 id at').2; omega) (λhno=>absurd (zx3 id at') hno) (λhs11 hle11 cv F11 N11 hcv hco hF11 hN11 hw11=>?_);refine znr (s:=s1) (m:=mCo id at') (H10.keepN hF11 (λ_ _=>rfl)) (by omega) (by omega) (by omega) (by rw [pre.h0]; exact okH.nil _ _ _) (by omega) hcv hco hs11 (yds hid ⟨by omega,hat.2⟩) hle11 (by show (1:Int)≤4∧(4:Int)≤11; omega) (by show (4:Int)≠8; omega) (by rw [pre.b0]; show (zal [(id,_)] id).fs.length≤_; rw [zoj]; show fs.length≤_; omega) (by rw [pre.b0]; show 0≤(zal [(id,_)] id).tm∧(zal [(id,_)] id).tm<4294967296; rw [zoj]; exact ⟨Int.le_refl _,by show (0:Int)<_; omega⟩) e1 (λv12 hv12 F12 M12 N12 rows12 ov12 hF12 H12 O12 fr12 hN12 hm12 hw12=>?_)
 exact λhc=>⟨_,za1 hc,λhw'=>k s2 laid v12 hv12 F12 M12 N12 rows12 ov12 (hs7.trans (hF9.trans (hF10.trans (hF11.trans hF12)))) H12 (λq q1 q2=>by
  have g:=fr10 q q1 (by omega);have h:=fr12 q g.2 (by omega);exact ⟨h.1.trans g.1,h.2⟩) (by omega) hm12 hw'⟩
end
theorem yqf {k:IntKind} {a b:Nat} {h:Hp} (kk:K (.int k ((min a b:Nat):Int)) h):pv (mm false (.int k (a:Nat)) (.int k (b:Nat))) K h:=by
 refine ⟨_,rfl,?_⟩;have:(if (b:Int)<(a:Int) then (b:Int) else (a:Int))=((min a b:Nat):Int):=by split<;>omega
 show K (.int k (if (b:Int)<(a:Int) then (b:Int) else (a:Int))) h
 rw [this]; exact kk
theorem yoi {k:IntKind} {a b:Nat} {h:Hp} (kk:K (.int k ((max a b:Nat):Int)) h):pv (mm true (.int k (a:Nat)) (.int k (b:Nat))) K h:=by
 refine ⟨_,rfl,?_⟩;have:(if (b:Int)>(a:Int) then (b:Int) else (a:Int))=((max a b:Nat):Int):=by split<;>omega
 show K (.int k (if (b:Int)>(a:Int) then (b:Int) else (a:Int))) h
 rw [this]; exact kk
theorem ymv {l:List Dm} (hl:zfe l) {h:List En} (o:okH l 5000 200 h):(zc9 h).length≤100000000:=by
 have hl4:=hl.2.1
 have h1:=zl7 zdq 5008 h (λe he=>by
  have h2:=zl7 zdk 25 e.2 (λf hf=>by rw [ziy]; have := zi0 (o.fi e he f hf); omega);have h3:=o.fl e he;simp only [zdq,zc8,List.length_append,za9];omega)
 have h2:=o.le;unfold zc9;rw [List.length_append,za9];have := Nat.mul_le_mul_right 5008 h2;omega
theorem yoa {ov:Value} {ms:List (Int×Int×List Int)} {K:Value -> Value -> zae} {i:Nat} (O:zk5 F ov ms) (hi:i<ms.length) (k:∀ a b u,sF F 1 u (ms[i]'hi).2.2.length (bts (ms[i]'hi).2.2) -> K a b u ⟨F,M,N⟩) :
  (pv (iaV none 3 ov (.int .i64 (i:Nat))) λa=>pv (faV 2 a) λb=>ld false 1 b (K a b)) ⟨F,M,N⟩:=by
 obtain ⟨rs,h1,h2⟩:=O;refine zeb h1 h2 (by decide) hi (off:=2) (by decide) (λp q r y hR _ hy=>?_);obtain ⟨u,rfl,hu⟩:=hR;have hy':y=u:=by simpa using hy.symm
 subst hy';exact k _ _ _ hu
theorem yc8 {um uk uo uv:Value} {m:List (Int×List Int)} {ks ko:List (List Int)} {c:List Int} {from' to':Nat} (hE:E [] zcu) (hm:zr8 F um m) (hml:m.length≤140737488351232) (hmc:∀ c∈m,(0≤c.1∧c.1<65536)∧∀ x∈c.2,0≤x∧x<256)
  (hk:zqf .u16 F uk ks) (hkl:ks.length≤140737488351232) (hkc:∀ k∈ks,∀ x∈k,0≤x∧x<65536) (hk2:zqf .u16 F uo ko) (hkl2:ko.length≤140737488351232) (hkc2:∀ k∈ko,∀ x∈k,0≤x∧x<65536) (hv:sF F 1 uv c.length (ic c)) (hcl:c.length≤140737488351232) (hcc:∀ x∈c,zet x) (h1':from'<65536) (h2':to'<65536) (k:∀ h,K (.bool true) h) :
  call Tryz.prog 3 #[um,uk,uo,uv,.int .u16 (from':Nat),.int .u16 (to':Nat)] K E ⟨F,M,N⟩:=by
 refine zkm za8 Tryz.func3 (by kernel_rfl) (t3 _ E _ _ _ _ _ _) (λhw=>?_);have hm0:za5 M N:=hw.m;have kn:∀ {M:Nat -> Option zak} {F:Nat -> Option (List Value)} {N:Nat},cF 9 #[] (λv h=>h.wf -> ∃ h',h.wk h'∧(h'.wf -> K v h')) E ⟨F,M,N⟩:=zxu hE (λF' N' _ _ _ hc=>⟨_,za1 hc,λ_=>k _⟩);have hlk:zab uk=some (.int .i64 (ks.length:Nat)):=by obtain ⟨rows,h1,_⟩:=hk; obtain ⟨a,c,e,_⟩:=h1.form; rw [e]; rfl
 have hlo:zab uo=some (.int .i64 (ko.length:Nat)):=by obtain ⟨rows,h1,_⟩:=hk2; obtain ⟨a,c,e,_⟩:=h1.form; rw [e]; rfl
 refine zaa hlk ?_;refine zbw (λh1=>?_) (λh1=>?_)
 ·try simp only [sS]; exact kn
 try simp only [sS]
 refine zaa hlo ?_;refine zbw (λh2=>?_) (λh2=>?_)
 ·try simp only [sS]; exact kn
 try simp only [sS]
 refine zxu hE (λF2 N2 hF2 hN2 hw2=>?_);try simp only [sS]
 have hgd:=zrp m (λc hc=>(hmc c hc).1);have hok:=yi5 (m:=m) (λc hc=>(hmc c hc).1);refine yr2 (hm.mono hF2) hml hmc (λudv F3 N3 hw3 hF3 hN3 hd=>?_);generalize zjc m=l at *;have hl4:=hgd.2.1;have hds:=zrm hgd;refine ybq (by omega) (by omega) (λd M4 hd4 P4 hM4 hm4 hw4=>?_);refine ybq (by omega) (by omega) (λe M5 he5 Q5 hM5 hm5 hw5=>?_);have P5:=zbc.frame P4 hm4 hM5;refine zgc ?_;try simp only [sS]
 refine zgc ?_;try simp only [sS]
 refine zni (rs:=[]) (v:=.slice none 0 0) (lasts:=0) (room:=262144) (B:=d+1) P5 (by omega) hd (by omega) (λr hr=>absurd hr List.not_mem_nil) (by simp) (λi hi=>absurd hi (by simp)) (λh=>absurd h (by rw [hok]; decide)) (λ_ na lga pa ga mba hva dva rowsa F6 M6 N6 hF6 A6 fr6 hN6 hm6 hw6=>?_);have A6':zao F6 M6 (d+1) na lga d (.slice none 0 0) s18.bs s18.ls 262144 pa ga mba hva dva rowsa l s18.h s18.bt s18.tk 0 (.slice none 0 0):=A6;clear A6;try simp only [sS]
 have ge6:=fr6 e (by omega) (by simp [Value.ownBlock]) (by omega);have Q6:zc2 M6 (e+1) e (.slice none 0 0) [] 0 262144 (-1):=⟨let ⟨lr,hp⟩:=Q5.pp; ⟨lr,ge6.1.trans hp⟩,own.nil,Q5.ne,Q5.bl⟩;refine zni (rs:=[]) (v:=.slice none 0 0) (lasts:=0) (room:=262144) (B:=e+1) Q6 (by omega) (hd.mono hF6) (by omega) (λr hr=>absurd hr List.not_mem_nil) (by simp) (λi hi=>absurd hi (by simp)) (λh=>absurd h (by rw [hok]; decide)) (λ_ nb lgb pb gb mbb hvb dvb rowsb F7 M7 N7 hF7 B7 fr7 hN7 hm7 hw7=>?_);have B7':zao F7 M7 (e+1) nb lgb e (.slice none 0 0) s18.bs s18.ls 262144 pb gb mbb hvb dvb rowsb l s18.h s18.bt s18.tk 1 (.slice none 0 0):=B7;clear B7;have la6:=A6'.lt hm6;have ne6:∀ q,nft na lga d pa ga mba (.slice none 0 0) hva q -> q≠e:=λq hq e'=>ge6.2 (e' ▸ hq);have A7:=A6'.keepN (M':=M7) hF7 (λq hq=>(fr7 q (ne6 q hq) (by simp [Value.ownBlock]) (la6 q hq)).1);have S7:∀ q,nft nb lgb e pb gb mbb (.slice none 0 0) hvb q -> ¬ nft na lga d pa ga mba (.slice none 0 0) hva q:=λq hb ha=>(fr7 q (ne6 q ha) (by simp [Value.ownBlock]) (la6 q ha)).2 hb;try simp only [sS]
 refine zc3 rfl ?_;try simp only [sS]
 refine zc3 rfl ?_;try simp only [sS]
 refine zgc ?_;try simp only [sS]
 refine zgc ?_;try simp only [sS]
 refine zhu A7 (λhw8=>?_);refine zgc ?_;try simp only [sS]
 refine zhu B7' (λhw9=>?_);refine zgc ?_;try simp only [sS]
 have F37:=hF6.trans hF7;have F27:=hF3.trans F37;refine ycs (hd.mono F37) ((hk.mono hF2).mono F27) ((hv.mono hF2).mono F27) (by omega) hds hkc hkl hcl (λfv F8 N8 hw8 hF8 hN8 hf=>?_);have hfit:=zy0 hgd ks c;have h80:(zdy l ks c).length≤80:=by rw [zkh]; omega
 have h64:=zrv (l:=l) (ks:=ks) hcc;generalize zdy l ks c=fs at *;refine yga (A7.keepN (M':=M7) hF8 (λ_ _=>rfl)) (by omega) hgd (by omega) (by omega) hf hfit h80 h64 (λsa La va hva9 F9 M9 N9 rowsa9 ova9 hF9 A9 fa9 hN9 hm9 hw9=>?_);have lb7:=B7'.lt hm7;have B9:=B7'.keepN (M':=M9) (hF8.trans hF9) (λq hq=>(fa9 q (S7 q hq) (by have := lb7 q hq; omega)).1);have S9:∀ q,nft nb lgb e pb gb mbb (.slice none 0 0) hvb q -> ¬ nft na lga d pa ga mba va hva9 q:=λq hb=>(fa9 q (S7 q hb) (by have := lb7 q hb; omega)).2;have F29:=F27.trans (hF8.trans hF9);refine ycs (hd.mono (F37.trans (hF8.trans hF9))) ((hk2.mono hF2).mono F29) ((hv.mono hF2).mono F29) (by omega) hds hkc2 hkl2 hcl (λgv F10 N10 hw10 hF10 hN10 hg=>?_);have hfit2:=zy0 hgd ko c;have h802:(zdy l ko c).length≤80:=by rw [zkh]; omega
 have h642:=zrv (l:=l) (ks:=ko) hcc;generalize zdy l ko c=gs at *;refine yga (B9.keepN (M':=M9) hF10 (λ_ _=>rfl)) (by omega) hgd (by omega) (by omega) hg hfit2 h802 h642 (λsb Lb vb hvb11 F11 M11 N11 rowsb11 ovb11 hF11 B11 fb11 hN11 hm11 hw11=>?_);have la9:=A9.lt hm9;have A11:=A9.keepN (M':=M11) (hF10.trans hF11) (λq hq=>(fb11 q (λh=>S9 q h hq) (by have := la9 q hq; omega)).1);have S11:∀ q,nft nb lgb e pb gb mbb vb hvb11 q -> ¬ nft na lga d pa ga mba va hva9 q:=λq hb ha=>(fb11 q (λh=>S9 q h ha) (by have := la9 q ha; omega)).2 hb;refine yqf ?_;refine zn4 (by omega) ?_;refine zr4 (b:=300) (by omega) ?_;refine yoi ?_;refine zn4 (by omega) ?_;refine zr4 (b:=300) (by omega) ?_;refine zji (by omega) ?_;obtain ⟨lo,hlo⟩:∃ lo,lo=min from' to'%300:=⟨_,rfl⟩
 obtain ⟨hi,hhi⟩:∃ hi,hi=min from' to'%300+max from' to'%300:=⟨_,rfl⟩
 rw [← hhi,← hlo];have hr:(0:Int)≤(lo:Nat)∧((lo:Nat):Int)≤10000∧(0:Int)≤(hi:Nat)∧((hi:Nat):Int)≤10000:=by omega
 clear hhi hlo;have oe:=ypt hgd (t:=1) (by omega) (by omega) hfit h80 h64 (lo:Nat) (hi:Nat);have hmv:=ypr (t:=1) (u:=2) (by omega) (by omega) hfit hfit2 h80 h802 (lo:Nat) (hi:Nat);have oka:=zrb (t:=1) (by omega) hfit;have okb:=zrb (t:=2) (by omega) hfit2;have gq:=yns hr;refine zaa (v:=.agg #[.int .u8 8,.int .u32 9,.int .u32 0,.slice none 0 0,.slice none 0 0,.int .i64 (lo:Nat),.int .i64 (hi:Nat),.slice none 0 0]) (by kernel_rfl) ?_;refine zqu (m:=mGq (lo:Nat) (hi:Nat)) (cs:=[.int .u8 8,.int .u32 9,.int .u32 0,.slice none 0 0,.slice none 0 0,.int .i64 (lo:Nat),.int .i64 (hi:Nat),.slice none 0 0]) ⟨none,0,.slice none 0 0,.slice none 0 0,rfl,sF.nil _ _ _,⟨[],sF.nil _ _ _,zag.nil _ _⟩,zc6.nil⟩ (ykf _ _) (ydw _ _) (by show (1:Int)≤8∧(8:Int)≤11; omega) (by simp [mGq]) (by simp [mGq]) (by simp [mGq]) (by simp [mGq]) (by have := gq.2; omega) (λhno=>absurd gq hno) (λhs12 hle12 qv F12 N12 hqv hqo hF12 hN12 hw12=>?_);have hGn:=zwa oe;refine yoz (s:=sa) (m:=mGq (lo:Nat) (hi:Nat)) (A11.keepN hF12 (λ_ _=>rfl)) (by omega) (by omega) (by omega) (by rw [La.h0]; exact oka) (by omega) hqv hqo hs12 (ydw _ _) hle12 (by show (1:Int)≤8∧(8:Int)≤11; omega) hE (by rw [La.b0]; simp) (by rw [La.h0,zu9]; omega) (by rw [La.h0,zu9]; exact ya0 oe) (by rw [La.h0,zu9]; exact yd9 oe) (by rw [La.b0]; show (zal [(3,_)] 9).fs.length≤_; simp [zal,Bt.no]) (by rw [La.b0]; show 0≤(zal [(3,_)] 9).tm∧(zal [(3,_)] 9).tm<4294967296; simp [zal,Bt.no]) (ypy La oe _) (λva13 hva13 F13 M13 N13 rowsa13 ova13 hF13 A13 O13 fa13 hN13 hm13 hw13=>?_);have lb11:=B11.lt hm11;have B13:=B11.keepN (M':=M13) (hF12.trans hF13) (λq hq=>(fa13 q (S11 q hq) (by have := lb11 q hq; omega)).1);have S13:∀ q,nft nb lgb e pb gb mbb vb hvb11 q -> ¬ nft na lga d pa ga mba va13 hva13 q:=λq hb=>(fa13 q (S11 q hb) (by have := lb11 q hb; omega)).2;try simp only [sS]
 refine O13.len ?_;refine zc3 rfl ?_;try simp only [sS]
 refine yoa (i:=0) O13 (by simp) (λ_ _ u hu=>?_);have es0:zce (lo:Nat) (hi:Nat) [(1,fs)]=zce (lo:Nat) (hi:Nat) [(1,fs)]:=rfl;have oer:=(oka.ent (lo:Nat) (hi:Nat)).rs;have oei:∀ x∈zce ((lo:Nat):Int) ((hi:Nat):Int) [(1,fs)],∀ f∈x.2,inR (lo:Nat) (hi:Nat) f=true:=λx hx f hf=>((zqo hx).2.2.1 f hf).2;have oen:∀ x∈zce ((lo:Nat):Int) ((hi:Nat):Int) [(1,fs)],x.2≠[]:=λx hx=>(zqo hx).2.2.2;have hea:zce (lo:Nat) (hi:Nat) sa.h=zce (lo:Nat) (hi:Nat) [(1,fs)]:=by rw [La.h0]
 generalize zce ((lo:Nat):Int) ((hi:Nat):Int) [(1,fs)]=es at *;refine yk3 (m:=mGn es) hu hGn.1 (yd9 oe) (ya0 oe) (by simp [mGn]) (by omega) (by simp [mGn]) (by simp [mGn]) (by have := oe.n1; show es.length≤_; omega) (λx hx=>by have := oe.n2 x hx; omega) (λcs F14 M14 N14 hz hF14 hN14 hM14 hm14 hw14=>?_);obtain ⟨za,zc,zf,ev,rfl,hzn,hzf,hze⟩:=hz;obtain ⟨fa,fc,rfl⟩:=hzf.form;have hze0:=hze;obtain ⟨ea,ec,rfl⟩:=hze.form;have A14:=A13.up hm13 hF14 hM14;have B14:=B13.up hm13 hF14 hM14;refine zaa rfl (zaa rfl ?_);refine zap (cs:=zc4) (λb66 hb66=>?_);refine stM (cs':=[.int .u8 9,.int .u32 9,.int .u32 0,.slice za ([]:List Int).length zc,.slice fa ([]:List Fc).length fc,.int .i64 0,.int .i64 0,.slice ea es.length ec]) ?_ (za0 _ _ _) rfl;rw [zan];refine (show (_:Hp -> Prop) ⟨F14,upd M14 b66 (some (.cells 49 [.int .u8 9,.int .u32 9,.int .u32 0,.slice za ([]:List Int).length zc,.slice fa ([]:List Fc).length fc,.int .i64 0,.int .i64 0,.slice ea es.length ec] 8)),b66+1⟩ from ?_);have x66:=za0 M14 b66 (some (.cells 49 [.int .u8 9,.int .u32 9,.int .u32 0,.slice za ([]:List Int).length zc,.slice fa ([]:List Fc).length fc,.int .i64 0,.int .i64 0,.slice ea es.length ec] 8));have low66:∀ q,q<N14 -> upd M14 b66 (some (.cells 49 [.int .u8 9,.int .u32 9,.int .u32 0,.slice za ([]:List Int).length zc,.slice fa ([]:List Fc).length fc,.int .i64 0,.int .i64 0,.slice ea es.length ec] 8)) q=M14 q:=λq hq=>za3 _ _ (by omega);have hm15:=hm14.new hb66 (some (.cells 49 [.int .u8 9,.int .u32 9,.int .u32 0,.slice za ([]:List Int).length zc,.slice fa ([]:List Fc).length fc,.int .i64 0,.int .i64 0,.slice ea es.length ec] 8));generalize upd M14 b66 _=M15 at *;have A15:=A14.up hm14 (za7.refl _) low66;have B15:=B14.up hm14 (za7.refl _) low66;have la14:=A14.lt hm14;have lb14:=B14.lt hm14;try simp only [sS]
 refine ldM (v:=.slice ea es.length ec) ?_ x66;refine zaa (v:=.agg #[.int .u8 10,.int .u32 9,.int .u32 0,.slice none 0 0,.slice none 0 0,.int .i64 (lo:Nat),.int .i64 (hi:Nat),.slice ea es.length ec]) (by kernel_rfl) ?_;have mt:=ydq hr oe;refine zqu (m:=mTk (lo:Nat) (hi:Nat) es) (cs:=[.int .u8 10,.int .u32 9,.int .u32 0,.slice none 0 0,.slice none 0 0,.int .i64 (lo:Nat),.int .i64 (hi:Nat),.slice ea es.length ec]) ⟨none,0,.slice none 0 0,.slice ea es.length ec,rfl,sF.nil _ _ _,⟨[],sF.nil _ _ _,zag.nil _ _⟩,hze0⟩ (yig oe _ _) (zw7 oe _ _) (by show (1:Int)≤10∧(10:Int)≤11; omega) (by simp [mTk]) (by simp [mTk]) (by have := oe.n1; show es.length≤_; omega) (λx hx=>by have := oe.n2 x hx; omega) (by have := mt.2; omega) (λhno=>absurd ⟨mt.1,by have := mt.2; omega⟩ hno) (λhs16 hle16 tv F16 N16 htv hto hF16 hN16 hw16=>?_);obtain ⟨e3,t3,h3,b3⟩:=ypz (l:=l) Lb hr oe hmv (room:=262144) (by omega);refine znr (s:=sb) (m:=mTk (lo:Nat) (hi:Nat) es) (B15.keepN hF16 (λ_ _=>rfl)) (by omega) (by omega) (by omega) (by rw [Lb.h0]; exact okb) (by omega) htv hto hs16 (zw7 oe _ _) hle16 (by show (1:Int)≤10∧(10:Int)≤11; omega) (by show (10:Int)≠8; omega) (by rw [Lb.b0]; show (zal [(4,_)] 9).fs.length≤_; simp [zal,Bt.no]) (by rw [Lb.b0]; show 0≤(zal [(4,_)] 9).tm∧(zal [(4,_)] 9).tm<4294967296; simp [zal,Bt.no]) e3 (λvb17 hvb17 F17 M17 N17 rowsb17 ovb17 hF17 B17 O17 fb17 hN17 hm17 hw17=>?_)
 have okc:okH l 5000 200 (NS.ap l sb (rTk (mTk (lo:Nat) (hi:Nat) es))).h:=by
  rw [h3];have := okb.repl (lo:Nat) (hi:Nat) es;unfold zkg at this
  rwa [if_pos hmv] at this
 generalize NS.ap l sb (rTk (mTk (lo:Nat) (hi:Nat) es))=sc at *;have A17:=A15.keepN (M':=M17) (hF16.trans hF17) (λq hq=>(fb17 q (λh=>S13 q h hq) (by have := la14 q hq; omega)).1);have S17:∀ q,nft nb lgb e pb gb mbb vb17 hvb17 q -> ¬ nft na lga d pa ga mba va13 hva13 q:=λq hb ha=>(fb17 q (λh=>S13 q h ha) (by have := la14 q ha; omega)).2 hb;have x17:=(fb17 b66 (λh=>by have := lb14 _ h; omega) (by omega)).1.trans x66;have nx17:¬ nft nb lgb e pb gb mbb vb17 hvb17 b66:=(fb17 b66 (λh=>by have := lb14 _ h; omega) (by omega)).2;try simp only [sS]
 refine zhu B17 (λhw18=>?_);try simp only [sS]
 refine ldM (v:=.pointer (some ⟨gb,0,none⟩)) ?_ B17.pt.pp;refine zjp B17.pt.cc okc (by omega) (λwv F18 N18 hw18 hF18 hN18 hwe=>?_);have B18:=B17.keepN (M':=M17) hF18 (λ_ _=>rfl);refine znr (s:=sc) (m:=mTk (lo:Nat) (hi:Nat) es) B18 (by omega) (by omega) (by omega) okc (by omega) (htv.mono (hF17.trans hF18)) (λq hq=>by have := hto q hq; omega) hs16 (zw7 oe _ _) hle16 (by show (1:Int)≤10∧(10:Int)≤11; omega) (by show (10:Int)≠8; omega) (by rw [b3,Lb.b0]; show (zal [(4,_)] 9).fs.length≤_; simp [zal,Bt.no]) (by rw [b3,Lb.b0]; show 0≤(zal [(4,_)] 9).tm∧(zal [(4,_)] 9).tm<4294967296; simp [zal,Bt.no]) (yp2 t3 _ _ _ _) (λvb19 hvb19 F19 M19 N19 rowsb19 ovb19 hF19 B19 O19 fb19 hN19 hm19 hw19=>?_);have la17:=A17.lt hm17;have A19:=A17.keepN (M':=M19) (hF18.trans hF19) (λq hq=>(fb19 q (λh=>S17 q h hq) (by have := la17 q hq; omega)).1);have x19:=(fb19 b66 nx17 (by omega)).1.trans x17;have O17':=O17.mono (hF18.trans hF19);try simp only [sS]
 refine zc3 rfl ?_;try simp only [sS]
 refine ldM (v:=.int .u8 9) ?_ x19;refine zc3 rfl ?_;try simp only [sS]
 refine O17'.len ?_;refine zc3 rfl ?_;try simp only [sS]
 refine O19.len ?_;refine zc3 rfl ?_;try simp only [sS]
 refine zn3 (i:=0) (x:=11) O17' (by simp) rfl (λ_ _ _ _=>?_);refine zc3 rfl ?_;try simp only [sS]
 refine zn3 (i:=0) (x:=11) O19 (by simp) rfl (λ_ _ _ _=>?_);refine zc3 rfl ?_;try simp only [sS]
 refine zhu B19 (λhw20=>?_);try simp only [sS]
 refine ldM (v:=.pointer (some ⟨gb,0,none⟩)) ?_ B19.pt.pp;refine zjp B19.pt.cc okc (by omega) (λu1 F20 N20 hw20 hF20 hN20 hu1=>?_);have A20:=A19.keepN (M':=M19) hF20 (λ_ _=>rfl);have B20:=B19.keepN (M':=M19) hF20 (λ_ _=>rfl);refine zhu A20 (λhw21=>?_);try simp only [sS]
 refine ldM (v:=.pointer (some ⟨ga,0,none⟩)) ?_ A20.pt.pp;refine zjp A20.pt.cc (by rw [La.h0]; exact oka) (by omega) (λu2 F21 N21 hw21 hF21 hN21 hu2=>?_);have B21:=B20.keepN (M':=M19) hF21 (λ_ _=>rfl);rw [hea] at hu2;rw [h3,yij okb.rs oer oei oen] at hu1;refine ydc (hu1.mono hF21) hu2 (by have := oe.n1; omega) (λx hx=>by have := oe.n2 x hx; omega) (by have := oe.len; omega) (λN22 hN22 hw22=>?_);try simp only [sS]
 refine zhu B21 (λhw23=>?_);try simp only [sS]
 refine ldM (v:=.pointer (some ⟨gb,0,none⟩)) ?_ B21.pt.pp;refine zjp B21.pt.cc okc (by omega) (λu3 F24 N24 hw24 hF24 hN24 hu3=>?_);have oc:=okc.ent 0 10000;refine ydc (hwe.mono (hF19.trans (hF20.trans (hF21.trans hF24)))) hu3 (by have := oc.le; omega) (λx hx=>by have := oc.fl x hx; omega) (by have := ymv hgd oc; omega) (λN25 hN25 hw25=>?_);try simp only [sS]
 exact λhc=>⟨_,za1 hc,λ_=>k _⟩
def bAb:Bts:=[(3,⟨3,0,[],[]⟩)]
def yyf:zaj:=⟨4,3,5,[],[],0,0,[]⟩
structure yya (s:NS) (fs:List Fc):Prop where
 h0:s.h=[]
 b0:s.bt=[]∨s.bt=[(3,⟨1,0,[0],fs⟩)]
 l0:s.bs.length≤10000
def abd (s:NS) (l:List Dm):NS:={ NS.ap l s (rAb 3) with ls:=s.ls }
section
variable {B nb lg pd:Nat} {v:Value} {p g mb:Nat} {hv dv:Value} {rows:List (List Value)} {l:List Dm} {ov:Value} {s:NS}
end
theorem ygc {f:FuncId} {args:Array Value} {W:World} (h:call Tryz.prog f args (λv _=>v=.bool true) (λ_ h=>h=zcu) (h0 W)):Calls Tryz.prog f args W λe w'=>e=.returned (.bool true)∧Below W.heap.size W w' :=
 (yn9 (K:=λv=>v=.bool true) h).mono λe w' ⟨⟨v,he,hv⟩,hb⟩=>⟨by rw [he,hv],hb⟩
theorem yn2 {x:Int} (h:(Lit.int .i64 x).wf=true):zet x:=by
 simp [Lit.wf,IntKind.min,IntKind.max,IntKind.bits,IntKind.signed] at h
 unfold zet; omega
end Go.Proofs.YtlhlhpgjnjjhnaaGreatDoor.A
