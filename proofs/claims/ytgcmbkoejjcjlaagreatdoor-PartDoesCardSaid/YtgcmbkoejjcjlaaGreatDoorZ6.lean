import Derived.Test.YtgcmbkoejjcjlaaGreatDoorZ5
import Derived.Test.YtgcmbkoejjcjlaaGreatDoorProg
import Derived.Test.YtgcmbkoejjcjlaaGreatDoorZ1
import Derived.Test.YtgcmbkoejjcjlaaGreatDoorZ4
import Derived.Test.YtgcmbkoejjcjlaaGreatDoorZ3
set_option maxHeartbeats 4000000
open Go Go.RowKit Go.Proofs.YtgcmbkoejjcjlaaGreatDoor.K Go.Proofs.YtgcmbkoejjcjlaaGreatDoor.T
set_option linter.unusedVariables false
set_option linter.unusedSimpArgs false
namespace Go.Proofs.YtgcmbkoejjcjlaaGreatDoor.A
variable {F F':Nat→Option (List Value)} {M M':Nat→Option zak} {N N':Nat} {K:zae} {E:zat}
theorem yl6 {mb:Nat} (k:∀ bm F' N',(Hp.mk F' M N').wf→zac F F'→N≤N'→F' bm=some [.map (some mb)]→K (.func (.func 71) #[] #[.pointer (some ⟨bm,0,none⟩)]) ⟨F',M,N'⟩) :
  za2 Tryz.prog (.func (.func 39) #[] #[]) #[.map (some mb)] K E ⟨F,M,N⟩:=by
 refine za3 mixed Tryz.func39 (by kernel_rfl) (t39 _ E _) (fun hw=>?_)
 have hm:za7 M N:=hw.m
 refine zal (cs:=[.map (some mb)]) (fun b1 hb1=>?_)
 exact fun hc=>⟨_,zb7 hm (fun q hq=>za4 _ _ (by omega)) hc,fun hw'=>k b1 _ _ hw' (zag hc) (by omega) (zgs (by omega) (za5 _ _ _))⟩
section
variable {B p g mb:Nat} {hv dv:Value} {rows:List (List Value)} {l:List Dm} {h:List En} {bs:Bts} {tk:Int}
theorem zfy.mem {es:Array MapEntry} (hd:zfy F es bs) (x:Int):(∃ e∈es.toList,e.key=.int .u32 x)↔zoh bs x=true:=by
 have h1:(∃ e∈es.toList,e.key=.int .u32 x)↔Value.int .u32 x∈es.toList.map (·.key):=by rw [List.mem_map]
 rw [h1,hd.keys,List.mem_map,zek]
 constructor
 ·rintro ⟨y,hy,e⟩; exact ⟨y,hy,by simpa using e⟩
 ·rintro ⟨y,hy,e⟩; exact ⟨y,hy,by rw [e]⟩
def yeh (bs:Bts) (x:Int):Bool:=decide ((zaw bs x).st=1)
def zju (bs:Bts) (ws:List Int):Prop:=zlj ws∧∀ x,x∈ws↔zoh bs x=true∧yeh bs x=true
set_option maxRecDepth 10000 in
theorem zww (hE:E [] zh4) (P:zbi F M B p g mb hv dv rows l h bs tk) (h12:bs.length≤12)
  (k:∀ v' (ws:List Int) F' N',(Hp.mk F' M N').wf→zac F F'→N≤N'→zju bs ws→sF F' 1 v' ws.length (ick .u32 ws)→K v' ⟨F',M,N'⟩) :
  za2 Tryz.prog (.func (.func 18) #[] #[]) #[.pointer (some ⟨p,0,none⟩)] K E ⟨F,M,N⟩:=by
 refine za3 mixed Tryz.func18 (by kernel_rfl) (t18 _ E _) (fun hw=>?_)
 have hm:za7 M N:=hw.m
 refine zal (cs:=[.pointer (some ⟨p,0,none⟩)]) (fun b1 hb1=>?_)
 generalize hM1e:upd M b1 _=M1
 have hb:∃ e,M1 b1=some (.cells e [.pointer (some ⟨p,0,none⟩)] 1):=⟨_,by rw [← hM1e]; exact za5 _ _ _⟩
 have P1:zbi F M1 B p g mb hv dv rows l h bs tk:=by rw [← hM1e]; exact P.box hm hb1 _
 have hm1:za7 M1 (b1+1):=by rw [← hM1e]; exact hm.new hb1 _
 have hM1:∀ q,q<N→M1 q=M q:=fun q hq=>by rw [← hM1e]; exact za4 _ _ (by omega)
 clear hM1e
 obtain ⟨ty,hb⟩:=hb
 refine ldM (v:=.pointer (some ⟨p,0,none⟩)) ?_ hb
 try simp only [sS]
 refine ldM (v:=.map (some mb)) ?_ P1.pp
 refine yl6 (fun bm F2 N2 hw2 hF2 hN2 hbm=>?_)
 obtain ⟨es,h2,h3⟩:=P1.mm
 refine yei hE hbm h2 (h3.k (by omega)) (by rw [h3.len]; exact h12) (fun v3 l3 M3 N3 hr3 hmem3 ho3 hM3 hN3 hm3 hw3=>?_)
 have hpl:=P1.lt hm1
 have P3:zbi F2 M3 B p g mb hv dv rows l h bs tk:=P1.keep hF2 (fun q hq=>hM3 q (by have := (hpl q hq).2; omega))
 have hlen3:l3.length≤1000000:=by
  have n3:l3.Nodup:=hr3.imp (fun {x y} h=>by omega)
  have := zko (b:=bs.map (·.1)) n3 (fun x hx=>by
   obtain ⟨y,hy,e⟩:=zek.1 ((h3.mem x).1 ((hmem3 x).1 hx))
   exact List.mem_map.2 ⟨y,hy,e⟩)
  rw [List.length_map] at this; omega
 have hb3:=(hM3 b1 (by omega)).trans hb
 have hvge:∀ q,v3.ownBlock=some q→N2≤q:=fun q e=>(ho3.ge q e).1
 refine ym5 (p:=yeh bs) ho3 (by omega) (fun {K'} M4 N4 x hN4 hM4 hm4 kk=>?_) (fun v5 M5 N5 ho5 hM5 hN5 hm5 hw5=>⟨_,za0 hw5,fun hw6=>?_⟩)
 ·refine za3 mixed Tryz.func40 (by kernel_rfl) (t40 _ E _ _) (fun hw=>?_)
  have hb4:=(hM4 b1 (fun e=>by have := hvge b1 e; omega) (by omega)).trans hb3
  refine ldM (v:=.pointer (some ⟨p,0,none⟩)) ?_ hb4
  have P4:zbi F2 M4 B p g mb hv dv rows l h bs tk:=P3.keep (zac.refl _) (fun q hq=>hM4 q (fun e=>by have := hvge q e; have := (hpl q hq).2; omega) (by have := (hpl q hq).2; omega))
  refine ycd P4 (fun hw7=>?_)
  try simp only [sS]
  exact fun hc=>⟨_,za0 hc,fun hw8=>kk N4 (Nat.le_refl _) hw8⟩
 ·have hX:∀ q,q<N→M5 q=M q:=fun q hq=>((hM5 q (fun e=>by have := hvge q e; omega) (by omega)).1).trans ((hM3 q (by omega)).trans (hM1 q hq))
  refine fun hc=>⟨_,zb7 hm hX hc,fun hw'=>k v5 _ _ _ hw' (hF2.trans (zag hc)) (by omega) ⟨hr3.filter _,fun x=>?_⟩ (ho5.rd.frz hc (fun b e=>.inl (by have := (ho5.ge b e).1; omega)))⟩
  rw [List.mem_filter,hmem3,h3.mem]
theorem yha {id:Int} (P:zbi F M B p g mb hv dv rows l h bs tk) (hl:(zaw bs id).ns.length≤17592186043904) (k:∀ v' F' N',(Hp.mk F' M N').wf→zac F F'→N≤N'→sF F' 1 v' (zaw bs id).ns.length (ic (zaw bs id).ns)→K v' ⟨F',M,N'⟩) :
  za2 Tryz.prog (.func (.func 61) #[] #[]) #[.pointer (some ⟨p,0,none⟩),.int .u32 id] K E ⟨F,M,N⟩:=by
 refine za3 mixed Tryz.func61 (by kernel_rfl) (t61 _ E _ _) (fun hw=>?_)
 have hm:za7 M N:=hw.m
 obtain ⟨es,h1,h2⟩:=P.mm
 try simp only [sS]
 refine ldM (v:=.map (some mb)) ?_ P.pp
 refine zph (id:=id) h1 h2 (fun v hv=>?_)
 obtain ⟨nv,fv,rfl,hn,_⟩:=hv
 refine zaa (v:=nv) (by kernel_rfl) ?_
 refine ycg hm hn.sR (by omega) (fun v2 F2 N2 hw2 hF2 hN2 h3=>?_)
 exact fun hc=>⟨_,za0 hc,fun hw'=>k v2 F2 N2 hw' hF2 hN2 h3⟩
def apE (l:List Dm) (h:List En) (bs:Bts) (tk:Int) (r:zcw):Nat:=if r.kind=1 then ppE l bs r else if r.kind=2 then cmE l h bs r else if r.kind=3 then abE bs r else if r.kind=7 then tkE l h tk r else 1
def apH (l:List Dm) (h:List En) (bs:Bts) (tk:Int) (r:zcw):List En:=if r.kind=2 then cmH l h bs r else if r.kind=7 then tkH l h tk r else h
def apS (l:List Dm) (h:List En) (bs:Bts) (r:zcw):Bts:=if r.kind=1 then ppS l bs r else if r.kind=2 then cmS l h bs r else if r.kind=3 then abS bs r else bs
def apT (l:List Dm) (h:List En) (tk:Int) (r:zcw):Int:=if r.kind=7 then tkT l h tk r else tk
structure zcw.ok (r:zcw):Prop where
 i0:0≤r.id∧r.id<4294967296
 t0:0≤r.tm
 nl:r.ns.length≤17592186043904
 fl:r.fs.length≤140737488351232
 el:r.es.length≤140737488351232
 eT:∀ e∈r.es,e.1<4294967296
set_option maxRecDepth 10000 in
theorem zr1 {cs:List Value} {r:zcw} (P:zbi F M B p g mb hv dv rows l h bs tk) (hB:B≤N) (o:okH l 5000 200 h) (hdl:l.length≤1000) (hr:zhd F cs r) (ok:r.ok) (hfb:(zaw bs r.id).fs.length≤140737488351232)
  (k:∀ hv' F' M' N' rows',zac F F'→zbi F' M' B p g mb hv' dv rows' l (apH l h bs tk r) (apS l h bs r) (apT l h tk r)→pfr M M' N p g mb hv hv'→N≤N'→za7 M' N'→(Hp.mk F' M' N').wf→K (.int .u16 ((apE l h bs tk r:Nat):Int)) ⟨F',M',N'⟩) :
  za2 Tryz.prog (.func (.func 14) #[] #[]) #[.pointer (some ⟨p,0,none⟩),.agg cs.toArray] K E ⟨F,M,N⟩:=by
 refine za3 mixed Tryz.func14 (by kernel_rfl) (t14 _ E _ _) (fun hw=>?_)
 have hm:za7 M N:=hw.m
 have hr0:=hr
 refine zal (cs:=cs) (fun b1 hb1=>?_) rfl
 obtain ⟨nv,fv,ep,sv,ev,e,_⟩:=hr
 have hb:=za5 M b1 (some (.cells 44 cs cs.length))
 have P1:=P.box hm hb1 (some (.cells 44 cs cs.length))
 have hm1:=hm.new hb1 (some (.cells 44 cs cs.length))
 have hM1:∀ q,q<N→upd M b1 (some (.cells 44 cs cs.length)) q=M q:=fun q hq=>za4 _ _ (by omega)
 generalize upd M b1 _=M1 at *
 have hb':=hb
 subst e
 have trp:∀ {M':Nat→Option zak} {hv':Value},pfr M1 M' (b1+1) p g mb hv hv'→pfr M M' N p g mb hv hv':=fun f q q1 q2 q3 q4 q5=>⟨((f q q1 q2 q3 q4 (by omega)).1).trans (hM1 q q5),(f q q1 q2 q3 q4 (by omega)).2⟩
 have trq:∀ {M':Nat→Option zak},(∀ q,q≠mb→q<b1+1→M' q=M1 q)→pfr M M' N p g mb hv hv:=fun f q q1 _ q3 _ q5=>⟨(f q q3 (by omega)).trans (hM1 q q5),q1⟩
 try simp only [sS]
 refine ldM (v:=.int .u8 r.kind) ?_ hb
 refine zba (fun h1=>?_) (fun h1=>?_)
 ·have eE:apE l h bs tk r=ppE l bs r:=by unfold apE; rw [if_pos h1]
  have eS:apS l h bs r=ppS l bs r:=by unfold apS; rw [if_pos h1]
  have eH:apH l h bs tk r=h:=by unfold apH; rw [if_neg (by omega),if_neg (by omega)]
  have eT:apT l h tk r=tk:=by unfold apT; rw [if_neg (by omega)]
  rw [eE,eS,eH,eT] at k
  try simp only [sS]
  refine zas ?_ hb
  refine yld P1 hdl hr0 ok.i0.1 ok.i0.2 ok.nl ok.fl (fun F2 M2 N2 hF2 P2 hM2 hN2 hm2 hw2=>?_)
  exact fun hc=>⟨_,za0 hc,fun hw'=>k hv F2 M2 N2 rows hF2 P2 (trq hM2) (by omega) hm2 hw'⟩
 try simp only [sS]
 refine zba (fun h2=>?_) (fun h2=>?_)
 ·have eE:apE l h bs tk r=cmE l h bs r:=by unfold apE; rw [if_neg h1,if_pos h2]
  have eS:apS l h bs r=cmS l h bs r:=by unfold apS; rw [if_neg h1,if_pos h2]
  have eH:apH l h bs tk r=cmH l h bs r:=by unfold apH; rw [if_pos h2]
  have eT:apT l h tk r=tk:=by unfold apT; rw [if_neg (by omega)]
  rw [eE,eS,eH,eT] at k
  try simp only [sS]
  refine zas ?_ hb
  refine yfp P1 (by omega) hdl o.le hr0 ok.i0.1 ok.i0.2 ok.t0 hfb (fun hv2 F2 M2 N2 rows2 hF2 P2 hM2 hN2 hm2 hw2=>?_)
  exact fun hc=>⟨_,za0 hc,fun hw'=>k hv2 F2 M2 N2 rows2 hF2 P2 (trp hM2) (by omega) hm2 hw'⟩
 try simp only [sS]
 refine zba (fun h3=>?_) (fun h3=>?_)
 ·have eE:apE l h bs tk r=abE bs r:=by unfold apE; rw [if_neg h1,if_neg h2,if_pos h3]
  have eS:apS l h bs r=abS bs r:=by unfold apS; rw [if_neg h1,if_neg h2,if_pos h3]
  have eH:apH l h bs tk r=h:=by unfold apH; rw [if_neg h2,if_neg (by omega)]
  have eT:apT l h tk r=tk:=by unfold apT; rw [if_neg (by omega)]
  rw [eE,eS,eH,eT] at k
  try simp only [sS]
  refine zas ?_ hb
  refine ygu P1 hr0 ok.i0.1 ok.i0.2 (fun M2 N2 P2 hM2 hN2 hm2 hw2=>?_)
  exact fun hc=>⟨_,za0 hc,fun hw'=>k hv F M2 N2 rows (zac.refl _) P2 (trq hM2) (by omega) hm2 hw'⟩
 try simp only [sS]
 refine zba (fun h4=>?_) (fun h4=>?_)
 ·have eE:apE l h bs tk r=tkE l h tk r:=by unfold apE; rw [if_neg h1,if_neg h2,if_neg h3,if_pos h4]
  have eS:apS l h bs r=bs:=by unfold apS; rw [if_neg h1,if_neg h2,if_neg h3]
  have eH:apH l h bs tk r=tkH l h tk r:=by unfold apH; rw [if_neg h2,if_pos h4]
  have eT:apT l h tk r=tkT l h tk r:=by unfold apT; rw [if_pos h4]
  rw [eE,eS,eH,eT] at k
  try simp only [sS]
  refine zas ?_ hb
  refine yl4 P1 (by omega) o hdl hr0 ok.el ok.eT (fun hv2 F2 M2 N2 rows2 hF2 P2 hM2 hN2 hm2 hw2=>?_)
  exact fun hc=>⟨_,za0 hc,fun hw'=>k hv2 F2 M2 N2 rows2 hF2 P2 (trp hM2) (by omega) hm2 hw'⟩
 ·have eE:apE l h bs tk r=1:=by unfold apE; rw [if_neg h1,if_neg h2,if_neg h3,if_neg h4]
  have eS:apS l h bs r=bs:=by unfold apS; rw [if_neg h1,if_neg h2,if_neg h3]
  have eH:apH l h bs tk r=h:=by unfold apH; rw [if_neg h2,if_neg h4]
  have eT:apT l h tk r=tk:=by unfold apT; rw [if_neg h4]
  rw [eE,eS,eH,eT] at k
  try simp only [sS]
  exact fun hc=>⟨_,za0 hc,fun hw'=>k hv F M1 (b1+1) rows (zac.refl _) P1 (fun q q1 _ _ _ q5=>⟨hM1 q q5,q1⟩) (by omega) hm1 hw'⟩
set_option maxRecDepth 10000 in
theorem zsc {cs:List Value} {t:Int} {m lo hi:List Int} (hE:E [] zh4) (P:zbi F M B p g mb hv dv rows l h bs tk) (h12:bs.length≤12) (hdl:l.length≤140737488351232) (hl:h.length≤5000) (hT:((h.map (·.2)).flatten).length≤1000000) (hk:∀ e∈h,∀ f∈e.2,okK f.1) (hq:zfa F cs m lo hi) (hmi:∀ x∈m,i64 x) (hok:∀ r∈tab ((ze3 h (zca h t)).map fr1),okK r.1)
  (k1:∀ ws F' N',0<ws.length→zju bs ws→(Hp.mk F' M N').wf→zac F F'→N≤N'→K (.tuple #[.slice none 0 0,.int .u16 141]) ⟨F',M,N'⟩)
  (k2:zju bs []→∀ v' F' N',(Hp.mk F' M N').wf→zac F F'→N≤N'→zbt F' v' (zft l (tab ((ze3 h (zca h t)).map fr1)) m lo hi)→K (.tuple #[v',.int .u16 ((ze9 l (tab ((ze3 h (zca h t)).map fr1)) m lo hi:Nat):Int)]) ⟨F',M,N'⟩) :
  za2 Tryz.prog (.func (.func 19) #[] #[]) #[.pointer (some ⟨p,0,none⟩),.agg cs.toArray,.int .u32 t] K E ⟨F,M,N⟩:=by
 refine za3 mixed Tryz.func19 (by kernel_rfl) (t19 _ E _ _ _) (fun hw=>?_)
 have hm:za7 M N:=hw.m
 refine zal (cs:=cs) (fun b1 hb1=>?_) rfl
 have hb:=za5 M b1 (some (.cells 55 cs cs.length))
 have P1:=P.box hm hb1 (some (.cells 55 cs cs.length))
 have hm1:=hm.new hb1 (some (.cells 55 cs cs.length))
 have hsub:∀ {F':Nat→Option (List Value)} {N':Nat},(Hp.mk F' (upd M b1 (some (.cells 55 cs cs.length))) N').wf→(Hp.mk F' (upd M b1 (some (.cells 55 cs cs.length))) N').wk ⟨F',M,N'⟩:=fun hc=>zbp hc (zav (zb6 _) (hm _ hb1))
 generalize upd M b1 _=M1 at *
 refine zww hE P1 h12 (fun v2 ws F2 N2 hw2 hF2 hN2 hws hsw=>?_)
 refine zam hsw ?_
 refine zbu (fun h0=>?_) (fun h0=>?_)
 ·try simp only [sS]
  exact fun hc=>⟨_,hsub hc,fun hw'=>k1 ws F2 N2 (by omega) hws hw' hF2 (by omega)⟩
 ·have e0:ws=[]:=List.eq_nil_of_length_eq_zero (by omega)
  subst e0
  try simp only [sS]
  refine ldM (v:=.pointer (some ⟨g,0,none⟩)) ?_ P1.pp
  have hq2:=hq
  obtain ⟨a,b,c,e,_⟩:=hq2
  subst e
  refine zas ?_ hb
  refine yi2 (P1.cc.keep hF2 (fun _ _=>rfl)) hdl hl hT hk (hq.mono hF2) hmi hok (fun v3 F3 N3 hw3 hF3 hN3 ht=>?_)
  try simp only [sS]
  exact fun hc=>⟨_,hsub hc,fun hw'=>k2 hws v3 F3 N3 hw' (hF2.trans hF3) (by omega) ht⟩
end
end Go.Proofs.YtgcmbkoejjcjlaaGreatDoor.A
open Go Go.RowKit Go.Proofs.YtgcmbkoejjcjlaaGreatDoor.K
set_option linter.unusedVariables false
set_option maxRecDepth 100000
namespace Go.Proofs.YtgcmbkoejjcjlaaGreatDoor.T
section
variable (K:zae) (E:zat) (k1 k2 k3 k4 k5:Env→Hp→Prop) (x0 x1 x2 x3 x4 x5 x6 x7 x8 x9 x10 x11 x12 x13 x14 x15 x16 x17 x18 x19 x20 x21 x22 x23 x24 x25 x26 x27 x28 x29 x30 x31 x32 x33 x34 x35 x36 x37 x38 x39 x40 x41 x42 x43 x44 x45 x46 x47 x48 x49 x50 x51 x52 x53 x54 x55 x56 x57 x58 x59 x60 x61 x62 x63 x64 x65 x66 x67 x68 x69 x70 x71 x72 x73 x74 x75 x76 v0 v1 v2 v3 v4 v5 v6 v7 v8 v9 v10 v11 v12 v13 v14 v15 v16 v17 v18 v19 v20 v21 v22 v23 v24 v25 v26 v27 v28 v29 v30 v31 v32 v33 v34 v35 v36 v37 v38 v39 v40 v41 v42 v43 v44 v45 v46 v47 v48 v49 v50 v51 v52 v53 v54 v55 v56 v57 v58 v59 v60 v61 v62 v63 v64 v65 v66 v67 v68 v69 v70 v71 v72 v73 v74 v75 v76:Value) (j:Nat→Value)
abbrev q10:QD:=zab Tryz.prog Tryz.f10.results.toList K E
abbrev d10 (p:List Nat):QD→Env→Hp→Prop:=den Tryz.prog (sel (za8 Tryz.f10) p)
abbrev zz7:=za6 k2 (blk 2 (blk 1 (za6 (d10 [1,1,0,1,0,0,1,1] (za6 k1 (blk 0 (za6 (d10 [1,1,1] (q10 K E)) (q10 K E))))) (za6 k1 (blk 0 (za6 (d10 [1,1,1] (q10 K E)) (q10 K E)))))))
abbrev zyy:=za6 k1 (blk 0 (za6 (d10 [1,1,1] (q10 K E)) (q10 K E)))
def zeb (j:Nat→Value):Env:=#[x0,x1,x2,v3,v4,(j 5),(j 6),(j 7),(j 8),(j 9),(j 10),(j 11),(j 12),(j 13),(j 14),(j 15),(j 16),(j 17),(j 18),(j 19),(j 20),(j 21),(j 22),(j 23),(j 24),(j 25),(j 26),(j 27),(j 28),(j 29),(j 30),(j 31),(j 32),(j 33),(j 34),(j 35),(j 36),(j 37),(j 38),(j 39),(j 40),(j 41),(j 42),(j 43),(j 44),(j 45),(j 46),(j 47),(j 48),(j 49),(j 50),(j 51),(j 52),(j 53),(j 54),(j 55),(j 56),(j 57),x58]
def zbo (j:Nat→Value):Env:=#[x0,x1,x2,v3,x4,v5,x6,x7,x8,x9,x10,x11,x12,x13,x14,x15,x16,x17,x18,x19,x20,x21,x22,x23,x24,x25,x26,x27,x28,x29,x30,x31,x32,x33,x34,(j 35),(j 36),(j 37),(j 38),(j 39),(j 40),(j 41),(j 42),(j 43),(j 44),(j 45),(j 46),(j 47),(j 48),(j 49),(j 50),(j 51),(j 52),(j 53),(j 54),(j 55),(j 56),(j 57),x58]
theorem t10:d10 [] (q10 K E) #[x0,U,U,U,U,U,U,U,U,U,U,U,U,U,U,U,U,U,U,U,U,U,U,U,U,U,U,U,U,U,U,U,U,U,U,U,U,U,U,U,U,U,U,U,U,U,U,U,U,U,U,U,U,U,U,U,U,U,U] =
 lp (fun k1=>d10 [1,1,0,1,0,0] (zyy K E k1)) (zeb x0 U (.int .i64 0) U (.int .i64 0) (.int .i64 0) (jf #[])):=by kernel_rfl
theorem zuo:d10 [1,1,0,1,0,0] (zyy K E k1) (zeb x0 x1 x2 x58 v3 v4 j) =
 pv (za9 x0) fun t1=>
 pv (za1 .none .lss v4 t1) fun t2=>
 cnd t2 (
  pv (iaV none 8 x0 v4) fun t3=>
  pv (faV 4 t3) fun t4=>
  ld false 1 t4 fun t5=>
  pv (za9 t5) fun t6=>
  pv (za1 .none .add (.int .i64 1) t6) fun t7=>
  pv (iaV none 8 x0 v4) fun t8=>
  pv (faV 6 t8) fun t9=>
  ld false 1 t9 fun t10=>
  pv (za9 t10) fun t11=>
  pv (za1 .none .add t7 t11) fun t12=>
  pv (iaV none 8 x0 v4) fun t13=>
  pv (faV 3 t13) fun t14=>
  ld false 1 t14 fun t15=>
  pv (za9 t15) fun t16=>
  pv (za1 .none .add t12 t16) fun t17=>
  pv (za1 .none .add v3 t17) fun t18=>
  lp (fun k2=>d10 [1,1,0,1,0,0,1,0,0,1,1,0,0] (zz7 K E k1 k2)) (zbo x0 x1 x2 v4 v4 x0 t1 t2 (j 10) (j 11) v3 x0 v4 t3 t4 t5 t6 t7 x0 v4 t8 t9 t10 t11 t12 x0 v4 t13 t14 t15 t16 t17 t18 x58 t18 (.int .i64 0) (jf #[U,U,U,U,U,U,U,U,U,U,U,U,U,U,U,U,U,U,U,U,U,U,U,U,U,U,U,U,U,U,U,U,U,U,U,(j 35),(j 36),(j 37),(j 38),(j 39),(j 40),(j 41),(j 42),(j 43),(j 44),(j 45),(j 46),(j 47),(j 48),(j 49),(j 50),(j 51),(j 52),(j 53),(j 54),(j 55),(j 56),(j 57)]))) (
  K v3):=by kernel_rfl
theorem zj8:d10 [1,1,0,1,0,0,1,0,0,1,1,0,0] (zz7 K E k1 k2) (zbo x0 x1 x2 x4 x6 x7 x8 x9 x10 x11 x12 x13 x14 x15 x16 x17 x18 x19 x20 x21 x22 x23 x24 x25 x26 x27 x28 x29 x30 x31 x32 x33 x34 x58 v3 v5 j) =
 pv (iaV none 8 x0 x4) fun t1=>
 pv (faV 7 t1) fun t2=>
 ld false 1 t2 fun t3=>
 pv (za9 t3) fun t4=>
 pv (za1 .none .lss v5 t4) fun t5=>
 cnd t5 (
  pv (iaV none 8 x0 x4) fun t6=>
  pv (faV 7 t6) fun t7=>
  ld false 1 t7 fun t8=>
  pv (iaV none 2 t8 v5) fun t9=>
  pv (faV 1 t9) fun t10=>
  ld false 1 t10 fun t11=>
  pv (za9 t11) fun t12=>
  pv (za1 .none .add (.int .i64 1) t12) fun t13=>
  pv (za1 .none .add v3 t13) fun t14=>
  pv (za1 .none .add v5 (.int .i64 1)) fun t15=>
  k2 (zbo x0 x1 x2 x4 x6 x7 x8 x9 x10 x11 x12 x13 x14 x15 x16 x17 x18 x19 x20 x21 x22 x23 x24 x25 x26 x27 x28 x29 x30 x31 x32 x33 x34 x58 t14 t15 (jf #[U,U,U,U,U,U,U,U,U,U,U,U,U,U,U,U,U,U,U,U,U,U,U,U,U,U,U,U,U,U,U,U,U,U,U,v5,x0,x4,t1,t2,t3,t4,t5,v5,t15,v3,x0,x4,t6,t7,t8,v5,t9,t10,t11,t12,t13,t14]))) (
  pv (za1 .none .add x4 (.int .i64 1)) fun t16=>
  k1 (zeb x0 x1 x2 x58 v3 t16 (jf #[U,U,U,U,U,v5,x6,x7,x8,x9,x4,t16,x12,x13,x14,x15,x16,x17,x18,x19,x20,x21,x22,x23,x24,x25,x26,x27,x28,x29,x30,x31,x32,x33,x34,v5,x0,x4,t1,t2,t3,t4,t5,(j 43),(j 44),(j 45),(j 46),(j 47),(j 48),(j 49),(j 50),(j 51),(j 52),(j 53),(j 54),(j 55),(j 56),(j 57)]))):=by kernel_rfl
abbrev q11:QD:=zab Tryz.prog Tryz.f11.results.toList K E
abbrev d11 (p:List Nat):QD→Env→Hp→Prop:=den Tryz.prog (sel (za8 Tryz.f11) p)
theorem t11:d11 [] (q11 K E) #[U,U,U,U,U,U,U,U,U,U,U,U,U,U,U,U,U,U,U,U,U,U,U,U,U,U,U,U,U,U,U,U,U,U,U,U,U,U,U,U,U,U,U,U,U,U,U,U,U,U,U,U,U,U,U,U,U,U,U,U,U,U,U,U,U,U,U,U,U,U,U,U,U,U,U,U,U] =
 pv (bdC #[(.int .i64 0),(.slice none 0 0)] [(0,1),(1,1)] #[(0,(.int .i64 5))]) fun t1=>
 nws 88 1 (bsC #[(.int .i64 0),(.slice none 0 0)] 2 1 #[(0,t1)]) fun t2=>
 za2 Tryz.prog (.func (.func 13) #[] #[]) #[t2] (fun t3=>
 pv (za1 .ptr .eql t3 (.pointer none)) fun t4=>
 cnd t4 (
  K (.bool false)) (
  nws 3 1 (bsC #[(.int .i64 0)] 1 1 #[(0,(.int .i64 0))]) fun t5=>
  nws 3 1 (bsC #[(.int .i64 0)] 1 1 #[(0,(.int .i64 1))]) fun t6=>
  pv (bdC #[(.slice none 0 0),(.int .i64 0)] [(0,1),(1,1)] #[(0,t6),(1,(.int .i64 4))]) fun t7=>
  nws 90 1 (bsC #[(.slice none 0 0),(.int .i64 0)] 2 1 #[(0,t7)]) fun t8=>
  pv (bdC #[(.int .u8 0),(.int .u32 0),(.int .u32 0),(.slice none 0 0),(.slice none 0 0),(.int .u32 0),(.slice none 0 0),(.int .i64 0),(.int .i64 0),(.slice none 0 0)] [(0,1),(1,1),(2,1),(3,1),(4,1),(5,2),(7,1),(8,1),(9,1)] #[(0,(.int .u8 1)),(1,(.int .u32 7)),(3,t5),(4,t8)]) fun t9=>
  za2 Tryz.prog (.func (.func 14) #[] #[]) #[t3,t9] (fun t10=>
  nws 3 1 (bsC #[(.int .i64 0)] 1 1 #[(0,(.int .i64 0))]) fun t11=>
  nws 3 1 (bsC #[(.int .i64 0)] 1 1 #[(0,(.int .i64 0))]) fun t12=>
  nws 3 1 (bsC #[(.int .i64 0)] 1 1 #[(0,(.int .i64 5))]) fun t13=>
  pv (bdC #[(.slice none 0 0),(.slice none 0 0),(.slice none 0 0)] [(0,1),(1,1),(2,1)] #[(0,t11),(1,t12),(2,t13)]) fun t14=>
  nw 55 [(.slice none 0 0),(.slice none 0 0),(.slice none 0 0)] fun t15=>
  st 3 t15 t14 fun _=>
  ld true 3 t15 fun t16=>
  za2 Tryz.prog (.func (.func 19) #[] #[]) #[t3,t16,(.int .u32 3)] (fun t17=>
  pv (exV 0 t17) fun t18=>
  pv (exV 1 t17) fun t19=>
  za2 Tryz.prog (.func (.func 18) #[] #[]) #[t3] (fun t20=>
  pv (za9 t20) fun t21=>
  pv (bdC #[(.int .u8 0),(.int .u32 0),(.int .u32 0),(.slice none 0 0),(.slice none 0 0),(.int .u32 0),(.slice none 0 0),(.int .i64 0),(.int .i64 0),(.slice none 0 0)] [(0,1),(1,1),(2,1),(3,1),(4,1),(5,2),(7,1),(8,1),(9,1)] #[(0,(.int .u8 2)),(1,(.int .u32 7)),(2,(.int .u32 3))]) fun t22=>
  za2 Tryz.prog (.func (.func 14) #[] #[]) #[t3,t22] (fun t23=>
  ld true 3 t15 fun t24=>
  za2 Tryz.prog (.func (.func 19) #[] #[]) #[t3,t24,(.int .u32 3)] (fun t25=>
  pv (exV 0 t25) fun t26=>
  pv (exV 1 t25) fun t27=>
  pv (za1 .none .eql t10 (.int .u16 0)) fun t28=>
  gdK t28 true (fun k=>k t19) fun t29=>
  gdK t28 true (fun k=>pv (za1 .none .eql t29 (.int .u16 141)) k) fun t30=>
  pv (zah t28 t30 (.bool false)) fun t31=>
  gdK t31 true (fun k=>k t21) fun t32=>
  gdK t31 true (fun k=>pv (za1 .none .eql t32 (.int .i64 1)) k) fun t33=>
  pv (zah t31 t33 (.bool false)) fun t34=>
  gdK t34 true (fun k=>k t23) fun t35=>
  gdK t34 true (fun k=>pv (za1 .none .eql t35 (.int .u16 0)) k) fun t36=>
  pv (zah t34 t36 (.bool false)) fun t37=>
  gdK t37 true (fun k=>k t27) fun t38=>
  gdK t37 true (fun k=>pv (za1 .none .eql t38 (.int .u16 0)) k) fun t39=>
  pv (zah t37 t39 (.bool false)) fun t40=>
  gdK t40 true (fun k=>k t26) fun t41=>
  gdK t40 true (fun k=>pv (za9 t41) k) fun t42=>
  gdK t40 true (fun k=>pv (za1 .none .eql t42 (.int .i64 1)) k) fun t43=>
  pv (zah t40 t43 (.bool false)) fun t44=>
  gdK t44 true (fun k=>k t3) fun t45=>
  gdK t44 true (fun k=>za2 Tryz.prog (.func (.func 16) #[] #[]) #[t45,(.int .u32 7)] k E) fun t46=>
  gdK t44 true (fun k=>pv (bdC #[(.int .u8 0),(.int .u32 0)] [(0,1),(1,1)] #[(0,(.int .u8 2)),(1,(.int .u32 3))]) k) fun t47=>
  gdK t44 true (fun k=>pv (ze0 .eql [0,0] t46 t47) k) fun t48=>
  pv (zah t44 t48 (.bool false)) fun t49=>
  gdK t49 true (fun k=>za2 Tryz.prog (.func (.func 13) #[] #[]) #[(.slice none 0 0)] k E) fun t50=>
  gdK t49 true (fun k=>pv (za1 .ptr .eql t50 (.pointer none)) k) fun t51=>
  pv (zah t49 t51 (.bool false)) fun t52=>
  K t52) E) E) E) E) E)) E:=by kernel_rfl
abbrev q15:QD:=zab Tryz.prog Tryz.f15.results.toList K E
abbrev d15 (p:List Nat):QD→Env→Hp→Prop:=den Tryz.prog (sel (za8 Tryz.f15) p)
theorem t15:d15 [] (q15 K E) #[x0,x1,U,U,U,U,U,U,U,U,U,U,U,U,U,U,U,U,U,U,U,U,U,U,U,U,U,U,U,U,U,U,U,U,U,U,U,U,U,U,U,U,U,U,U,U,U,U,U,U,U,U,U,U,U,U,U,U,U,U,U,U,U,U,U,U,U,U,U,U,U,U,U,U] =
 nw 49 (Value.cells x1).toList fun t1=>
 nw 44 [(.int .u8 0),(.int .u32 0),(.int .u32 0),(.slice none 0 0),(.slice none 0 0),(.int .u32 0),(.slice none 0 0),(.int .i64 0),(.int .i64 0),(.slice none 0 0)] fun t2=>
 pv (faV 1 t1) fun t3=>
 ld false 1 t3 fun t4=>
 pv (za1 .none .rem t4 (.int .u32 9)) fun t5=>
 pv (faV 4 t1) fun t6=>
 ld false 1 t6 fun t7=>
 pv (faV 5 t1) fun t8=>
 ld false 1 t8 fun t9=>
 pv (faV 3 t1) fun t10=>
 ld false 1 t10 fun t11=>
 bth (
  za2 Tryz.prog (.func (.func 20) #[] #[]) #[x0,t7,t9] (fun t12 h13=>(ldV h13 false 1 t10 t11)∧(ldV h13 false 1 t3 t4)∧(
  pv (bdC #[(.int .u8 0),(.int .u32 0),(.int .u32 0),(.slice none 0 0),(.slice none 0 0),(.int .u32 0),(.slice none 0 0),(.int .i64 0),(.int .i64 0),(.slice none 0 0)] [(0,1),(1,1),(2,1),(3,1),(4,1),(5,2),(7,1),(8,1),(9,1)] #[(0,(.int .u8 1)),(1,t5),(4,t12),(3,t11)]) fun t14=>
  nw 44 [(.int .u8 0),(.int .u32 0),(.int .u32 0),(.slice none 0 0),(.slice none 0 0),(.int .u32 0),(.slice none 0 0),(.int .i64 0),(.int .i64 0),(.slice none 0 0)] (fun t15 h16=>(ldV h16 false 1 t10 t11)∧(ldV h16 false 1 t3 t4)∧(
   st 10 t15 t14 fun _=>
   pv (faV 0 t1) fun t17=>
   ld false 1 t17 fun t18=>
   pv (za1 .none .rem t18 (.int .u8 10)) fun t19=>
   pv (za1 .none .eql t19 (.int .u8 4)) fun t20=>
   cnd t20 (
   d15 [1,1,0,1,0,1] (blk 0 (za6 (d15 [1,1,1] (q15 K E)) (q15 K E))) #[x0,x1,U,t1,t2,t15,U,t3,t4,t5,x0,t6,t7,t8,t9,t12,t10,t11,t14,t17,t18,t19,t20,t20,U,U,U,U,U,U,U,U,U,U,U,U,U,U,U,U,U,U,U,U,U,U,U,U,U,U,U,U,U,U,U,U,U,U,U,U,U,U,U,U,U,U,U,U,U,U,U,U,U,U]) (
   pv (za1 .none .eql t19 (.int .u8 5)) fun t21=>
   d15 [1,1,0,1,0,1] (blk 0 (za6 (d15 [1,1,1] (q15 K E)) (q15 K E))) #[x0,x1,U,t1,t2,t15,U,t3,t4,t5,x0,t6,t7,t8,t9,t12,t10,t11,t14,t17,t18,t19,t21,t20,t21,U,U,U,U,U,U,U,U,U,U,U,U,U,U,U,U,U,U,U,U,U,U,U,U,U,U,U,U,U,U,U,U,U,U,U,U,U,U,U,U,U,U,U,U,U,U,U,U,U])) h16)) h13) E) (
  nw 44 [(.int .u8 0),(.int .u32 0),(.int .u32 0),(.slice none 0 0),(.slice none 0 0),(.int .u32 0),(.slice none 0 0),(.int .i64 0),(.int .i64 0),(.slice none 0 0)] (fun t22 h23=>(ldV h23 false 1 t10 t11)∧(ldV h23 false 1 t8 t9)∧(ldV h23 false 1 t6 t7)∧(ldV h23 false 1 t3 t4)∧(
  za2 Tryz.prog (.func (.func 20) #[] #[]) #[x0,t7,t9] (fun t24 h25=>(ldV h25 false 1 t10 t11)∧(ldV h25 false 1 t3 t4)∧(
   pv (bdC #[(.int .u8 0),(.int .u32 0),(.int .u32 0),(.slice none 0 0),(.slice none 0 0),(.int .u32 0),(.slice none 0 0),(.int .i64 0),(.int .i64 0),(.slice none 0 0)] [(0,1),(1,1),(2,1),(3,1),(4,1),(5,2),(7,1),(8,1),(9,1)] #[(0,(.int .u8 1)),(1,t5),(4,t24),(3,t11)]) fun t26=>
   st 10 t22 t26 fun _=>
   pv (faV 0 t1) fun t27=>
   ld false 1 t27 fun t28=>
   pv (za1 .none .rem t28 (.int .u8 10)) fun t29=>
   pv (za1 .none .eql t29 (.int .u8 4)) fun t30=>
   cnd t30 (
   d15 [1,1,0,1,0,1] (blk 0 (za6 (d15 [1,1,1] (q15 K E)) (q15 K E))) #[x0,x1,U,t1,t2,t22,U,t3,t4,t5,x0,t6,t7,t8,t9,t24,t10,t11,t26,t27,t28,t29,t30,t30,U,U,U,U,U,U,U,U,U,U,U,U,U,U,U,U,U,U,U,U,U,U,U,U,U,U,U,U,U,U,U,U,U,U,U,U,U,U,U,U,U,U,U,U,U,U,U,U,U,U]) (
   pv (za1 .none .eql t29 (.int .u8 5)) fun t31=>
   d15 [1,1,0,1,0,1] (blk 0 (za6 (d15 [1,1,1] (q15 K E)) (q15 K E))) #[x0,x1,U,t1,t2,t22,U,t3,t4,t5,x0,t6,t7,t8,t9,t24,t10,t11,t26,t27,t28,t29,t31,t30,t31,U,U,U,U,U,U,U,U,U,U,U,U,U,U,U,U,U,U,U,U,U,U,U,U,U,U,U,U,U,U,U,U,U,U,U,U,U,U,U,U,U,U,U,U,U,U,U,U,U])) h25) E) h23)):=by kernel_rfl
theorem zve:d15 [1,1,0,1,0,1] (blk 0 (za6 (d15 [1,1,1] (q15 K E)) (q15 K E))) #[x0,x1,x2,x3,x4,x5,x6,x7,x8,x9,x10,x11,x12,x13,x14,x15,x16,x17,x18,x19,x20,x21,x22,x23,x24,x25,x26,x27,x28,x29,x30,x31,x32,x33,x34,x35,x36,x37,x38,x39,x40,x41,x42,x43,x44,x45,x46,x47,x48,x49,x50,x51,x52,x53,x54,x55,x56,x57,x58,x59,x60,x61,x62,x63,x64,x65,x66,x67,x68,x69,x70,x71,x72,x73] =
 cnd x22 (
  pv (faV 1 x3) fun t1=>
  ld false 1 t1 fun t2=>
  pv (za1 .none .rem t2 (.int .u32 9)) fun t3=>
  pv (faV 2 x3) fun t4=>
  ld false 1 t4 fun t5=>
  pv (za1 .none .rem t5 (.int .u32 40)) fun t6=>
  pv (bdC #[(.int .u8 0),(.int .u32 0),(.int .u32 0),(.slice none 0 0),(.slice none 0 0),(.int .u32 0),(.slice none 0 0),(.int .i64 0),(.int .i64 0),(.slice none 0 0)] [(0,1),(1,1),(2,1),(3,1),(4,1),(5,2),(7,1),(8,1),(9,1)] #[(0,(.int .u8 2)),(1,t3),(2,t6)]) fun t7=>
  st 10 x5 t7 fun _=>
  d15 [1,1,1] (q15 K E) #[x0,x1,x2,x3,x4,x5,x6,x7,x8,x9,x10,x11,x12,x13,x14,x15,x16,x17,x18,x19,x20,x21,x22,x23,x24,t1,t2,t3,t4,t5,t6,t7,x32,x33,x34,x35,x36,x37,x38,x39,x40,x41,x42,x43,x44,x45,x46,x47,x48,x49,x50,x51,x52,x53,x54,x55,x56,x57,x58,x59,x60,x61,x62,x63,x64,x65,x66,x67,x68,x69,x70,x71,x72,x73]) (
  pv (za1 .none .eql x21 (.int .u8 6)) fun t8=>
  cnd t8 (
  pv (faV 1 x3) fun t9=>
  ld false 1 t9 fun t10=>
  pv (za1 .none .rem t10 (.int .u32 9)) fun t11=>
  pv (bdC #[(.int .u8 0),(.int .u32 0),(.int .u32 0),(.slice none 0 0),(.slice none 0 0),(.int .u32 0),(.slice none 0 0),(.int .i64 0),(.int .i64 0),(.slice none 0 0)] [(0,1),(1,1),(2,1),(3,1),(4,1),(5,2),(7,1),(8,1),(9,1)] #[(0,(.int .u8 3)),(1,t11)]) fun t12=>
  st 10 x5 t12 fun _=>
  d15 [1,1,1] (q15 K E) #[x0,x1,x2,x3,x4,x5,x6,x7,x8,x9,x10,x11,x12,x13,x14,x15,x16,x17,x18,x19,x20,x21,x22,x23,x24,x25,x26,x27,x28,x29,x30,x31,t8,t8,t9,t10,t11,t12,x38,x39,x40,x41,x42,x43,x44,x45,x46,x47,x48,x49,x50,x51,x52,x53,x54,x55,x56,x57,x58,x59,x60,x61,x62,x63,x64,x65,x66,x67,x68,x69,x70,x71,x72,x73]) (
  pv (za1 .none .eql x21 (.int .u8 7)) fun t13=>
  cnd t13 (
   pv (faV 1 x3) fun t14=>
   ld false 1 t14 fun t15=>
   pv (faV 7 x3) fun t16=>
   ld false 1 t16 fun t17=>
   pv (bdC #[(.int .u8 0),(.int .u32 0),(.int .u32 0),(.slice none 0 0),(.slice none 0 0),(.int .u32 0),(.slice none 0 0),(.int .i64 0),(.int .i64 0),(.slice none 0 0)] [(0,1),(1,1),(2,1),(3,1),(4,1),(5,2),(7,1),(8,1),(9,1)] #[(0,(.int .u8 7)),(1,t15),(6,(.int .i64 0)),(7,(.int .i64 10000)),(8,t17)]) fun t18=>
   st 10 x5 t18 fun _=>
   pv (faV 1 x3) fun t19=>
   ld false 1 t19 fun t20=>
   pv (za1 .none .rem t20 (.int .u32 2)) fun t21=>
   pv (za1 .none .eql t21 (.int .u32 0)) fun t22=>
   cnd t22 (
   pv (faV 4 x3) fun t23=>
   ld false 1 t23 fun t24=>
   pv (faV 5 x3) fun t25=>
   ld false 1 t25 fun t26=>
   za2 Tryz.prog (.func (.func 20) #[] #[]) #[x0,t24,t26] (fun t27=>
   pv (faV 2 x3) fun t28=>
   ld false 1 t28 fun t29=>
   pv (za1 .none .rem t29 (.int .u32 40)) fun t30=>
   pv (za1 .none .add (.int .u32 1) t30) fun t31=>
   pv (bdC #[(.int .u32 0),(.slice none 0 0)] [(0,1),(1,1)] #[(0,t31),(1,t27)]) fun t32=>
   nws 74 1 (bsC #[(.int .u32 0),(.slice none 0 0)] 2 1 #[(0,t32)]) fun t33=>
   pv (faV 9 x5) fun t34=>
   st 1 t34 t33 fun _=>
   d15 [1,1,1] (q15 K E) #[x0,x1,x2,x3,x4,x5,t27,x7,x8,x9,x10,x11,x12,x13,x14,x15,x16,x17,x18,x19,x20,x21,x22,x23,x24,x25,x26,x27,x28,x29,x30,x31,t8,t8,x34,x35,x36,x37,t13,t13,t14,t15,t16,t17,t18,t19,t20,t21,t22,x0,t23,t24,t25,t26,t27,t28,t29,t30,t31,t27,t32,t33,t34,x63,x64,x65,x66,x67,x68,x69,x70,x71,x72,x73]) E) (
   d15 [1,1,1] (q15 K E) #[x0,x1,x2,x3,x4,x5,x6,x7,x8,x9,x10,x11,x12,x13,x14,x15,x16,x17,x18,x19,x20,x21,x22,x23,x24,x25,x26,x27,x28,x29,x30,x31,t8,t8,x34,x35,x36,x37,t13,t13,t14,t15,t16,t17,t18,t19,t20,t21,t22,x49,x50,x51,x52,x53,x54,x55,x56,x57,x58,x59,x60,x61,x62,x63,x64,x65,x66,x67,x68,x69,x70,x71,x72,x73])) (
   pv (za1 .none .eql x21 (.int .u8 8)) fun t35=>
   cnd t35 (
   pv (faV 6 x3) fun t36=>
   ld false 1 t36 fun t37=>
   pv (faV 4 x5) fun t38=>
   st 1 t38 t37 fun _=>
   d15 [1,1,1] (q15 K E) #[x0,x1,x2,x3,x4,x5,x6,x7,x8,x9,x10,x11,x12,x13,x14,x15,x16,x17,x18,x19,x20,x21,x22,x23,x24,x25,x26,x27,x28,x29,x30,x31,t8,t8,x34,x35,x36,x37,t13,t13,x40,x41,x42,x43,x44,x45,x46,x47,x48,x49,x50,x51,x52,x53,x54,x55,x56,x57,x58,x59,x60,x61,x62,t35,t35,t36,t37,t38,x68,x69,x70,x71,x72,x73]) (
   pv (za1 .none .eql x21 (.int .u8 9)) fun t39=>
   cnd t39 (
    pv (faV 1 x3) fun t40=>
    ld false 1 t40 fun t41=>
    pv (bdC #[(.int .u8 0),(.int .u32 0),(.int .u32 0),(.slice none 0 0),(.slice none 0 0),(.int .u32 0),(.slice none 0 0),(.int .i64 0),(.int .i64 0),(.slice none 0 0)] [(0,1),(1,1),(2,1),(3,1),(4,1),(5,2),(7,1),(8,1),(9,1)] #[(0,(.int .u8 5)),(1,t41)]) fun t42=>
    st 10 x5 t42 fun _=>
    d15 [1,1,1] (q15 K E) #[x0,x1,x2,x3,x4,x5,x6,x7,x8,x9,x10,x11,x12,x13,x14,x15,x16,x17,x18,x19,x20,x21,x22,x23,x24,x25,x26,x27,x28,x29,x30,x31,t8,t8,x34,x35,x36,x37,t13,t13,x40,x41,x42,x43,x44,x45,x46,x47,x48,x49,x50,x51,x52,x53,x54,x55,x56,x57,x58,x59,x60,x61,x62,t35,t35,x65,x66,x67,t39,t39,t40,t41,t42,x73]) (
    d15 [1,1,1] (q15 K E) #[x0,x1,x2,x3,x4,x5,x6,x7,x8,x9,x10,x11,x12,x13,x14,x15,x16,x17,x18,x19,x20,x21,x22,x23,x24,x25,x26,x27,x28,x29,x30,x31,t8,t8,x34,x35,x36,x37,t13,t13,x40,x41,x42,x43,x44,x45,x46,x47,x48,x49,x50,x51,x52,x53,x54,x55,x56,x57,x58,x59,x60,x61,x62,t35,t35,x65,x66,x67,t39,t39,x70,x71,x72,x73]))))):=by kernel_rfl
theorem yes:d15 [1,1,1] (q15 K E) #[x0,x1,x2,x3,x4,x5,x6,x7,x8,x9,x10,x11,x12,x13,x14,x15,x16,x17,x18,x19,x20,x21,x22,x23,x24,x25,x26,x27,x28,x29,x30,x31,x32,x33,x34,x35,x36,x37,x38,x39,x40,x41,x42,x43,x44,x45,x46,x47,x48,x49,x50,x51,x52,x53,x54,x55,x56,x57,x58,x59,x60,x61,x62,x63,x64,x65,x66,x67,x68,x69,x70,x71,x72,x73] =
 ld true 10 x5 fun t1=>
 st 10 x4 t1 fun _=>
 ld true 10 x4 fun t2=>
 K t2:=by kernel_rfl
abbrev q22:QD:=zab Tryz.prog Tryz.f22.results.toList K E
abbrev d22 (p:List Nat):QD→Env→Hp→Prop:=den Tryz.prog (sel (za8 Tryz.f22) p)
abbrev zzb:=za6 k1 (blk 0 (za6 (d22 [1,1,1] (q22 K E)) (q22 K E)))
def zeo (j:Nat→Value):Env:=#[x0,x1,x2,x3,(j 4),v5,x6,x7,x8,x9,x10,(j 11),(j 12),(j 13),(j 14),(j 15),(j 16),(j 17),(j 18),(j 19),(j 20),(j 21),(j 22),(j 23),(j 24),(j 25)]
theorem t22:d22 [] (q22 K E) #[x0,x1,U,U,U,U,U,U,U,U,U,U,U,U,U,U,U,U,U,U,U,U,U,U,U,U] =
 pv (za9 x0) fun t1=>
 pv (za9 x1) fun t2=>
 pv (za1 .none .neq t1 t2) fun t3=>
 cnd t3 (
  K (.bool false)) (
  lp (fun k1=>d22 [1,1,0,1,0,0] (zzb K E k1)) (zeo x0 x1 U U x0 t1 x1 t2 t3 (.int .i64 0) (jf #[U,U,U,U,(.bool false)]))):=by kernel_rfl
theorem zte:d22 [1,1,0,1,0,0] (zzb K E k1) (zeo x0 x1 x2 x3 x6 x7 x8 x9 x10 v5 j) =
 pv (za9 x0) fun t1=>
 pv (za1 .none .lss v5 t1) fun t2=>
 cnd t2 (
  pv (iaV none 1 x0 v5) fun t3=>
  ld false 1 t3 fun t4=>
  pv (iaV none 1 x1 v5) fun t5=>
  ld false 1 t5 fun t6=>
  pv (za1 .none .neq t4 t6) fun t7=>
  cnd t7 (
  K (.bool false)) (
  pv (za1 .none .add v5 (.int .i64 1)) fun t8=>
  k1 (zeo x0 x1 x2 x3 x6 x7 x8 x9 x10 t8 (jf #[U,U,U,U,(j 4),U,U,U,U,U,U,v5,x0,t1,t2,v5,t8,x0,v5,t3,t4,x1,v5,t5,t6,t7])))) (
  K (.bool true)):=by kernel_rfl
end
section
variable {K:zae} {E:zat} {k1 k2 k3 k4 k5:Env→Hp→Prop} {σ:Type} {x0 x1 x2 x3 x4 x5 x6 x7 x8 x9 x10 x11 x12 x13 x14 x15 x16 x17 x18 x19 x20 x21 x22 x23 x24 x25 x26 x27 x28 x29 x30 x31 x32 x33 x34 x35 x36 x37 x38 x39 x40 x41 x42 x43 x44 x45 x46 x47 x48 x49 x50 x51 x52 x53 x54 x55 x56 x57 x58 x59 x60 x61 x62 x63 x64 x65 x66 x67 x68 x69 x70 x71 x72 x73 x74 x75 x76 v0 v1 v2 v3 v4 v5 v6 v7 v8 v9 v10 v11 v12 v13 v14 v15 v16 v17 v18 v19 v20 v21 v22 v23 v24 v25 v26 v27 v28 v29 v30 v31 v32 v33 v34 v35 v36 v37 v38 v39 v40 v41 v42 v43 v44 v45 v46 v47 v48 v49 v50 v51 v52 v53 v54 v55 v56 v57 v58 v59 v60 v61 v62 v63 v64 v65 v66 v67 v68 v69 v70 v71 v72 v73 v74 v75 v76:Value} {h:Hp} {j:Nat→Value}
theorem zt6 (f3 f4:σ→Value) (I:σ→Hp→Prop) (μ:σ→Nat) (s0:σ) (e3:v3=f3 s0) (e4:v4=f4 s0) (h0:h.wf→∃ h',h.wk h'∧I s0 h')
 (round:∀ (k1:Env→Hp→Prop) (s:σ) (j:Nat→Value) (h:Hp),I s h→h.wf→(∀ s' j' h',μ s'<μ s→(h'.wf→∃ h'',h'.wk h''∧I s' h'')→k1 (zeb x0 x1 x2 x58 (f3 s') (f4 s') j') h')→d10 [1,1,0,1,0,0] (zyy K E k1) (zeb x0 x1 x2 x58 (f3 s) (f4 s) j) h) :
 lp (fun k1=>d10 [1,1,0,1,0,0] (zyy K E k1)) (zeb x0 x1 x2 x58 v3 v4 j) h:=by
 subst e3
 subst e4
 exact zaj (fun s j=>zeb x0 x1 x2 x58 (f3 s) (f4 s) j) I μ round s0 j h0
theorem zj7 (f3 f5:σ→Value) (I:σ→Hp→Prop) (μ:σ→Nat) (s0:σ) (e3:v3=f3 s0) (e5:v5=f5 s0) (h0:h.wf→∃ h',h.wk h'∧I s0 h')
 (round:∀ (k2:Env→Hp→Prop) (s:σ) (j:Nat→Value) (h:Hp),I s h→h.wf→(∀ s' j' h',μ s'<μ s→(h'.wf→∃ h'',h'.wk h''∧I s' h'')→k2 (zbo x0 x1 x2 x4 x6 x7 x8 x9 x10 x11 x12 x13 x14 x15 x16 x17 x18 x19 x20 x21 x22 x23 x24 x25 x26 x27 x28 x29 x30 x31 x32 x33 x34 x58 (f3 s') (f5 s') j') h')→d10 [1,1,0,1,0,0,1,0,0,1,1,0,0] (zz7 K E k1 k2) (zbo x0 x1 x2 x4 x6 x7 x8 x9 x10 x11 x12 x13 x14 x15 x16 x17 x18 x19 x20 x21 x22 x23 x24 x25 x26 x27 x28 x29 x30 x31 x32 x33 x34 x58 (f3 s) (f5 s) j) h) :
 lp (fun k2=>d10 [1,1,0,1,0,0,1,0,0,1,1,0,0] (zz7 K E k1 k2)) (zbo x0 x1 x2 x4 x6 x7 x8 x9 x10 x11 x12 x13 x14 x15 x16 x17 x18 x19 x20 x21 x22 x23 x24 x25 x26 x27 x28 x29 x30 x31 x32 x33 x34 x58 v3 v5 j) h:=by
 subst e3
 subst e5
 exact zaj (fun s j=>zbo x0 x1 x2 x4 x6 x7 x8 x9 x10 x11 x12 x13 x14 x15 x16 x17 x18 x19 x20 x21 x22 x23 x24 x25 x26 x27 x28 x29 x30 x31 x32 x33 x34 x58 (f3 s) (f5 s) j) I μ round s0 j h0
theorem zus (f5:σ→Value) (I:σ→Hp→Prop) (μ:σ→Nat) (s0:σ) (e5:v5=f5 s0) (h0:h.wf→∃ h',h.wk h'∧I s0 h')
 (round:∀ (k1:Env→Hp→Prop) (s:σ) (j:Nat→Value) (h:Hp),I s h→h.wf→(∀ s' j' h',μ s'<μ s→(h'.wf→∃ h'',h'.wk h''∧I s' h'')→k1 (zeo x0 x1 x2 x3 x6 x7 x8 x9 x10 (f5 s') j') h')→d22 [1,1,0,1,0,0] (zzb K E k1) (zeo x0 x1 x2 x3 x6 x7 x8 x9 x10 (f5 s) j) h) :
 lp (fun k1=>d22 [1,1,0,1,0,0] (zzb K E k1)) (zeo x0 x1 x2 x3 x6 x7 x8 x9 x10 v5 j) h:=by
 subst e5
 exact zaj (fun s j=>zeo x0 x1 x2 x3 x6 x7 x8 x9 x10 (f5 s) j) I μ round s0 j h0
end
end Go.Proofs.YtgcmbkoejjcjlaaGreatDoor.T
open Go Go.RowKit Go.Proofs.YtgcmbkoejjcjlaaGreatDoor.K Go.Proofs.YtgcmbkoejjcjlaaGreatDoor.T
set_option linter.unusedVariables false
set_option linter.unusedSimpArgs false
namespace Go.Proofs.YtgcmbkoejjcjlaaGreatDoor.A
variable {F F':Nat→Option (List Value)} {M M':Nat→Option zak} {N N':Nat} {K:zae} {E:zat}
def zrg:zcw:=⟨1,7,0,[0],[([1],4)],0,0,[]⟩
def zr6:zcw:=⟨2,7,3,[],[],0,0,[]⟩
def zwo:Bts:=[(7,⟨1,0,[0],[([1],4)]⟩)]
def yja:Bts:=[(7,⟨2,3,[],[]⟩)]
def l14:List Dm:=[(5,[])]
def h14:List En:=[(3,[([1],4)])]
theorem yoh:apE l14 [] [] 0 zrg=0∧apH l14 [] [] 0 zrg=[]∧apS l14 [] [] zrg=zwo∧apT l14 [] 0 zrg=0:=⟨by kernel_rfl,by kernel_rfl,by kernel_rfl,by kernel_rfl⟩
theorem yoz:apE l14 [] zwo 0 zr6=0∧apH l14 [] zwo 0 zr6=h14∧apS l14 [] zwo zr6=yja∧apT l14 [] 0 zr6=0:=⟨by kernel_rfl,by kernel_rfl,by kernel_rfl,by kernel_rfl⟩
theorem yso:ze3 h14 (zca h14 3)=[([1],4)]∧tab ([([1],4)].map fr1)=[([1],⟨1,4,4,4⟩)]∧ze9 l14 [([1],⟨1,4,4,4⟩)] [0] [0] [5]=0∧zft l14 [([1],⟨1,4,4,4⟩)] [0] [0] [5]=[([1],⟨1,4,4,4⟩)]:=by decide +kernel
theorem yo4:zcw.ok zrg:=⟨by decide,by decide,by decide,by decide,by decide,by simp [zrg]⟩
theorem yna:zcw.ok zr6:=⟨by decide,by decide,by decide,by decide,by decide,by simp [zr6]⟩
theorem ycr {ws:List Int} (h:zju zwo ws):ws=[7]:=by
 refine zx1 h.1 (List.pairwise_singleton _ _) fun x=>?_
 rw [h.2,List.mem_singleton,zek]
 constructor
 ·rintro ⟨⟨y,hy,e⟩,_⟩
  rw [← e]
  simp [zwo] at hy
  rw [hy]
 ·rintro rfl
  exact ⟨⟨_,List.mem_cons_self,rfl⟩,by decide⟩
theorem yky {ws:List Int} (h:zju yja ws):ws=[]:=by
 refine List.eq_nil_iff_forall_not_mem.2 fun x hx=>?_
 obtain ⟨h1,h2⟩:=(h.2 x).1 hx
 obtain ⟨y,hy,e⟩:=zek.1 h1
 simp [yja] at hy
 rw [hy] at e
 simp only at e
 subst e
 exact absurd h2 (by decide)
set_option maxRecDepth 10000 in
set_option maxHeartbeats 8000000 in
theorem zxm (hE:E [] zh4) (k:∀ F' N',zac F F'→N≤N'→(Hp.mk F' M N').wf→K (.bool true) ⟨F',M,N'⟩):za2 Tryz.prog (.func (.func 11) #[] #[]) #[] K E ⟨F,M,N⟩:=by
 refine za3 mixed Tryz.func11 (by kernel_rfl) (t11 _ E) (fun hw=>?_)
 have hm:za7 M N:=hw.m
 refine zaa (v:=.agg #[.int .i64 5,.slice none 0 0]) (by kernel_rfl) ?_
 refine zde (cs:=[.int .i64 5,.slice none 0 0]) (by kernel_rfl) (fun b2 hb2=>?_)
 refine zej (fun hc=>⟨_,zb7 hm (fun q hq=>za4 _ _ (by omega)) hc,?_⟩)
 have hs0:=zag (N:=N) hc
 have f2:=zgs (F:=F) (N:=N) (b:=b2) (by omega) (za5 M b2 (some (.cells 88 [.int .i64 5,.slice none 0 0] [Value.int .i64 5,.slice none 0 0].length)))
 generalize zdh F _ N=F0 at *
 clear hc
 have hd1:zfh F0 [.int .i64 5,.slice none 0 0] (5,[]):=⟨_,rfl,sF.nil _ _ _,by decide⟩
 have hd:zbl F0 (.slice (some ⟨b2,0,none⟩) 1 1) l14:=⟨[[.int .i64 5,.slice none 0 0]],zhr f2 rfl (by decide),zau (zad.nil (zfh F0) 2) hd1.one hd1⟩
 refine yau hd (by decide) (fun h=>absurd h (by decide)) (fun _ p g mb dv F1 M1 N1 hF1 P1 hM1 hN1 hm1 hw1=>?_)
 refine zo9 ?_
 try simp only [sS]
 refine zde (cs:=[.int .i64 0]) (by kernel_rfl) (fun b5 hb5=>?_)
 refine zde (cs:=[.int .i64 1]) (by kernel_rfl) (fun b6 hb6=>?_)
 refine zaa (v:=.agg #[.slice (some ⟨b6,0,none⟩) 1 1,.int .i64 4]) (by kernel_rfl) ?_
 refine zde (cs:=[.slice (some ⟨b6,0,none⟩) 1 1,.int .i64 4]) (by kernel_rfl) (fun b8 hb8=>?_)
 refine zaa (v:=.agg #[.int .u8 1,.int .u32 7,.int .u32 0,.slice (some ⟨b5,0,none⟩) 1 1,.slice (some ⟨b8,0,none⟩) 1 1,.int .u32 0,.slice none 0 0,.int .i64 0,.int .i64 0,.slice none 0 0]) (by kernel_rfl) ?_
 generalize hMx:upd (upd (upd M1 b5 _) b6 _) b8 _=Mx
 have x5:Mx b5=some (.cells 3 [.int .i64 0] 1):=by rw [← hMx]; exact (za4 _ _ (by omega)).trans ((za4 _ _ (by omega)).trans (za5 _ _ _))
 have x6:Mx b6=some (.cells 3 [.int .i64 1] 1):=by rw [← hMx]; exact (za4 _ _ (by omega)).trans (za5 _ _ _)
 have x8:Mx b8=some (.cells 90 [.slice (some ⟨b6,0,none⟩) 1 1,.int .i64 4] 2):=by rw [← hMx]; exact za5 _ _ _
 have hMx1:∀ q,q<N1→Mx q=M1 q:=fun q hq=>by rw [← hMx]; exact (za4 _ _ (by omega)).trans ((za4 _ _ (by omega)).trans (za4 _ _ (by omega)))
 clear hMx
 refine zej (fun hc=>⟨_,zb7 hm1 hMx1 hc,?_⟩)
 have hs2:=zag (N:=N1) hc
 have y5:=zgs (F:=F1) (N:=N1) (b:=b5) (by omega) x5
 have y6:=zgs (F:=F1) (N:=N1) (b:=b6) (by omega) x6
 have y8:=zgs (F:=F1) (N:=N1) (b:=b8) (by omega) x8
 generalize zdh F1 Mx N1=F2 at *
 clear hc x5 x6 x8 hMx1 Mx
 have hr1:zhd F2 [.int .u8 1,.int .u32 7,.int .u32 0,.slice (some ⟨b5,0,none⟩) 1 1,.slice (some ⟨b8,0,none⟩) 1 1,.int .u32 0,.slice none 0 0,.int .i64 0,.int .i64 0,.slice none 0 0] zrg :=
  ⟨_,_,_,_,_,rfl,zzt y5,yio y6 y8,zcb.nil,rfl,rfl⟩
 obtain ⟨a1,a2,a3,a4⟩:=yoh
 refine zr1 (P1.keep (M':=M1) hs2 (fun _ _=>rfl)) (by omega) (okH.nil _ _ _) (by decide) hr1 yo4 (by decide) (fun hv3 F3 M3 N3 rows3 hF3 P3 hM3 hN3 hm3 hw3=>?_)
 rw [a1]
 rw [a2,a3,a4] at P3
 refine zde (cs:=[.int .i64 0]) (by kernel_rfl) (fun b13 hb13=>?_)
 refine zde (cs:=[.int .i64 0]) (by kernel_rfl) (fun b14 hb14=>?_)
 refine zde (cs:=[.int .i64 5]) (by kernel_rfl) (fun b15 hb15=>?_)
 refine zaa (v:=.agg #[.slice (some ⟨b13,0,none⟩) 1 1,.slice (some ⟨b14,0,none⟩) 1 1,.slice (some ⟨b15,0,none⟩) 1 1]) (by kernel_rfl) ?_
 refine zal (fun b17 hb17=>?_)
 refine stM (cs':=[.slice (some ⟨b13,0,none⟩) 1 1,.slice (some ⟨b14,0,none⟩) 1 1,.slice (some ⟨b15,0,none⟩) 1 1]) ?_
 rw [zbe]
 refine zas (vs:=[.slice (some ⟨b13,0,none⟩) 1 1,.slice (some ⟨b14,0,none⟩) 1 1,.slice (some ⟨b15,0,none⟩) 1 1]) ?_
 generalize hM7:upd (upd (upd (upd M3 b13 _) b14 _) b15 _) b17 _=M7
 have g17:M7 b17=some (.cells 55 [.slice (some ⟨b13,0,none⟩) 1 1,.slice (some ⟨b14,0,none⟩) 1 1,.slice (some ⟨b15,0,none⟩) 1 1] 3):=by rw [← hM7]; exact za5 _ _ _
 have g15:M7 b15=some (.cells 3 [.int .i64 5] 1):=by rw [← hM7]; exact (za4 _ _ (by omega)).trans (za5 _ _ _)
 have g14:M7 b14=some (.cells 3 [.int .i64 0] 1):=by rw [← hM7]; exact (za4 _ _ (by omega)).trans ((za4 _ _ (by omega)).trans (za5 _ _ _))
 have g13:M7 b13=some (.cells 3 [.int .i64 0] 1):=by rw [← hM7]; exact (za4 _ _ (by omega)).trans ((za4 _ _ (by omega)).trans ((za4 _ _ (by omega)).trans (za5 _ _ _)))
 have hM75:∀ q,q<N3→M7 q=M3 q:=fun q hq=>by rw [← hM7]; exact (za4 _ _ (by omega)).trans ((za4 _ _ (by omega)).trans ((za4 _ _ (by omega)).trans (za4 _ _ (by omega))))
 have hm7:za7 M7 (b17+1):=by rw [← hM7]; exact (((hm3.new hb13 _).new hb14 _).new hb15 _).new hb17 _
 clear hM7
 obtain ⟨N7,hN7⟩:∃ n,n=b17+1:=⟨_,rfl⟩
 rw [← hN7] at hm7 ⊢
 refine zej (fun hc=>⟨_,zgw (p:=fun q=>q=b13∨q=b14∨q=b15) hc,?_⟩)
 have hs8:=zbd (p:=fun q=>q=b13∨q=b14∨q=b15) hc
 have f13:=zik (F:=F3) (p:=fun q=>q=b13∨q=b14∨q=b15) (.inl rfl) g13
 have f14:=zik (F:=F3) (p:=fun q=>q=b13∨q=b14∨q=b15) (.inr (.inl rfl)) g14
 have f15:=zik (F:=F3) (p:=fun q=>q=b13∨q=b14∨q=b15) (.inr (.inr rfl)) g15
 have g17':zbj M7 (fun q=>¬ (q=b13∨q=b14∨q=b15)) b17=_:=(zay (by omega)).trans g17
 have hM85:∀ q,q<N3→zbj M7 (fun q=>¬ (q=b13∨q=b14∨q=b15)) q=M3 q:=fun q hq=>(zay (by omega)).trans (hM75 q hq)
 have hm8:=zcl (p:=fun q=>¬ (q=b13∨q=b14∨q=b15)) hm7
 generalize frzP F3 M7 _=F8 at *
 generalize zbj M7 _=M8 at *
 have hq:zfa F8 [.slice (some ⟨b13,0,none⟩) 1 1,.slice (some ⟨b14,0,none⟩) 1 1,.slice (some ⟨b15,0,none⟩) 1 1] [0] [0] [5]:=⟨_,_,_,rfl,zzt f13,zzt f14,zzt f15,by decide,by decide,by decide⟩
 have P8:=P3.up (M':=M8) hm3 hs8 hM85
 obtain ⟨q1,q2,q3,q4⟩:=yso
 refine zsc hE P8 (by decide) (by decide) (by decide) (by decide) (by simp) hq (by simp [i64]) (by simp [ze3,tab]) (fun ws F9 N9 h0 hws hw9 hF9 hN9=>?_) (fun h0=>absurd (ycr h0) (by simp))
 try simp only [sS]
 refine zww hE (P8.keep (M':=M8) hF9 (fun _ _=>rfl)) (by decide) (fun u10 ws2 F10 N10 hw10 hF10 hN10 hws2 hs10=>?_)
 rw [ycr hws2] at hs10
 refine zam hs10 ?_
 refine zaa (v:=.agg #[.int .u8 2,.int .u32 7,.int .u32 3,.slice none 0 0,.slice none 0 0,.int .u32 0,.slice none 0 0,.int .i64 0,.int .i64 0,.slice none 0 0]) (by kernel_rfl) ?_
 have hr2:zhd F10 [.int .u8 2,.int .u32 7,.int .u32 3,.slice none 0 0,.slice none 0 0,.int .u32 0,.slice none 0 0,.int .i64 0,.int .i64 0,.slice none 0 0] zr6 :=
  ⟨_,_,_,_,_,rfl,sF.nil _ _ _,zar.nil,zcb.nil,rfl,rfl⟩
 obtain ⟨c1,c2,c3,c4⟩:=yoz
 have hF810:=hF9.trans hF10
 refine zr1 (P8.keep (M':=M8) hF810 (fun _ _=>rfl)) (by omega) (okH.nil _ _ _) (by decide) hr2 yna (by decide) (fun hv11 F11 M11 N11 rows11 hF11 P11 hM11 hN11 hm11 hw11=>?_)
 rw [c1]
 rw [c2,c3,c4] at P11
 have hpl3:=P3.lt hm3
 have g17b:=(hM11 b17 (fun e=>by have := (hpl3 b17 (.inr (.inr (.inr e)))).2; omega) (fun e=>by have := (hpl3 g (.inr (.inr (.inl rfl)))).2; omega) (fun e=>by have := (hpl3 mb (.inr (.inl rfl))).2; omega) (fun e=>by have := (hpl3 p (.inl rfl)).2; omega) (by omega)).1.trans g17'
 refine zas (vs:=[.slice (some ⟨b13,0,none⟩) 1 1,.slice (some ⟨b14,0,none⟩) 1 1,.slice (some ⟨b15,0,none⟩) 1 1]) ?_ g17b
 refine zsc hE P11 (by decide) (by decide) (by decide) (by decide) (by simp [h14,okK,i64]) (hq.mono (hF810.trans hF11)) (by simp [i64]) (by rw [q1,q2]; simp [okK,i64]) (fun ws F12 N12 h0 hws=>by rw [yky hws] at h0; simp at h0) (fun _ u12 F12 N12 hw12 hF12 hN12 h12=>?_)
 rw [q1,q2,q3]
 rw [q1,q2,q4] at h12
 obtain ⟨p12,h12a,h12b⟩:=h12
 try simp only [sS]
 refine zi3 rfl ?_
 try simp only [sS]
 refine zi3 rfl ?_
 try simp only [sS]
 refine zi3 rfl ?_
 try simp only [sS]
 refine zi3 rfl ?_
 try simp only [sS]
 refine zi3 rfl ?_
 try simp only [sS]
 refine zam h12a (zi3 rfl ?_)
 try simp only [sS]
 refine zx4 (id:=7) (P11.keep (M':=M11) hF12 (fun _ _=>rfl)) (fun N13 hN13 hw13=>?_)
 refine zaa (v:=.agg #[.int .u8 2,.int .u32 3]) (by kernel_rfl) ?_
 refine zaa (v:=.bool true) (by kernel_rfl) ?_
 try simp only [sS]
 refine yau (l:=[]) ⟨[],sF.nil _ _ _,zad.nil _ _⟩ (by decide) (fun _ N14 hN14 hw14=>?_) (fun h=>absurd h (by decide))
 refine zaa (v:=.bool true) rfl ?_
 try simp only [sS]
 have hpl1:=P1.lt hm1
 have hge1:∀ q,q=p∨q=mb∨q=g→N≤q:=fun q hq=>by have := (hpl1 q (by rcases hq with h | h | h; exact .inl h; exact .inr (.inl h); exact .inr (.inr (.inl h)))).1; omega
 have hX:∀ q,q<N→M11 q=M q:=fun q hq=>by
  have np:q≠p:=fun e=>by have := hge1 p (.inl rfl); omega
  have nmb:q≠mb:=fun e=>by have := hge1 mb (.inr (.inl rfl)); omega
  have ng:q≠g:=fun e=>by have := hge1 g (.inr (.inr rfl)); omega
  have n3:hv3.ownBlock≠some q:=fun e=>by have := (hpl3 q (.inr (.inr (.inr e)))).1; omega
  rw [(hM11 q n3 ng nmb np (by omega)).1,hM85 q (by omega),(hM3 q (by simp [Value.ownBlock]) ng nmb np (by omega)).1,hM1 q (by omega)]
 exact fun hc=>⟨_,zb7 hm hX hc,fun hw'=>k _ _ ((((((hs0.trans hF1).trans hs2).trans hF3).trans hs8).trans hF810).trans ((hF11.trans hF12).trans (zag hc))) (by omega) hw'⟩
end Go.Proofs.YtgcmbkoejjcjlaaGreatDoor.A
open Go Go.RowKit Go.Proofs.YtgcmbkoejjcjlaaGreatDoor.K
set_option linter.unusedVariables false
set_option maxRecDepth 100000
namespace Go.Proofs.YtgcmbkoejjcjlaaGreatDoor.T
section
variable (K:zae) (E:zat) (k1 k2 k3 k4 k5:Env→Hp→Prop) (x0 x1 x2 x3 x4 x5 x6 x7 x8 x9 x10 x11 x12 x13 x14 x15 x16 x17 x18 x19 x20 x21 x22 x23 x24 x25 x26 x27 x28 x29 x30 x31 x32 x33 x34 x35 x36 x37 x38 x39 x40 x41 x42 x43 x44 x45 x46 x47 x48 x49 x50 x51 x52 x53 x54 x55 x56 x57 x58 x59 x60 x61 x62 x63 x64 x65 x66 x67 x68 x69 x70 x71 x72 x73 x74 x75 x76 x77 x78 x79 x80 x81 x82 x83 x84 x85 x86 x87 x88 x89 x90 x91 x92 x93 x94 x95 x96 x97 x98 x99 x100 x101 x102 x103 x104 x105 x106 x107 x108 x109 x110 x111 x112 x113 x114 x115 x116 x117 x118 x119 x120 x121 x122 x123 v0 v1 v2 v3 v4 v5 v6 v7 v8 v9 v10 v11 v12 v13 v14 v15 v16 v17 v18 v19 v20 v21 v22 v23 v24 v25 v26 v27 v28 v29 v30 v31 v32 v33 v34 v35 v36 v37 v38 v39 v40 v41 v42 v43 v44 v45 v46 v47 v48 v49 v50 v51 v52 v53 v54 v55 v56 v57 v58 v59 v60 v61 v62 v63 v64 v65 v66 v67 v68 v69 v70 v71 v72 v73 v74 v75 v76 v77 v78 v79 v80 v81 v82 v83 v84 v85 v86 v87 v88 v89 v90 v91 v92 v93 v94 v95 v96 v97 v98 v99 v100 v101 v102 v103 v104 v105 v106 v107 v108 v109 v110 v111 v112 v113 v114 v115 v116 v117 v118 v119 v120 v121 v122 v123:Value) (j:Nat→Value)
abbrev q7:QD:=zab Tryz.prog Tryz.f7.results.toList K E
abbrev d7 (p:List Nat):QD→Env→Hp→Prop:=den Tryz.prog (sel (za8 Tryz.f7) p)
end
section
variable {K:zae} {E:zat} {k1 k2 k3 k4 k5:Env→Hp→Prop} {σ:Type} {x0 x1 x2 x3 x4 x5 x6 x7 x8 x9 x10 x11 x12 x13 x14 x15 x16 x17 x18 x19 x20 x21 x22 x23 x24 x25 x26 x27 x28 x29 x30 x31 x32 x33 x34 x35 x36 x37 x38 x39 x40 x41 x42 x43 x44 x45 x46 x47 x48 x49 x50 x51 x52 x53 x54 x55 x56 x57 x58 x59 x60 x61 x62 x63 x64 x65 x66 x67 x68 x69 x70 x71 x72 x73 x74 x75 x76 x77 x78 x79 x80 x81 x82 x83 x84 x85 x86 x87 x88 x89 x90 x91 x92 x93 x94 x95 x96 x97 x98 x99 x100 x101 x102 x103 x104 x105 x106 x107 x108 x109 x110 x111 x112 x113 x114 x115 x116 x117 x118 x119 x120 x121 x122 x123 v0 v1 v2 v3 v4 v5 v6 v7 v8 v9 v10 v11 v12 v13 v14 v15 v16 v17 v18 v19 v20 v21 v22 v23 v24 v25 v26 v27 v28 v29 v30 v31 v32 v33 v34 v35 v36 v37 v38 v39 v40 v41 v42 v43 v44 v45 v46 v47 v48 v49 v50 v51 v52 v53 v54 v55 v56 v57 v58 v59 v60 v61 v62 v63 v64 v65 v66 v67 v68 v69 v70 v71 v72 v73 v74 v75 v76 v77 v78 v79 v80 v81 v82 v83 v84 v85 v86 v87 v88 v89 v90 v91 v92 v93 v94 v95 v96 v97 v98 v99 v100 v101 v102 v103 v104 v105 v106 v107 v108 v109 v110 v111 v112 v113 v114 v115 v116 v117 v118 v119 v120 v121 v122 v123:Value} {h:Hp} {j:Nat→Value}
end
end Go.Proofs.YtgcmbkoejjcjlaaGreatDoor.T
open Go Go.RowKit Go.Proofs.YtgcmbkoejjcjlaaGreatDoor.K Go.Proofs.YtgcmbkoejjcjlaaGreatDoor.T
set_option linter.unusedVariables false
set_option linter.unusedSimpArgs false
namespace Go.Proofs.YtgcmbkoejjcjlaaGreatDoor.A
variable {F F':Nat→Option (List Value)} {M M':Nat→Option zak} {N N':Nat} {K:zae} {E:zat}
end Go.Proofs.YtgcmbkoejjcjlaaGreatDoor.A
open Go Go.RowKit Go.Proofs.YtgcmbkoejjcjlaaGreatDoor.K
set_option linter.unusedVariables false
set_option maxRecDepth 100000
namespace Go.Proofs.YtgcmbkoejjcjlaaGreatDoor.T
section
variable (K:zae) (E:zat) (k1 k2 k3 k4 k5:Env→Hp→Prop) (x0 x1 x2 x3 x4 x5 x6 x7 x8 x9 x10 x11 x12 x13 x14 x15 x16 x17 x18 x19 x20 x21 x22 x23 x24 x25 x26 x27 x28 x29 x30 x31 x32 x33 x34 x35 x36 x37 x38 x39 x40 x41 x42 x43 x44 x45 x46 x47 x48 x49 x50 x51 x52 x53 x54 x55 x56 x57 x58 x59 x60 x61 x62 x63 x64 x65 x66 x67 x68 x69 x70 x71 x72 x73 x74 x75 x76 x77 x78 x79 x80 x81 x82 x83 x84 x85 x86 x87 x88 x89 x90 x91 x92 x93 x94 x95 x96 x97 x98 x99 x100 x101 x102 x103 x104 x105 x106 x107 x108 x109 x110 x111 x112 x113 x114 x115 x116 x117 x118 x119 x120 x121 x122 x123 v0 v1 v2 v3 v4 v5 v6 v7 v8 v9 v10 v11 v12 v13 v14 v15 v16 v17 v18 v19 v20 v21 v22 v23 v24 v25 v26 v27 v28 v29 v30 v31 v32 v33 v34 v35 v36 v37 v38 v39 v40 v41 v42 v43 v44 v45 v46 v47 v48 v49 v50 v51 v52 v53 v54 v55 v56 v57 v58 v59 v60 v61 v62 v63 v64 v65 v66 v67 v68 v69 v70 v71 v72 v73 v74 v75 v76 v77 v78 v79 v80 v81 v82 v83 v84 v85 v86 v87 v88 v89 v90 v91 v92 v93 v94 v95 v96 v97 v98 v99 v100 v101 v102 v103 v104 v105 v106 v107 v108 v109 v110 v111 v112 v113 v114 v115 v116 v117 v118 v119 v120 v121 v122 v123:Value) (j:Nat→Value)
abbrev q8:QD:=zab Tryz.prog Tryz.f8.results.toList K E
abbrev d8 (p:List Nat):QD→Env→Hp→Prop:=den Tryz.prog (sel (za8 Tryz.f8) p)
end
section
variable {K:zae} {E:zat} {k1 k2 k3 k4 k5:Env→Hp→Prop} {σ:Type} {x0 x1 x2 x3 x4 x5 x6 x7 x8 x9 x10 x11 x12 x13 x14 x15 x16 x17 x18 x19 x20 x21 x22 x23 x24 x25 x26 x27 x28 x29 x30 x31 x32 x33 x34 x35 x36 x37 x38 x39 x40 x41 x42 x43 x44 x45 x46 x47 x48 x49 x50 x51 x52 x53 x54 x55 x56 x57 x58 x59 x60 x61 x62 x63 x64 x65 x66 x67 x68 x69 x70 x71 x72 x73 x74 x75 x76 x77 x78 x79 x80 x81 x82 x83 x84 x85 x86 x87 x88 x89 x90 x91 x92 x93 x94 x95 x96 x97 x98 x99 x100 x101 x102 x103 x104 x105 x106 x107 x108 x109 x110 x111 x112 x113 x114 x115 x116 x117 x118 x119 x120 x121 x122 x123 v0 v1 v2 v3 v4 v5 v6 v7 v8 v9 v10 v11 v12 v13 v14 v15 v16 v17 v18 v19 v20 v21 v22 v23 v24 v25 v26 v27 v28 v29 v30 v31 v32 v33 v34 v35 v36 v37 v38 v39 v40 v41 v42 v43 v44 v45 v46 v47 v48 v49 v50 v51 v52 v53 v54 v55 v56 v57 v58 v59 v60 v61 v62 v63 v64 v65 v66 v67 v68 v69 v70 v71 v72 v73 v74 v75 v76 v77 v78 v79 v80 v81 v82 v83 v84 v85 v86 v87 v88 v89 v90 v91 v92 v93 v94 v95 v96 v97 v98 v99 v100 v101 v102 v103 v104 v105 v106 v107 v108 v109 v110 v111 v112 v113 v114 v115 v116 v117 v118 v119 v120 v121 v122 v123:Value} {h:Hp} {j:Nat→Value}
end
end Go.Proofs.YtgcmbkoejjcjlaaGreatDoor.T
open Go Go.RowKit Go.Proofs.YtgcmbkoejjcjlaaGreatDoor.K Go.Proofs.YtgcmbkoejjcjlaaGreatDoor.T
set_option linter.unusedVariables false
set_option linter.unusedSimpArgs false
namespace Go.Proofs.YtgcmbkoejjcjlaaGreatDoor.A
variable {F F':Nat→Option (List Value)} {M M':Nat→Option zak} {N N':Nat} {K:zae} {E:zat}
structure OpP where
 kind:Int
 id:Int
 at':Int
 nodes:List Int
 keys:List (List Int)
 v:List Int
 facts:List Fc
 L:List En
structure OpP.ok (o:OpP):Prop where
 kd:0≤o.kind∧o.kind<256
 ia:0≤o.id∧o.id<4294967296
 ta:0≤o.at'∧o.at'<4294967296
 nl:o.nodes.length≤17592186043904
 kl:o.keys.length≤140737488351232
 kc:∀ k∈o.keys,∀ x∈k,0≤x∧x<65536
 vl:o.v.length≤140737488351232
 vc:∀ x∈o.v,i64 x
 fl:o.facts.length≤140737488351232
 fc:∀ f∈o.facts,i64 f.2
 ll:o.L.length≤140737488351232
 lt:∀ e∈o.L,0≤e.1∧e.1<4294967296
 lc:∀ e∈o.L,∀ f∈e.2,i64 f.2
def opP (F:Nat→Option (List Value)) (cs:List Value) (o:OpP):Prop:=∃ n k v f L,cs=[.int .u8 o.kind,.int .u32 o.id,.int .u32 o.at',n,k,v,f,L]∧sF F 1 n o.nodes.length (ic o.nodes)∧zis .u16 F k o.keys∧sF F 1 v o.v.length (ic o.v)∧zar F f o.facts∧zcb F L o.L∧o.ok
theorem opP.mono {cs:List Value} {o:OpP} (h:opP F cs o) (hF:zac F F'):opP F' cs o:=let ⟨n,k,v,f,L,e,h0,h1,h2,h3,h4,h5⟩:=h; ⟨n,k,v,f,L,e,h0.mono hF,h1.mono hF,h2.mono hF,h3.mono hF,h4.mono hF,h5⟩
theorem zis.formP {k:IntKind} {v:Value} {ks:List (List Int)} (h:zis k F v ks):∃ a c,v=.slice a ks.length c:=let ⟨rows,h1,_⟩:=h; let ⟨a,c,h2,_⟩:=h1.form; ⟨a,c,h2⟩
theorem opP.one {cs:List Value} {o:OpP} (h:opP F cs o):cs.length=8∧∀ c∈cs,c.oneCell'=true:=by
 obtain ⟨n,k,v,f,L,rfl,h0,h1,h2,h3,h4,_⟩:=h
 obtain ⟨a0,c0,rfl,_⟩:=h0.form
 obtain ⟨a1,c1,rfl⟩:=h1.formP
 obtain ⟨a2,c2,rfl,_⟩:=h2.form
 obtain ⟨a3,c3,rfl⟩:=h3.form
 obtain ⟨a4,c4,rfl⟩:=h4.form
 exact ⟨rfl,List.all_eq_true.1 rfl⟩
def zwt (F:Nat→Option (List Value)) (v:Value) (l:List OpP):Prop:=∃ rows,sF F 8 v l.length rows.flatten∧zad (opP F) 8 rows l
theorem zwt.mono {v:Value} {l:List OpP} (h:zwt F v l) (hF:zac F F'):zwt F' v l:=let ⟨rows,h1,h2⟩:=h; ⟨rows,h1.mono hF,h2.mono fun _ _ hr=>hr.mono hF⟩
theorem zki {e:EqK} {a b:Int} {h:Hp} (k:∀ r:Int,K (.int .i64 r) h):pv (za1 e .add (.int .i64 a) (.int .i64 b)) K h:=⟨_,by rw [inV]; rfl,k _⟩
theorem yez {v:Value} {l:List OpP} (hv:zwt F v l) (hl:l.length≤140737488351232) (k:∀ r:Int,(Hp.mk F M N).wf→K (.int .i64 r) ⟨F,M,N⟩) :
  za2 Tryz.prog (.func (.func 10) #[] #[]) #[v] K E ⟨F,M,N⟩:=by
 refine za3 mixed Tryz.func10 (by kernel_rfl) (t10 _ E _) (fun hw=>?_)
 obtain ⟨rows,hv1,hv2⟩:=hv
 refine zt6 (σ:=Nat×Int) (fun s=>.int .i64 s.2) (fun s=>.int .i64 (s.1:Nat)) (fun s h'=>h'=⟨F,M,N⟩∧s.1≤l.length) (fun s=>l.length - s.1) (0,0) rfl rfl
  (fun hw1=>⟨_,za0 hw1,rfl,Nat.zero_le _⟩) (fun kk s j h1 hI hw1 next=>?_)
 rw [zuo]
 obtain ⟨rfl,hi⟩:=hI
 refine zam hv1 ?_
 refine zaf (fun hlt=>?_) (fun hge=>?_)
 ·have i1:s.1<l.length:=by omega
  try simp only [sS]
  refine zbb hv1 hv2 (by decide) i1 (off:=4) (by decide) fun p z r y hR _ hy=>?_
  obtain ⟨cn,ck,cv,cf,cL,rfl,hn,hk,_,hf,hL,ok⟩:=hR
  have hy':y=ck:=by simpa using hy.symm
  subst hy'
  obtain ⟨a1,c1,e1⟩:=hk.formP
  refine zaa (v:=.int .i64 (l[s.1].keys.length:Nat)) (by rw [e1]; rfl) (zki fun r1=>?_)
  refine zbb hv1 hv2 (by decide) i1 (off:=6) (by decide) fun p z r y hR _ hy=>?_
  obtain ⟨cn,ck,cv,cf,cL,rfl,hn,hk,_,hf,hL,ok⟩:=hR
  have hy':y=cf:=by simpa using hy.symm
  subst hy'
  obtain ⟨a1,c1,e1⟩:=hf.form
  refine zaa (v:=.int .i64 (l[s.1].facts.length:Nat)) (by rw [e1]; rfl) (zki fun r2=>?_)
  refine zbb hv1 hv2 (by decide) i1 (off:=3) (by decide) fun p z r y hR _ hy=>?_
  obtain ⟨cn,ck,cv,cf,cL,rfl,hn,hk,_,hf,hL,ok⟩:=hR
  have hy':y=cn:=by simpa using hy.symm
  subst hy'
  obtain ⟨a1,c1,e1,_⟩:=hn.form
  refine zaa (v:=.int .i64 (l[s.1].nodes.length:Nat)) (by rw [e1]; rfl) (zki fun r4=>zki fun r3=>?_)
  refine zj7 (σ:=Nat×Int) (fun q=>.int .i64 q.2) (fun q=>.int .i64 (q.1:Nat)) (fun q h'=>h'=⟨F,M,N⟩∧q.1≤l[s.1].L.length) (fun q=>l[s.1].L.length - q.1) (0,r3) rfl rfl
   (fun hw2=>⟨_,za0 hw2,rfl,Nat.zero_le _⟩) (fun kk2 q j2 h2 hI2 hw2 next2=>?_)
  rw [zj8]
  obtain ⟨rfl,hq⟩:=hI2
  refine zbb hv1 hv2 (by decide) i1 (off:=7) (by decide) fun p z r y hR _ hy=>?_
  obtain ⟨cn,ck,cv,cf,cL,rfl,hn,hk,_,hf,hL,ok⟩:=hR
  have hy':y=cL:=by simpa using hy.symm
  subst hy'
  obtain ⟨a1,c1,e1⟩:=hL.form
  have hll:=ok.ll
  refine zaa (v:=.int .i64 (l[s.1].L.length:Nat)) (by rw [e1]; rfl) ?_
  refine zaf (fun hlt2=>?_) (fun hge2=>?_)
  ·have q1:q.1<l[s.1].L.length:=by omega
   try simp only [sS]
   refine zbb hv1 hv2 (by decide) i1 (off:=7) (by decide) fun p z r y2 hR _ hy=>?_
   obtain ⟨cn,ck,cv,cf,cL,rfl,hn,hk,_,hf,hL,ok⟩:=hR
   have hy':y2=cL:=by simpa using hy.symm
   subst hy'
   obtain ⟨lrows,hL1,hL2⟩:=hL
   refine zbb hL1 hL2 (by decide) q1 (off:=1) (by decide) fun p z r y3 hR _ hy=>?_
   obtain ⟨fv,rfl,hfv⟩:=hR.at
   have hy':y3=fv:=by simpa using hy.symm
   subst hy'
   obtain ⟨frows,hfa,_⟩:=hfv
   refine zam hfa (zki fun r5=>zki fun r6=>?_)
   refine zai (by omega) ?_
   exact next2 (q.1+1,r6) _ _ (by simp only; omega) (fun hw3=>⟨_,za0 hw3,rfl,q1⟩)
  ·try simp only [sS]
   refine zai (by omega) ?_
   exact next (s.1+1,q.2) _ _ (by simp only; omega) (fun hw3=>⟨_,za0 hw3,rfl,i1⟩)
 ·try simp only [sS]
  exact fun hc=>⟨_,za0 hc,fun hw'=>k s.2 hw'⟩
def zg4 (l:List Dm) (o:OpP):zcw :=
 if o.kind%10=4∨o.kind%10=5 then ⟨2,o.id%9,o.at'%40,[],[],0,0,[]⟩
 else if o.kind%10=6 then ⟨3,o.id%9,0,[],[],0,0,[]⟩
 else if o.kind%10=7 then ⟨7,o.id,0,[],[],0,10000,if o.id%2=0 then [(1+o.at'%40,zcj l o.keys o.v)] else o.L⟩
 else if o.kind%10=8 then ⟨1,o.id%9,0,o.nodes,o.facts,0,0,[]⟩
 else if o.kind%10=9 then ⟨5,o.id,0,[],[],0,0,[]⟩
 else ⟨1,o.id%9,0,o.nodes,zcj l o.keys o.v,0,0,[]⟩
theorem zjh {b2 b5 e2 e5:Nat} {x0 x1 x2 x3 x6 x7 x8 x9 x10 x11 x12 x13 x14 x15 x16 x17 x18 x19 x20 x21 x22 x23 x24 x25 x26 x27 x28 x29 x30 x31 x32 x33 x34 x35 x36 x37 x38 x39 x40 x41 x42 x43 x44 x45 x46 x47 x48 x49 x50 x51 x52 x53 x54 x55 x56 x57 x58 x59 x60 x61 x62 x63 x64 x65 x66 x67 x68 x69 x70 x71 x72 x73 a0 a1 a2 a3 a4 a5 a6 a7 a8 a9 c0 c1 c2 c3 c4 c5 c6 c7 c8 c9:Value} (h5:M b5=some (.cells e5 [a0,a1,a2,a3,a4,a5,a6,a7,a8,a9] 10)) (h2:M b2=some (.cells e2 [c0,c1,c2,c3,c4,c5,c6,c7,c8,c9] 10)) (h1:∀ c∈[a0,a1,a2,a3,a4,a5,a6,a7,a8,a9],c.oneCell'=true) (k:K (.agg #[a0,a1,a2,a3,a4,a5,a6,a7,a8,a9]) ⟨F,upd M b2 (some (.cells e2 [a0,a1,a2,a3,a4,a5,a6,a7,a8,a9] 10)),N⟩) :
  d15 [1,1,1] (q15 K E) #[x0,x1,x2,x3,.pointer (some ⟨b2,0,none⟩),.pointer (some ⟨b5,0,none⟩),x6,x7,x8,x9,x10,x11,x12,x13,x14,x15,x16,x17,x18,x19,x20,x21,x22,x23,x24,x25,x26,x27,x28,x29,x30,x31,x32,x33,x34,x35,x36,x37,x38,x39,x40,x41,x42,x43,x44,x45,x46,x47,x48,x49,x50,x51,x52,x53,x54,x55,x56,x57,x58,x59,x60,x61,x62,x63,x64,x65,x66,x67,x68,x69,x70,x71,x72,x73] ⟨F,M,N⟩:=by
 rw [yes]
 refine zas (vs:=[a0,a1,a2,a3,a4,a5,a6,a7,a8,a9]) ?_ h5
 refine stM (cs':=[a0,a1,a2,a3,a4,a5,a6,a7,a8,a9]) ?_ h2 rfl rfl h1
 exact zas (vs:=[a0,a1,a2,a3,a4,a5,a6,a7,a8,a9]) k (za5 _ _ _)
set_option maxRecDepth 10000 in
theorem zjd {b1 b2 b5 N0:Nat} {M0:Nat→Option zak} {l:List Dm} {o:OpP} {nv kv vv fv Lv xf dv x1 x2 x6 x7 x8 x9 x10 x11 x12 x13 x14 x15 x16 x17 x18 x19 x20 x23 x24 x25 x26 x27 x28 x29 x30 x31 x32 x33 x34 x35 x36 x37 x38 x39 x40 x41 x42 x43 x44 x45 x46 x47 x48 x49 x50 x51 x52 x53 x54 x55 x56 x57 x58 x59 x60 x61 x62 x63 x64 x65 x66 x67 x68 x69 x70 x71 x72 x73 c0 c1 c2 c3 c4 c5 c6 c7 c8 c9:Value} {q:Bool}
  (hb1:M b1=some (.cells 49 [.int .u8 o.kind,.int .u32 o.id,.int .u32 o.at',nv,kv,vv,fv,Lv] 8)) (hb2:M b2=some (.cells 44 [c0,c1,c2,c3,c4,c5,c6,c7,c8,c9] 10))
  (hb5:M b5=some (.cells 44 [.int .u8 1,.int .u32 (o.id%9),.int .u32 0,nv,xf,.int .u32 0,.slice none 0 0,.int .i64 0,.int .i64 0,.slice none 0 0] 10)) (h15:b1≠b5) (h25:b2≠b5) (h12:b1≠b2) (n2:N0≤b2) (n5:N0≤b5)
  (hm0:za7 M0 N0) (hX:∀ q,q<N0→M q=M0 q) (hN0:N0≤N) (hgd:zdb l) (hd:zbl F dv l) (hn:sF F 1 nv o.nodes.length (ic o.nodes)) (hk:zis .u16 F kv o.keys) (hv:sF F 1 vv o.v.length (ic o.v)) (hf:zar F fv o.facts) (hL:zcb F Lv o.L) (ok:o.ok)
  (hxf:zar F xf (zcj l o.keys o.v)) (hq:q=decide (o.kind%10=4∨o.kind%10=5)) (k:∀ rs F' N',(Hp.mk F' M0 N').wf→zac F F'→N0≤N'→zhd F' rs (zg4 l o)→K (.agg rs.toArray) ⟨F',M0,N'⟩) :
  d15 [1,1,0,1,0,1] (blk 0 (za6 (d15 [1,1,1] (q15 (fun v h=>h.wf→∃ h',h.wk h'∧(h'.wf→K v h')) E)) (q15 (fun v h=>h.wf→∃ h',h.wk h'∧(h'.wf→K v h')) E))) #[dv,x1,x2,.pointer (some ⟨b1,0,none⟩),.pointer (some ⟨b2,0,none⟩),.pointer (some ⟨b5,0,none⟩),x6,x7,x8,x9,x10,x11,x12,x13,x14,x15,x16,x17,x18,x19,x20,.int .u8 (o.kind%10),.bool q,x23,x24,x25,x26,x27,x28,x29,x30,x31,x32,x33,x34,x35,x36,x37,x38,x39,x40,x41,x42,x43,x44,x45,x46,x47,x48,x49,x50,x51,x52,x53,x54,x55,x56,x57,x58,x59,x60,x61,x62,x63,x64,x65,x66,x67,x68,x69,x70,x71,x72,x73] ⟨F,M,N⟩:=by
 rw [zve]
 subst hq
 obtain ⟨an,cn,en,_⟩:=hn.form
 obtain ⟨ax,cx,ex⟩:=hxf.form
 obtain ⟨af,cf,ef⟩:=hf.form
 obtain ⟨aL,cL,eL⟩:=hL.form
 have hia:=ok.ia
 have hta:=ok.ta
 have fin:∀ {rs:List Value} {M':Nat→Option zak} {N':Nat},(Hp.mk F M' N').wf→(∀ q,q<N0→M' q=M0 q)→N0≤N'→zhd F rs (zg4 l o)→∃ h',(Hp.mk F M' N').wk h'∧(h'.wf→K (.agg rs.toArray) h'):=fun hc hX' hN' hr=>
  ⟨_,zb7 hm0 hX' hc,fun hw'=>k _ _ _ hw' (zag hc) (by omega) (hr.mono (zag hc))⟩
 by_cases h45:o.kind%10=4∨o.kind%10=5
 ·rw [decide_eq_true h45]
  try simp only [sS]
  refine ldM (v:=.int .u32 o.id) ?_ hb1
  refine zi1 hia.1 (by decide) ?_
  refine ldM (v:=.int .u32 o.at') ?_ hb1
  refine zi1 hta.1 (by decide) ?_
  refine zaa (v:=.agg #[.int .u8 2,.int .u32 (o.id%9),.int .u32 (o.at'%40),.slice none 0 0,.slice none 0 0,.int .u32 0,.slice none 0 0,.int .i64 0,.int .i64 0,.slice none 0 0]) (by kernel_rfl) ?_
  refine stM (cs':=[.int .u8 2,.int .u32 (o.id%9),.int .u32 (o.at'%40),.slice none 0 0,.slice none 0 0,.int .u32 0,.slice none 0 0,.int .i64 0,.int .i64 0,.slice none 0 0]) ?_ hb5 rfl rfl (List.all_eq_true.1 rfl)
  refine zjh (za5 _ _ _) ((za4 _ _ h25).trans hb2) (List.all_eq_true.1 rfl) ?_
  refine fun hc=>fin hc (fun q hq=>?_) (by omega) ?_
  ·rw [za4 _ _ (by omega),za4 _ _ (by omega),hX q hq]
  ·unfold zg4; rw [if_pos h45]; exact ⟨_,_,_,_,_,rfl,sF.nil _ _ _,zar.nil,zcb.nil,rfl,rfl⟩
 rw [decide_eq_false h45]
 try simp only [sS]
 refine zba (fun h6=>?_) (fun h6=>?_)
 ·try simp only [sS]
  refine ldM (v:=.int .u32 o.id) ?_ hb1
  refine zi1 hia.1 (by decide) ?_
  refine zaa (v:=.agg #[.int .u8 3,.int .u32 (o.id%9),.int .u32 0,.slice none 0 0,.slice none 0 0,.int .u32 0,.slice none 0 0,.int .i64 0,.int .i64 0,.slice none 0 0]) (by kernel_rfl) ?_
  refine stM (cs':=[.int .u8 3,.int .u32 (o.id%9),.int .u32 0,.slice none 0 0,.slice none 0 0,.int .u32 0,.slice none 0 0,.int .i64 0,.int .i64 0,.slice none 0 0]) ?_ hb5 rfl rfl (List.all_eq_true.1 rfl)
  refine zjh (za5 _ _ _) ((za4 _ _ h25).trans hb2) (List.all_eq_true.1 rfl) ?_
  refine fun hc=>fin hc (fun q hq=>?_) (by omega) ?_
  ·rw [za4 _ _ (by omega),za4 _ _ (by omega),hX q hq]
  ·unfold zg4; rw [if_neg h45,if_pos h6]; exact ⟨_,_,_,_,_,rfl,sF.nil _ _ _,zar.nil,zcb.nil,rfl,rfl⟩
 try simp only [sS]
 refine zba (fun h7=>?_) (fun h7=>?_)
 ·try simp only [sS]
  refine ldM (v:=.int .u32 o.id) ?_ hb1
  refine ldM (v:=Lv) ?_ hb1
  refine zaa (v:=.agg #[.int .u8 7,.int .u32 o.id,.int .u32 0,.slice none 0 0,.slice none 0 0,.int .u32 0,.slice none 0 0,.int .i64 0,.int .i64 10000,Lv]) (by rw [eL]; kernel_rfl) ?_
  refine stM (cs':=[.int .u8 7,.int .u32 o.id,.int .u32 0,.slice none 0 0,.slice none 0 0,.int .u32 0,.slice none 0 0,.int .i64 0,.int .i64 10000,Lv]) ?_ hb5 rfl rfl (by rw [eL]; exact List.all_eq_true.1 rfl)
  have hb1':=(za4 M (some (.cells 44 [.int .u8 7,.int .u32 o.id,.int .u32 0,.slice none 0 0,.slice none 0 0,.int .u32 0,.slice none 0 0,.int .i64 0,.int .i64 10000,Lv] 10)) h15).trans hb1
  refine ldM (v:=.int .u32 o.id) ?_ hb1'
  refine zi1 hia.1 (by decide) ?_
  refine zba (fun h0=>?_) (fun h0=>?_)
  ·try simp only [sS]
   refine ldM (v:=kv) ?_ hb1'
   refine ldM (v:=vv) ?_ hb1'
   have hds:=zjt hgd
   have hl4:=hgd.2.1
   refine zvo hd hk hv (by omega) hds ok.kc ok.kl ok.vl (fun f6 F6 N6 hw6 hF6 hN6 hf6=>?_)
   obtain ⟨a6,c6,e6⟩:=hf6.form
   have hfit:=zx0 hgd o.keys o.v
   obtain ⟨q1,_⟩:=zdu hfit
   refine ldM (v:=.int .u32 o.at') ?_ hb1'
   refine zi1 hta.1 (by decide) ?_
   refine yci (by omega) (by omega) ?_
   refine zaa (v:=.agg #[.int .u32 (1+o.at'%40),f6]) (by rw [e6]; kernel_rfl) ?_
   refine zde (cs:=[.int .u32 (1+o.at'%40),f6]) (by rw [e6]; kernel_rfl) (fun b8 hb8=>?_)
   have m5:=za7.lt hw6.m (za5 M b5 (some (.cells 44 [.int .u8 7,.int .u32 o.id,.int .u32 0,.slice none 0 0,.slice none 0 0,.int .u32 0,.slice none 0 0,.int .i64 0,.int .i64 10000,Lv] 10)))
   have m2:=za7.lt hw6.m ((za4 M (some (.cells 44 [.int .u8 7,.int .u32 o.id,.int .u32 0,.slice none 0 0,.slice none 0 0,.int .u32 0,.slice none 0 0,.int .i64 0,.int .i64 10000,Lv] 10)) h25).trans hb2)
   refine stM (cs':=[.int .u8 7,.int .u32 o.id,.int .u32 0,.slice none 0 0,.slice none 0 0,.int .u32 0,.slice none 0 0,.int .i64 0,.int .i64 10000,.slice (some ⟨b8,0,none⟩) 1 1]) ?_ ((za4 _ _ (by omega)).trans (za5 _ _ _)) rfl rfl (List.all_eq_true.1 rfl)
   refine zjh (za5 _ _ _) ((za4 _ _ h25).trans ((za4 _ _ (by omega)).trans ((za4 _ _ h25).trans hb2))) (List.all_eq_true.1 rfl) ?_
   refine fun hc=>?_
   have gg:∀ {A:Nat→Option zak} {c8 c5 c2:Option zak},upd (upd (upd A b8 c8) b5 c5) b2 c2 b8=c8:=(za4 _ _ (by omega)).trans ((za4 _ _ (by omega)).trans (za5 _ _ _))
   have hsb:=zag (N:=N0) hc
   refine ⟨_,zb7 hm0 (fun q hq=>?_) hc,fun hw'=>k [.int .u8 7,.int .u32 o.id,.int .u32 0,.slice none 0 0,.slice none 0 0,.int .u32 0,.slice none 0 0,.int .i64 0,.int .i64 10000,.slice (some ⟨b8,0,none⟩) 1 1] _ _ hw' (hF6.trans hsb) (by omega) ?_⟩
   ·rw [za4 _ _ (by omega),za4 _ _ (by omega),za4 _ _ (by omega),za4 _ _ (by omega),hX q hq]
   ·unfold zg4; rw [if_neg h45,if_neg h6,if_pos h7,if_pos h0]
    exact ⟨_,_,_,_,_,rfl,sF.nil _ _ _,zar.nil,⟨[[.int .u32 (1+o.at'%40),f6]],zhr (zgs (by omega) gg) rfl (by decide),(zad.nil _ _).snoc rfl (by rw [e6]; exact List.all_eq_true.1 rfl) ⟨f6,rfl,hf6.mono hsb,by show (zcj l o.keys o.v).length≤_; omega⟩⟩,rfl,rfl⟩
  ·try simp only [sS]
   refine zjh (za5 _ _ _) ((za4 _ _ h25).trans hb2) (by rw [eL]; exact List.all_eq_true.1 rfl) ?_
   refine fun hc=>fin hc (fun q hq=>?_) (by omega) ?_
   ·rw [za4 _ _ (by omega),za4 _ _ (by omega),hX q hq]
   ·unfold zg4; rw [if_neg h45,if_neg h6,if_pos h7,if_neg h0]; exact ⟨_,_,_,_,_,rfl,sF.nil _ _ _,zar.nil,hL,rfl,rfl⟩
 try simp only [sS]
 refine zba (fun h8=>?_) (fun h8=>?_)
 ·try simp only [sS]
  refine ldM (v:=fv) ?_ hb1
  refine stM (cs':=[.int .u8 1,.int .u32 (o.id%9),.int .u32 0,nv,fv,.int .u32 0,.slice none 0 0,.int .i64 0,.int .i64 0,.slice none 0 0]) ?_ hb5 (by rw [ef]; rfl) (by rw [ef]; rfl) (by rw [ef]; exact List.all_eq_true.1 rfl)
  refine zjh (za5 _ _ _) ((za4 _ _ h25).trans hb2) (by rw [en,ef]; exact List.all_eq_true.1 rfl) ?_
  refine fun hc=>fin hc (fun q hq=>?_) (by omega) ?_
  ·rw [za4 _ _ (by omega),za4 _ _ (by omega),hX q hq]
  ·unfold zg4; rw [if_neg h45,if_neg h6,if_neg h7,if_pos h8]; exact ⟨_,_,_,_,_,rfl,hn,hf,zcb.nil,rfl,rfl⟩
 try simp only [sS]
 refine zba (fun h9=>?_) (fun h9=>?_)
 ·try simp only [sS]
  refine ldM (v:=.int .u32 o.id) ?_ hb1
  refine zaa (v:=.agg #[.int .u8 5,.int .u32 o.id,.int .u32 0,.slice none 0 0,.slice none 0 0,.int .u32 0,.slice none 0 0,.int .i64 0,.int .i64 0,.slice none 0 0]) (by kernel_rfl) ?_
  refine stM (cs':=[.int .u8 5,.int .u32 o.id,.int .u32 0,.slice none 0 0,.slice none 0 0,.int .u32 0,.slice none 0 0,.int .i64 0,.int .i64 0,.slice none 0 0]) ?_ hb5 rfl rfl (List.all_eq_true.1 rfl)
  refine zjh (za5 _ _ _) ((za4 _ _ h25).trans hb2) (List.all_eq_true.1 rfl) ?_
  refine fun hc=>fin hc (fun q hq=>?_) (by omega) ?_
  ·rw [za4 _ _ (by omega),za4 _ _ (by omega),hX q hq]
  ·unfold zg4; rw [if_neg h45,if_neg h6,if_neg h7,if_neg h8,if_pos h9]; exact ⟨_,_,_,_,_,rfl,sF.nil _ _ _,zar.nil,zcb.nil,rfl,rfl⟩
 ·try simp only [sS]
  refine zjh hb5 hb2 (by rw [en,ex]; exact List.all_eq_true.1 rfl) ?_
  refine fun hc=>fin hc (fun q hq=>?_) (by omega) ?_
  ·rw [za4 _ _ (by omega),hX q hq]
  ·unfold zg4; rw [if_neg h45,if_neg h6,if_neg h7,if_neg h8,if_neg h9]; exact ⟨_,_,_,_,_,rfl,hn,hxf,zcb.nil,rfl,rfl⟩
set_option maxRecDepth 10000 in
theorem ykk {dv:Value} {cs:List Value} {l:List Dm} {o:OpP} (hgd:zdb l) (hd:zbl F dv l) (ho:opP F cs o) (k:∀ rs F' N',(Hp.mk F' M N').wf→zac F F'→N≤N'→zhd F' rs (zg4 l o)→K (.agg rs.toArray) ⟨F',M,N'⟩) :
  za2 Tryz.prog (.func (.func 15) #[] #[]) #[dv,.agg cs.toArray] K E ⟨F,M,N⟩:=by
 refine za3 mixed Tryz.func15 (by kernel_rfl) (t15 _ E _ _) (fun hw=>?_)
 have hm:za7 M N:=hw.m
 have hone:=ho.one
 have hds:=zjt hgd
 have hl4:=hgd.2.1
 refine zal (cs:=cs) (fun b1 hb1=>?_) rfl
 obtain ⟨nv,kv,vv,fv,Lv,e,hn,hk,hv,hf,hL,ok⟩:=ho
 subst e
 refine zal (fun b2 hb2=>?_)
 generalize hM2:upd (upd M b1 _) b2 _=M2
 have m1:M2 b1=some (.cells 49 [.int .u8 o.kind,.int .u32 o.id,.int .u32 o.at',nv,kv,vv,fv,Lv] 8):=by rw [← hM2]; exact (za4 _ _ (by omega)).trans (za5 _ _ _)
 have m2:M2 b2=some (.cells 44 [.int .u8 0,.int .u32 0,.int .u32 0,.slice none 0 0,.slice none 0 0,.int .u32 0,.slice none 0 0,.int .i64 0,.int .i64 0,.slice none 0 0] 10):=by rw [← hM2]; exact za5 _ _ _
 have hX:∀ q,q<N→M2 q=M q:=fun q hq=>by rw [← hM2]; exact (za4 _ _ (by omega)).trans (za4 _ _ (by omega))
 clear hM2
 obtain ⟨an,cn,en,_⟩:=hn.form
 try simp only [sS]
 refine ldM (v:=.int .u32 o.id) ?_ m1
 refine zi1 ok.ia.1 (by decide) ?_
 refine ldM (v:=kv) ?_ m1
 refine ldM (v:=vv) ?_ m1
 refine ldM (v:=nv) ?_ m1
 refine (And.intro ?_ ?_:_∧_)
 ·refine zvo hd hk hv (by omega) hds ok.kc ok.kl ok.vl (fun xf F3 N3 hw3 hF3 hN3 hxf=>?_)
  obtain ⟨ax,cx,ex⟩:=hxf.form
  refine ⟨zao (zaq m1) rfl,zao (zaq m1) rfl,?_⟩
  refine zaa (v:=.agg #[.int .u8 1,.int .u32 (o.id%9),.int .u32 0,nv,xf,.int .u32 0,.slice none 0 0,.int .i64 0,.int .i64 0,.slice none 0 0]) (by rw [en,ex]; kernel_rfl) ?_
  refine zal (fun b5 hb5=>?_)
  have m1':upd M2 b5 (some (.cells 44 [.int .u8 0,.int .u32 0,.int .u32 0,.slice none 0 0,.slice none 0 0,.int .u32 0,.slice none 0 0,.int .i64 0,.int .i64 0,.slice none 0 0] 10)) b1=_:=(za4 _ _ (by omega)).trans m1
  refine ⟨zao (zaq m1') rfl,zao (zaq m1') rfl,?_⟩
  refine stM (cs':=[.int .u8 1,.int .u32 (o.id%9),.int .u32 0,nv,xf,.int .u32 0,.slice none 0 0,.int .i64 0,.int .i64 0,.slice none 0 0]) ?_ (za5 _ _ _) rfl rfl (by rw [en,ex]; exact List.all_eq_true.1 rfl)
  rw [zbe]
  refine ldM (v:=.int .u8 o.kind) ?_ ((za4 _ _ (by omega)).trans m1)
  refine zi1 ok.kd.1 (by decide) ?_
  refine zba (fun h4=>?_) (fun h4=>?_)
  ·try simp only [sS]
   exact zjd (K:=K) (E:=E) (b1:=b1) (b2:=b2) (b5:=b5) (N0:=N) (M0:=M) (M:=upd M2 b5 (some (.cells 44 [.int .u8 1,.int .u32 (o.id%9),.int .u32 0,nv,xf,.int .u32 0,.slice none 0 0,.int .i64 0,.int .i64 0,.slice none 0 0] 10))) (N:=b5+1) (F:=F3) (o:=o) (xf:=xf) ((za4 _ _ (by omega)).trans m1) ((za4 _ _ (by omega)).trans m2) (za5 _ _ _) (by omega) (by omega) (by omega) (by omega) (by omega) hm (fun q hq=>(za4 _ _ (by omega)).trans (hX q hq)) (by omega) hgd (hd.mono hF3) (hn.mono hF3) (hk.mono hF3) (hv.mono hF3) (hf.mono hF3) (hL.mono hF3) ok hxf (by rw [decide_eq_true (.inl h4)]) (fun rs F' N' hw' hF' hN' hr=>k rs F' N' hw' (hF3.trans hF') hN' hr)
  ·try simp only [sS]
   refine zba (fun h5=>?_) (fun h5=>?_)
   ·exact zjd (K:=K) (E:=E) (b1:=b1) (b2:=b2) (b5:=b5) (N0:=N) (M0:=M) (M:=upd M2 b5 (some (.cells 44 [.int .u8 1,.int .u32 (o.id%9),.int .u32 0,nv,xf,.int .u32 0,.slice none 0 0,.int .i64 0,.int .i64 0,.slice none 0 0] 10))) (N:=b5+1) (F:=F3) (o:=o) (xf:=xf) ((za4 _ _ (by omega)).trans m1) ((za4 _ _ (by omega)).trans m2) (za5 _ _ _) (by omega) (by omega) (by omega) (by omega) (by omega) hm (fun q hq=>(za4 _ _ (by omega)).trans (hX q hq)) (by omega) hgd (hd.mono hF3) (hn.mono hF3) (hk.mono hF3) (hv.mono hF3) (hf.mono hF3) (hL.mono hF3) ok hxf (by rw [decide_eq_true (.inr h5)]) (fun rs F' N' hw' hF' hN' hr=>k rs F' N' hw' (hF3.trans hF') hN' hr)
   ·exact zjd (K:=K) (E:=E) (b1:=b1) (b2:=b2) (b5:=b5) (N0:=N) (M0:=M) (M:=upd M2 b5 (some (.cells 44 [.int .u8 1,.int .u32 (o.id%9),.int .u32 0,nv,xf,.int .u32 0,.slice none 0 0,.int .i64 0,.int .i64 0,.slice none 0 0] 10))) (N:=b5+1) (F:=F3) (o:=o) (xf:=xf) ((za4 _ _ (by omega)).trans m1) ((za4 _ _ (by omega)).trans m2) (za5 _ _ _) (by omega) (by omega) (by omega) (by omega) (by omega) hm (fun q hq=>(za4 _ _ (by omega)).trans (hX q hq)) (by omega) hgd (hd.mono hF3) (hn.mono hF3) (hk.mono hF3) (hv.mono hF3) (hf.mono hF3) (hL.mono hF3) ok hxf (by rw [decide_eq_false (by rintro (q | q); exact h4 q; exact h5 q)]) (fun rs F' N' hw' hF' hN' hr=>k rs F' N' hw' (hF3.trans hF') hN' hr)
 ·refine zal (fun b5 hb5=>?_)
  have m1':upd M2 b5 (some (.cells 44 [.int .u8 0,.int .u32 0,.int .u32 0,.slice none 0 0,.slice none 0 0,.int .u32 0,.slice none 0 0,.int .i64 0,.int .i64 0,.slice none 0 0] 10)) b1=_:=(za4 _ _ (by omega)).trans m1
  refine ⟨zao (zaq m1') rfl,zao (zaq m1') rfl,zao (zaq m1') rfl,zao (zaq m1') rfl,?_⟩
  refine zvo hd hk hv (by omega) hds ok.kc ok.kl ok.vl (fun xf F3 N3 hw3 hF3 hN3 hxf=>?_)
  obtain ⟨ax,cx,ex⟩:=hxf.form
  refine ⟨zao (zaq m1') rfl,zao (zaq m1') rfl,?_⟩
  refine zaa (v:=.agg #[.int .u8 1,.int .u32 (o.id%9),.int .u32 0,nv,xf,.int .u32 0,.slice none 0 0,.int .i64 0,.int .i64 0,.slice none 0 0]) (by rw [en,ex]; kernel_rfl) ?_
  refine stM (cs':=[.int .u8 1,.int .u32 (o.id%9),.int .u32 0,nv,xf,.int .u32 0,.slice none 0 0,.int .i64 0,.int .i64 0,.slice none 0 0]) ?_ (za5 _ _ _) rfl rfl (by rw [en,ex]; exact List.all_eq_true.1 rfl)
  rw [zbe]
  refine ldM (v:=.int .u8 o.kind) ?_ ((za4 _ _ (by omega)).trans m1)
  refine zi1 ok.kd.1 (by decide) ?_
  refine zba (fun h4=>?_) (fun h4=>?_)
  ·try simp only [sS]
   exact zjd (K:=K) (E:=E) (b1:=b1) (b2:=b2) (b5:=b5) (N0:=N) (M0:=M) (M:=upd M2 b5 (some (.cells 44 [.int .u8 1,.int .u32 (o.id%9),.int .u32 0,nv,xf,.int .u32 0,.slice none 0 0,.int .i64 0,.int .i64 0,.slice none 0 0] 10))) (N:=N3) (F:=F3) (o:=o) (xf:=xf) ((za4 _ _ (by omega)).trans m1) ((za4 _ _ (by omega)).trans m2) (za5 _ _ _) (by omega) (by omega) (by omega) (by omega) (by omega) hm (fun q hq=>(za4 _ _ (by omega)).trans (hX q hq)) (by omega) hgd (hd.mono hF3) (hn.mono hF3) (hk.mono hF3) (hv.mono hF3) (hf.mono hF3) (hL.mono hF3) ok hxf (by rw [decide_eq_true (.inl h4)]) (fun rs F' N' hw' hF' hN' hr=>k rs F' N' hw' (hF3.trans hF') hN' hr)
  ·try simp only [sS]
   refine zba (fun h5=>?_) (fun h5=>?_)
   ·exact zjd (K:=K) (E:=E) (b1:=b1) (b2:=b2) (b5:=b5) (N0:=N) (M0:=M) (M:=upd M2 b5 (some (.cells 44 [.int .u8 1,.int .u32 (o.id%9),.int .u32 0,nv,xf,.int .u32 0,.slice none 0 0,.int .i64 0,.int .i64 0,.slice none 0 0] 10))) (N:=N3) (F:=F3) (o:=o) (xf:=xf) ((za4 _ _ (by omega)).trans m1) ((za4 _ _ (by omega)).trans m2) (za5 _ _ _) (by omega) (by omega) (by omega) (by omega) (by omega) hm (fun q hq=>(za4 _ _ (by omega)).trans (hX q hq)) (by omega) hgd (hd.mono hF3) (hn.mono hF3) (hk.mono hF3) (hv.mono hF3) (hf.mono hF3) (hL.mono hF3) ok hxf (by rw [decide_eq_true (.inr h5)]) (fun rs F' N' hw' hF' hN' hr=>k rs F' N' hw' (hF3.trans hF') hN' hr)
   ·exact zjd (K:=K) (E:=E) (b1:=b1) (b2:=b2) (b5:=b5) (N0:=N) (M0:=M) (M:=upd M2 b5 (some (.cells 44 [.int .u8 1,.int .u32 (o.id%9),.int .u32 0,nv,xf,.int .u32 0,.slice none 0 0,.int .i64 0,.int .i64 0,.slice none 0 0] 10))) (N:=N3) (F:=F3) (o:=o) (xf:=xf) ((za4 _ _ (by omega)).trans m1) ((za4 _ _ (by omega)).trans m2) (za5 _ _ _) (by omega) (by omega) (by omega) (by omega) (by omega) hm (fun q hq=>(za4 _ _ (by omega)).trans (hX q hq)) (by omega) hgd (hd.mono hF3) (hn.mono hF3) (hk.mono hF3) (hv.mono hF3) (hf.mono hF3) (hL.mono hF3) ok hxf (by rw [decide_eq_false (by rintro (q | q); exact h4 q; exact h5 q)]) (fun rs F' N' hw' hF' hN' hr=>k rs F' N' hw' (hF3.trans hF') hN' hr)
end Go.Proofs.YtgcmbkoejjcjlaaGreatDoor.A
open Go Go.RowKit Go.Proofs.YtgcmbkoejjcjlaaGreatDoor.K
set_option linter.unusedVariables false
set_option maxRecDepth 100000
namespace Go.Proofs.YtgcmbkoejjcjlaaGreatDoor.T
section
variable (K:zae) (E:zat) (k1 k2 k3 k4 k5:Env→Hp→Prop) (x0 x1 x2 x3 x4 x5 x6 x7 x8 x9 x10 x11 x12 x13 x14 x15 x16 x17 x18 x19 x20 x21 x22 x23 x24 x25 x26 x27 x28 x29 x30 x31 x32 x33 x34 x35 x36 x37 x38 x39 x40 x41 x42 x43 x44 x45 x46 x47 x48 x49 x50 x51 x52 x53 x54 x55 x56 x57 x58 x59 x60 x61 x62 x63 x64 x65 x66 x67 x68 x69 x70 x71 x72 x73 x74 x75 x76 x77 x78 v0 v1 v2 v3 v4 v5 v6 v7 v8 v9 v10 v11 v12 v13 v14 v15 v16 v17 v18 v19 v20 v21 v22 v23 v24 v25 v26 v27 v28 v29 v30 v31 v32 v33 v34 v35 v36 v37 v38 v39 v40 v41 v42 v43 v44 v45 v46 v47 v48 v49 v50 v51 v52 v53 v54 v55 v56 v57 v58 v59 v60 v61 v62 v63 v64 v65 v66 v67 v68 v69 v70 v71 v72 v73 v74 v75 v76 v77 v78:Value) (j:Nat→Value)
abbrev q3:QD:=zab Tryz.prog Tryz.f3.results.toList K E
abbrev d3 (p:List Nat):QD→Env→Hp→Prop:=den Tryz.prog (sel (za8 Tryz.f3) p)
end
section
variable {K:zae} {E:zat} {k1 k2 k3 k4 k5:Env→Hp→Prop} {σ:Type} {x0 x1 x2 x3 x4 x5 x6 x7 x8 x9 x10 x11 x12 x13 x14 x15 x16 x17 x18 x19 x20 x21 x22 x23 x24 x25 x26 x27 x28 x29 x30 x31 x32 x33 x34 x35 x36 x37 x38 x39 x40 x41 x42 x43 x44 x45 x46 x47 x48 x49 x50 x51 x52 x53 x54 x55 x56 x57 x58 x59 x60 x61 x62 x63 x64 x65 x66 x67 x68 x69 x70 x71 x72 x73 x74 x75 x76 x77 x78 v0 v1 v2 v3 v4 v5 v6 v7 v8 v9 v10 v11 v12 v13 v14 v15 v16 v17 v18 v19 v20 v21 v22 v23 v24 v25 v26 v27 v28 v29 v30 v31 v32 v33 v34 v35 v36 v37 v38 v39 v40 v41 v42 v43 v44 v45 v46 v47 v48 v49 v50 v51 v52 v53 v54 v55 v56 v57 v58 v59 v60 v61 v62 v63 v64 v65 v66 v67 v68 v69 v70 v71 v72 v73 v74 v75 v76 v77 v78:Value} {h:Hp} {j:Nat→Value}
end
end Go.Proofs.YtgcmbkoejjcjlaaGreatDoor.T
open Go Go.RowKit Go.Proofs.YtgcmbkoejjcjlaaGreatDoor.K Go.Proofs.YtgcmbkoejjcjlaaGreatDoor.T
set_option linter.unusedVariables false
set_option linter.unusedSimpArgs false
namespace Go.Proofs.YtgcmbkoejjcjlaaGreatDoor.A
variable {F F':Nat→Option (List Value)} {M M':Nat→Option zak} {N N':Nat} {K:zae} {E:zat}
structure okP (l:List Dm) (D:List Int) (h:List En) (bs:Bts):Prop where
 oh:okH l 5000 200 h
 nd:(bs.map (·.1)).Nodup
 kr:∀ x∈bs,x.1∈D
 fl:∀ id,(zaw bs id).fs.length≤200
 nl:∀ id,(zaw bs id).ns.length≤17592186043904
theorem okP.nil (l:List Dm) (D:List Int):okP l D [] []:=⟨okH.nil _ _ _,List.nodup_nil,by simp,by simp [zaw,Bt.no],by simp [zaw,Bt.no]⟩
theorem okP.len {l:List Dm} {D:List Int} {h:List En} {bs:Bts} (o:okP l D h bs):bs.length≤D.length:=by
 have := zko (b:=D) o.nd (fun x hx=>by obtain ⟨y,hy,e⟩:=List.mem_map.1 hx; rw [← e]; exact o.kr y hy)
 rwa [List.length_map] at this
theorem okP.set {l:List Dm} {D:List Int} {h:List En} {bs:Bts} (o:okP l D h bs) {id:Int} {b:Bt} (hd:id∈D) (h1:b.fs.length≤200) (h2:b.ns.length≤17592186043904):okP l D h (zdw bs id b):=by
 refine ⟨o.oh,zj2 o.nd,fun x hx=>?_,fun i=>?_,fun i=>?_⟩
 ·rcases zn9 hx with rfl | ⟨h,_⟩
  ·exact hd
  ·exact o.kr x h
 ·rw [zsd o.nd]; split
  ·exact h1
  ·exact o.fl i
 ·rw [zsd o.nd]; split
  ·exact h2
  ·exact o.nl i
def inD (D:List Int) (r:zcw):Prop:=r.kind=1∨r.kind=2∨r.kind=3→r.id∈D
theorem okP.ap {l:List Dm} {D:List Int} {h:List En} {bs:Bts} (o:okP l D h bs) {r:zcw} (ok:r.ok) (hD:inD D r) (tk:Int):okP l D (apH l h bs tk r) (apS l h bs r):=by
 have hh:okH l 5000 200 (apH l h bs tk r):=by
  unfold apH cmH tkH
  split
  ·split
   ·exact o.oh.add ok.t0 _
   ·exact o.oh
  ·split
   ·split
    ·exact o.oh
    ·exact o.oh.repl _ _ _
   ·exact o.oh
 have hs:okP l D h (apS l h bs r):=by
  unfold apS ppS cmS abS
  split
  ·rename_i hk
   split
   ·rename_i he
    refine o.set (hD (.inl hk)) ?_ ok.nl
    unfold ppE at he
    split at he
    ·omega
    ·split at he
     ·omega
     ·rename_i hf
      exact (zdu (by simpa using hf)).1
   ·exact o
  ·split
   ·rename_i hk
    split
    ·exact o.set (hD (.inr (.inl hk))) (by simp) (by simp)
    ·exact o
   ·split
    ·rename_i hk
     split
     ·exact o
     ·exact o.set (hD (.inr (.inr hk))) (by simp) (by simp)
    ·exact o
 exact ⟨hh,hs.nd,hs.kr,hs.fl,hs.nl⟩
def D9:List Int:=[0,1,2,3,4,5,6,7,8]
theorem yma {x:Int} (h0:0≤x) (h1:x<9):x∈D9:=by
 unfold D9
 simp only [List.mem_cons,List.not_mem_nil,or_false]
 omega
theorem yhv {l:List Dm} (hgd:zdb l) {o:OpP} (ok:o.ok):(zg4 l o).ok∧inD D9 (zg4 l o):=by
 have hia:=ok.ia
 have hta:=ok.ta
 have i9:o.id%9∈D9:=yma (by omega) (by omega)
 have i0:0≤o.id%9∧o.id%9<4294967296:=by omega
 have t0:0≤o.at'%40:=by omega
 have ff:=(zdu (zx0 hgd o.keys o.v)).1
 unfold zg4
 split
 ·exact ⟨⟨i0,t0,by simp,by simp,by simp,by simp⟩,fun _=>i9⟩
 ·split
  ·exact ⟨⟨i0,by simp,by simp,by simp,by simp,by simp⟩,fun _=>i9⟩
  ·split
   ·refine ⟨⟨hia,by simp,by simp,by simp,?_,?_⟩,fun h=>by simp at h⟩
    ·show List.length (if o.id%2=0 then [(1+o.at'%40,zcj l o.keys o.v)] else o.L)≤_
     split
     ·simp
     ·exact ok.ll
    ·show∀e∈(if o.id%2=0 then [(1+o.at'%40,zcj l o.keys o.v)] else o.L),e.1<4294967296
     split
     ·intro e he; rw [List.mem_singleton.1 he]; show 1+o.at'%40<_; omega
     ·exact fun e he=>(ok.lt e he).2
   ·split
    ·exact ⟨⟨i0,by simp,ok.nl,ok.fl,by simp,by simp⟩,fun _=>i9⟩
    ·split
     ·exact ⟨⟨hia,by simp,by simp,by simp,by simp,by simp⟩,fun h=>by simp at h⟩
     ·exact ⟨⟨i0,by simp,ok.nl,by show (zcj l o.keys o.v).length≤_; omega,by simp,by simp⟩,fun _=>i9⟩
def WC (f:Nat→Int×Int):List Value:=[.int .u8 (f 0).1,.int .u32 (f 0).2,.int .u8 (f 1).1,.int .u32 (f 1).2,.int .u8 (f 2).1,.int .u32 (f 2).2,.int .u8 (f 3).1,.int .u32 (f 3).2,.int .u8 (f 4).1,.int .u32 (f 4).2,.int .u8 (f 5).1,.int .u32 (f 5).2,.int .u8 (f 6).1,.int .u32 (f 6).2,.int .u8 (f 7).1,.int .u32 (f 7).2,.int .u8 (f 8).1,.int .u32 (f 8).2]
def stB (bs:Bts) (i:Nat):Int×Int:=((zaw bs i).st,(zaw bs i).tm)
theorem yjb {a b:Int}:ze0 .neq [0,0] (.agg #[.int .u8 a,.int .u32 b]) (.agg #[.int .u8 a,.int .u32 b])=some (.bool false):=by simp [ze0,zht,zl7]
end Go.Proofs.YtgcmbkoejjcjlaaGreatDoor.A
open Go Go.RowKit Go.Proofs.YtgcmbkoejjcjlaaGreatDoor.K
set_option linter.unusedVariables false
set_option maxRecDepth 100000
namespace Go.Proofs.YtgcmbkoejjcjlaaGreatDoor.T
section
variable (K:zae) (E:zat) (k1 k2 k3 k4 k5:Env→Hp→Prop) (x0 x1 x2 x3 x4 x5 x6 x7 x8 x9 x10 x11 x12 x13 x14 x15 x16 x17 x18 x19 x20 x21 x22 x23 x24 x25 x26 x27 x28 x29 x30 x31 x32 x33 x34 x35 x36 x37 x38 x39 x40 x41 x42 x43 x44 x45 x46 x47 x48 x49 x50 x51 x52 x53 x54 x55 x56 x57 x58 x59 x60 x61 x62 x63 x64 x65 x66 x67 x68 x69 x70 x71 x72 x73 x74 x75 x76 x77 x78 x79 x80 x81 x82 x83 x84 x85 x86 x87 x88 x89 x90 x91 x92 x93 x94 x95 x96 x97 x98 x99 x100 v0 v1 v2 v3 v4 v5 v6 v7 v8 v9 v10 v11 v12 v13 v14 v15 v16 v17 v18 v19 v20 v21 v22 v23 v24 v25 v26 v27 v28 v29 v30 v31 v32 v33 v34 v35 v36 v37 v38 v39 v40 v41 v42 v43 v44 v45 v46 v47 v48 v49 v50 v51 v52 v53 v54 v55 v56 v57 v58 v59 v60 v61 v62 v63 v64 v65 v66 v67 v68 v69 v70 v71 v72 v73 v74 v75 v76 v77 v78 v79 v80 v81 v82 v83 v84 v85 v86 v87 v88 v89 v90 v91 v92 v93 v94 v95 v96 v97 v98 v99 v100:Value) (j:Nat→Value)
abbrev q4:QD:=zab Tryz.prog Tryz.f4.results.toList K E
abbrev d4 (p:List Nat):QD→Env→Hp→Prop:=den Tryz.prog (sel (za8 Tryz.f4) p)
end
section
variable {K:zae} {E:zat} {k1 k2 k3 k4 k5:Env→Hp→Prop} {σ:Type} {x0 x1 x2 x3 x4 x5 x6 x7 x8 x9 x10 x11 x12 x13 x14 x15 x16 x17 x18 x19 x20 x21 x22 x23 x24 x25 x26 x27 x28 x29 x30 x31 x32 x33 x34 x35 x36 x37 x38 x39 x40 x41 x42 x43 x44 x45 x46 x47 x48 x49 x50 x51 x52 x53 x54 x55 x56 x57 x58 x59 x60 x61 x62 x63 x64 x65 x66 x67 x68 x69 x70 x71 x72 x73 x74 x75 x76 x77 x78 x79 x80 x81 x82 x83 x84 x85 x86 x87 x88 x89 x90 x91 x92 x93 x94 x95 x96 x97 x98 x99 x100 v0 v1 v2 v3 v4 v5 v6 v7 v8 v9 v10 v11 v12 v13 v14 v15 v16 v17 v18 v19 v20 v21 v22 v23 v24 v25 v26 v27 v28 v29 v30 v31 v32 v33 v34 v35 v36 v37 v38 v39 v40 v41 v42 v43 v44 v45 v46 v47 v48 v49 v50 v51 v52 v53 v54 v55 v56 v57 v58 v59 v60 v61 v62 v63 v64 v65 v66 v67 v68 v69 v70 v71 v72 v73 v74 v75 v76 v77 v78 v79 v80 v81 v82 v83 v84 v85 v86 v87 v88 v89 v90 v91 v92 v93 v94 v95 v96 v97 v98 v99 v100:Value} {h:Hp} {j:Nat→Value}
end
end Go.Proofs.YtgcmbkoejjcjlaaGreatDoor.T
open Go Go.RowKit Go.Proofs.YtgcmbkoejjcjlaaGreatDoor.K Go.Proofs.YtgcmbkoejjcjlaaGreatDoor.T
set_option linter.unusedVariables false
set_option linter.unusedSimpArgs false
namespace Go.Proofs.YtgcmbkoejjcjlaaGreatDoor.A
variable {F F':Nat→Option (List Value)} {M M':Nat→Option zak} {N N':Nat} {K:zae} {E:zat}
theorem zsy:∀ (l t:List Rw) (r:Rw),r∈l.foldl (fun t r=>layR t r.1 r.2) t→(∃ x∈l,x.1=r.1)∨r∈t
 | [],t,r,h=>.inr h
 | x::l,t,r,h=>by
  rcases zsy l _ r h with ⟨y,hy,e⟩ | h
  ·exact .inl ⟨y,List.mem_cons_of_mem _ hy,e⟩
  ·rcases zpd t x.1 x.2 r h with h | h
   ·exact .inl ⟨x,List.mem_cons_self,h.symm⟩
   ·exact .inr h
theorem yee (l:List Rw) (r:Rw) (h:r∈tab l):∃ x∈l,x.1=r.1:=(zsy l [] r h).elim id (fun h=>by cases h)
theorem okH.totalP {l:List Dm} {n m:Nat} {h:List En} (o:okH l n m h):((h.map (·.2)).flatten).length≤n*m:=by
 have key:∀ (h:List En),(∀ e∈h,e.2.length≤m)→((h.map (·.2)).flatten).length≤h.length*m:=by
  intro h
  induction h with
  | nil=>intro _; simp
  | cons e h ih=>
   intro hp
   have h1:=ih fun x hx=>hp x (List.mem_cons_of_mem _ hx)
   have h2:=hp e List.mem_cons_self
   rw [List.map_cons,List.flatten_cons,List.length_append,List.length_cons,Nat.succ_mul]; omega
 exact Nat.le_trans (key h o.fl) (Nat.mul_le_mul_right _ o.le)
theorem ygz {l:List Dm} (hl:zdb l) {k:List Int} (h:inF l k=true):A.okK k:=by
 have hlen:=zge h
 unfold inF at h
 rw [Bool.and_eq_true,List.all_eq_true] at h
 have h4:=hl.2.1
 refine ⟨by omega,fun x hx=>?_⟩
 obtain ⟨i,hi,rfl⟩:=List.mem_iff_getElem.1 hx
 have hi':i<l.length:=by omega
 have := h.2 i (List.mem_range.2 hi')
 unfold inP at this
 rw [zb0 hi,zb0 hi'] at this
 have h1:=of_decide_eq_true this
 have h2:=hl.2.2 _ (List.getElem_mem hi')
 unfold i64
 omega
theorem okH.okKP {l:List Dm} (hl:zdb l) {n m:Nat} {h:List En} (o:okH l n m h):∀ e∈h,∀ f∈e.2,A.okK f.1:=fun e he f hf=>ygz hl (o.fi e he f hf)
theorem okH.tabP {l:List Dm} (hl:zdb l) {n m:Nat} {h:List En} (o:okH l n m h) (t:Int):∀ r∈A.tab ((ze3 h (zca h t)).map fr1),A.okK r.1:=fun r hr=>by
 obtain ⟨x,hx,e⟩:=yee _ r hr
 obtain ⟨f,hf,rfl⟩:=List.mem_map.1 hx
 rw [zlm o.rs] at hf
 obtain ⟨d,hd,hfd⟩:=zxv hf
 rw [← e]; exact o.okKP hl d hd f hfd
theorem yie (l:List Dm) (t:List Rw) (m lo hi:List Int):ze9 l t m lo hi≤61:=by
 have:zdg l m lo hi≤60:=by unfold zdg; split; omega; split; omega; split<;>omega
 unfold ze9; split; split; omega; split<;>omega; omega
theorem yfq.box {cs:List Value} {m lo hi:List Int} (h:zfa F cs m lo hi):cs.length=3∧∀ c∈cs,c.oneCell'=true:=by
 obtain ⟨a,b,c,rfl,h1,h2,h3,_⟩:=h
 obtain ⟨a1,c1,rfl,_⟩:=h1.form
 obtain ⟨a2,c2,rfl,_⟩:=h2.form
 obtain ⟨a3,c3,rfl,_⟩:=h3.form
 exact ⟨rfl,List.all_eq_true.1 rfl⟩
theorem yfc {bs:Bts} {ws ws':List Int} (h:zju bs ws) (h':zju bs ws'):ws=ws':=zx1 h.1 h'.1 fun x=>by rw [h.2,h'.2]
end Go.Proofs.YtgcmbkoejjcjlaaGreatDoor.A
open Go Go.RowKit Go.Proofs.YtgcmbkoejjcjlaaGreatDoor.K
set_option linter.unusedVariables false
set_option maxRecDepth 100000
namespace Go.Proofs.YtgcmbkoejjcjlaaGreatDoor.T
section
variable (K:zae) (E:zat) (k1 k2 k3 k4 k5:Env→Hp→Prop) (x0 x1 x2 x3 x4 x5 x6 x7 x8 x9 x10 x11 x12 x13 x14 x15 x16 x17 x18 x19 x20 x21 x22 x23 x24 x25 x26 x27 x28 x29 x30 x31 x32 x33 x34 x35 x36 x37 x38 x39 x40 x41 x42 x43 x44 x45 x46 x47 x48 x49 x50 x51 x52 x53 x54 x55 x56 x57 x58 x59 x60 x61 x62 x63 x64 x65 x66 x67 x68 x69 x70 x71 x72 x73 x74 x75 x76 x77 x78 x79 x80 x81 x82 x83 x84 x85 x86 x87 x88 x89 x90 x91 x92 x93 x94 x95 x96 x97 x98 x99 x100 x101 x102 x103 x104 x105 x106 x107 x108 x109 x110 x111 x112 x113 x114 x115 x116 x117 x118 x119 x120 x121 x122 x123 v0 v1 v2 v3 v4 v5 v6 v7 v8 v9 v10 v11 v12 v13 v14 v15 v16 v17 v18 v19 v20 v21 v22 v23 v24 v25 v26 v27 v28 v29 v30 v31 v32 v33 v34 v35 v36 v37 v38 v39 v40 v41 v42 v43 v44 v45 v46 v47 v48 v49 v50 v51 v52 v53 v54 v55 v56 v57 v58 v59 v60 v61 v62 v63 v64 v65 v66 v67 v68 v69 v70 v71 v72 v73 v74 v75 v76 v77 v78 v79 v80 v81 v82 v83 v84 v85 v86 v87 v88 v89 v90 v91 v92 v93 v94 v95 v96 v97 v98 v99 v100 v101 v102 v103 v104 v105 v106 v107 v108 v109 v110 v111 v112 v113 v114 v115 v116 v117 v118 v119 v120 v121 v122 v123:Value) (j:Nat→Value)
abbrev q5:QD:=zab Tryz.prog Tryz.f5.results.toList K E
abbrev d5 (p:List Nat):QD→Env→Hp→Prop:=den Tryz.prog (sel (za8 Tryz.f5) p)
end
section
variable {K:zae} {E:zat} {k1 k2 k3 k4 k5:Env→Hp→Prop} {σ:Type} {x0 x1 x2 x3 x4 x5 x6 x7 x8 x9 x10 x11 x12 x13 x14 x15 x16 x17 x18 x19 x20 x21 x22 x23 x24 x25 x26 x27 x28 x29 x30 x31 x32 x33 x34 x35 x36 x37 x38 x39 x40 x41 x42 x43 x44 x45 x46 x47 x48 x49 x50 x51 x52 x53 x54 x55 x56 x57 x58 x59 x60 x61 x62 x63 x64 x65 x66 x67 x68 x69 x70 x71 x72 x73 x74 x75 x76 x77 x78 x79 x80 x81 x82 x83 x84 x85 x86 x87 x88 x89 x90 x91 x92 x93 x94 x95 x96 x97 x98 x99 x100 x101 x102 x103 x104 x105 x106 x107 x108 x109 x110 x111 x112 x113 x114 x115 x116 x117 x118 x119 x120 x121 x122 x123 v0 v1 v2 v3 v4 v5 v6 v7 v8 v9 v10 v11 v12 v13 v14 v15 v16 v17 v18 v19 v20 v21 v22 v23 v24 v25 v26 v27 v28 v29 v30 v31 v32 v33 v34 v35 v36 v37 v38 v39 v40 v41 v42 v43 v44 v45 v46 v47 v48 v49 v50 v51 v52 v53 v54 v55 v56 v57 v58 v59 v60 v61 v62 v63 v64 v65 v66 v67 v68 v69 v70 v71 v72 v73 v74 v75 v76 v77 v78 v79 v80 v81 v82 v83 v84 v85 v86 v87 v88 v89 v90 v91 v92 v93 v94 v95 v96 v97 v98 v99 v100 v101 v102 v103 v104 v105 v106 v107 v108 v109 v110 v111 v112 v113 v114 v115 v116 v117 v118 v119 v120 v121 v122 v123:Value} {h:Hp} {j:Nat→Value}
end
end Go.Proofs.YtgcmbkoejjcjlaaGreatDoor.T
open Go Go.RowKit Go.Proofs.YtgcmbkoejjcjlaaGreatDoor.K Go.Proofs.YtgcmbkoejjcjlaaGreatDoor.T
set_option linter.unusedVariables false
set_option linter.unusedSimpArgs false
namespace Go.Proofs.YtgcmbkoejjcjlaaGreatDoor.A
variable {F F':Nat→Option (List Value)} {M M':Nat→Option zak} {N N':Nat} {K:zae} {E:zat}
noncomputable def zje (l:List Dm) (h:List En) (bs:Bts) (t:Int) (m lo hi:List Int):List Rw×Nat:=open Classical in if zju bs [] then (zft l (tab ((ze3 h (zca h t)).map fr1)) m lo hi,ze9 l (tab ((ze3 h (zca h t)).map fr1)) m lo hi) else ([],141)
theorem yaz {l:List Dm} {h:List En} {bs:Bts} {t:Int} {m lo hi ws:List Int} (hw:zju bs ws) (h0:0<ws.length):zje l h bs t m lo hi=([],141):=if_neg fun h=>by rw [yfc hw h] at h0; simp at h0
theorem yn7 {l:List Dm} {h:List En} {bs:Bts} {t:Int} {m lo hi:List Int}:(zje l h bs t m lo hi).2≤141:=by
 unfold zje; split
 ·exact Nat.le_trans (yie _ _ _ _ _) (by decide)
 ·exact Nat.le_refl _
theorem yhg {l:List Dm} (hgd:zdb l) {h:List En} (o:okH l 5000 200 h) {bs:Bts} {t:Int} {m lo hi:List Int}:(zje l h bs t m lo hi).1.length≤140737488351232:=by
 unfold zje; split
 ·have h1:=yh5 (l:=l) (t:=tab ((ze3 h (zca h t)).map fr1)) (m:=m) (lo:=lo) (hi:=hi)
  have h2:=zkk ((ze3 h (zca h t)).map fr1)
  have h3:=o.totalP
  rw [List.length_map] at h2
  have h4:(ze3 h (zca h t)).length≤((h.map (·.2)).flatten).length:=by
   rw [zlm o.rs]
   exact Nat.le_trans (zrp h t h.length |> fun q=>by rw [List.take_length] at q; exact q) (Nat.le_refl _)
  show (zft l (tab ((ze3 h (zca h t)).map fr1)) m lo hi).length≤_
  omega
 ·simp
section
variable {B p g mb:Nat} {hv dv:Value} {rows:List (List Value)} {l:List Dm} {h:List En} {bs:Bts} {tk:Int}
theorem ypv {D:List Int} {cs:List Value} {t:Int} {m lo hi:List Int} (hE:E [] zh4) (P:zbi F M B p g mb hv dv rows l h bs tk) (o:okP l D h bs) (hD:D.length≤12) (hgd:zdb l) (hq:zfa F cs m lo hi) (hmi:∀ x∈m,i64 x)
  (k:∀ v' F' N',(Hp.mk F' M N').wf→zac F F'→N≤N'→zbt F' v' (zje l h bs t m lo hi).1→K (.tuple #[v',.int .u16 (((zje l h bs t m lo hi).2:Nat):Int)]) ⟨F',M,N'⟩) :
  za2 Tryz.prog (.func (.func 19) #[] #[]) #[.pointer (some ⟨p,0,none⟩),.agg cs.toArray,.int .u32 t] K E ⟨F,M,N⟩:=by
 have hl4:=hgd.2.1
 refine zsc hE P (Nat.le_trans o.len hD) (by omega) o.oh.le o.oh.totalP (o.oh.okKP hgd) hq hmi (o.oh.tabP hgd t) (fun ws F10 N10 h0 hws hw10 hF10 hN10=>?_) (fun hws u10 F10 N10 hw10 hF10 hN10 ht10=>?_)
 ·have := k (.slice none 0 0) F10 N10 hw10 hF10 hN10 (by rw [yaz hws h0]; exact zbt.nil)
  rw [yaz hws h0] at this; exact this
 ·have e:zje l h bs t m lo hi=(zft l (tab ((ze3 h (zca h t)).map fr1)) m lo hi,ze9 l (tab ((ze3 h (zca h t)).map fr1)) m lo hi):=if_pos hws
  rw [e] at k
  exact k u10 F10 N10 hw10 hF10 hN10 ht10
end
def D10:List Int:=D9++[77]
end Go.Proofs.YtgcmbkoejjcjlaaGreatDoor.A
open Go Go.RowKit Go.Proofs.YtgcmbkoejjcjlaaGreatDoor.K
set_option linter.unusedVariables false
set_option maxRecDepth 100000
namespace Go.Proofs.YtgcmbkoejjcjlaaGreatDoor.T
section
variable (K:zae) (E:zat) (k1 k2 k3 k4 k5:Env→Hp→Prop) (x0 x1 x2 x3 x4 x5 x6 x7 x8 x9 x10 x11 x12 x13 x14 x15 x16 x17 x18 x19 x20 x21 x22 x23 x24 x25 x26 x27 x28 x29 x30 x31 x32 x33 x34 x35 x36 x37 x38 x39 x40 x41 x42 x43 x44 x45 x46 x47 x48 x49 x50 x51 x52 x53 x54 x55 x56 x57 x58 x59 x60 x61 x62 x63 x64 x65 x66 x67 x68 x69 x70 x71 x72 x73 x74 x75 x76 x77 x78 x79 x80 x81 x82 x83 x84 x85 x86 x87 x88 x89 x90 x91 x92 x93 x94 x95 x96 x97 x98 x99 x100 x101 x102 x103 x104 x105 x106 v0 v1 v2 v3 v4 v5 v6 v7 v8 v9 v10 v11 v12 v13 v14 v15 v16 v17 v18 v19 v20 v21 v22 v23 v24 v25 v26 v27 v28 v29 v30 v31 v32 v33 v34 v35 v36 v37 v38 v39 v40 v41 v42 v43 v44 v45 v46 v47 v48 v49 v50 v51 v52 v53 v54 v55 v56 v57 v58 v59 v60 v61 v62 v63 v64 v65 v66 v67 v68 v69 v70 v71 v72 v73 v74 v75 v76 v77 v78 v79 v80 v81 v82 v83 v84 v85 v86 v87 v88 v89 v90 v91 v92 v93 v94 v95 v96 v97 v98 v99 v100 v101 v102 v103 v104 v105 v106:Value) (j:Nat→Value)
abbrev q6:QD:=zab Tryz.prog Tryz.f6.results.toList K E
abbrev d6 (p:List Nat):QD→Env→Hp→Prop:=den Tryz.prog (sel (za8 Tryz.f6) p)
end
section
variable {K:zae} {E:zat} {k1 k2 k3 k4 k5:Env→Hp→Prop} {σ:Type} {x0 x1 x2 x3 x4 x5 x6 x7 x8 x9 x10 x11 x12 x13 x14 x15 x16 x17 x18 x19 x20 x21 x22 x23 x24 x25 x26 x27 x28 x29 x30 x31 x32 x33 x34 x35 x36 x37 x38 x39 x40 x41 x42 x43 x44 x45 x46 x47 x48 x49 x50 x51 x52 x53 x54 x55 x56 x57 x58 x59 x60 x61 x62 x63 x64 x65 x66 x67 x68 x69 x70 x71 x72 x73 x74 x75 x76 x77 x78 x79 x80 x81 x82 x83 x84 x85 x86 x87 x88 x89 x90 x91 x92 x93 x94 x95 x96 x97 x98 x99 x100 x101 x102 x103 x104 x105 x106 v0 v1 v2 v3 v4 v5 v6 v7 v8 v9 v10 v11 v12 v13 v14 v15 v16 v17 v18 v19 v20 v21 v22 v23 v24 v25 v26 v27 v28 v29 v30 v31 v32 v33 v34 v35 v36 v37 v38 v39 v40 v41 v42 v43 v44 v45 v46 v47 v48 v49 v50 v51 v52 v53 v54 v55 v56 v57 v58 v59 v60 v61 v62 v63 v64 v65 v66 v67 v68 v69 v70 v71 v72 v73 v74 v75 v76 v77 v78 v79 v80 v81 v82 v83 v84 v85 v86 v87 v88 v89 v90 v91 v92 v93 v94 v95 v96 v97 v98 v99 v100 v101 v102 v103 v104 v105 v106:Value} {h:Hp} {j:Nat→Value}
end
end Go.Proofs.YtgcmbkoejjcjlaaGreatDoor.T
open Go Go.RowKit Go.Proofs.YtgcmbkoejjcjlaaGreatDoor.K Go.Proofs.YtgcmbkoejjcjlaaGreatDoor.T
set_option linter.unusedVariables false
set_option linter.unusedSimpArgs false
namespace Go.Proofs.YtgcmbkoejjcjlaaGreatDoor.A
variable {F F':Nat→Option (List Value)} {M M':Nat→Option zak} {N N':Nat} {K:zae} {E:zat}
theorem ygf {u v:Value} {a:List Int} (hu:sF F 1 u a.length (ick .u32 a)) (hv:sF F 1 v a.length (ick .u32 a)) (hla:a.length≤1000000000) (k:(Hp.mk F M N).wf→K (.bool true) ⟨F,M,N⟩) :
  za2 Tryz.prog (.func (.func 22) #[] #[]) #[u,v] K E ⟨F,M,N⟩:=by
 refine za3 mixed Tryz.func22 (by kernel_rfl) (t22 _ E _ _) (fun hw=>?_)
 refine zam hu ?_
 refine zam hv ?_
 refine zit rfl ?_
 try simp only [sS]
 refine zus (σ:=Nat) (fun s=>.int .i64 (s:Nat)) (fun i h'=>h'=⟨F,M,N⟩∧i≤a.length) (fun i=>a.length - i) 0 rfl
  (fun hw11=>⟨_,za0 hw11,rfl,Nat.zero_le _⟩) (fun kk2 i j2 h11 hI2 hw11 next2=>?_)
 rw [zte]
 obtain ⟨rfl,hi11⟩:=hI2
 refine zam hu ?_
 refine zaf (fun hlt2=>?_) (fun hge2=>?_)
 ·have i2:i<a.length:=by omega
  try simp only [sS]
  refine zla hu i2 (fun p11=>?_)
  refine zla hv i2 (fun p12=>?_)
  refine zit rfl ?_
  try simp only [sS]
  refine zai (by omega) ?_
  exact next2 (i+1) _ _ (by omega) (fun hw13=>⟨_,za0 hw13,rfl,i2⟩)
 ·try simp only [sS]
  exact fun hc=>⟨_,za0 hc,fun hw'=>k hw'⟩
end Go.Proofs.YtgcmbkoejjcjlaaGreatDoor.A
open Go Go.RowKit Go.Proofs.YtgcmbkoejjcjlaaGreatDoor.K
set_option linter.unusedVariables false
set_option maxRecDepth 100000
namespace Go.Proofs.YtgcmbkoejjcjlaaGreatDoor.T
section
variable (K:zae) (E:zat) (k1 k2 k3 k4 k5:Env→Hp→Prop) (x0 x1 x2 x3 x4 x5 x6 x7 x8 x9 x10 x11 x12 x13 x14 x15 x16 x17 x18 x19 x20 x21 x22 x23 x24 x25 x26 x27 x28 x29 x30 x31 x32 x33 x34 x35 x36 x37 x38 x39 x40 x41 x42 x43 x44 x45 x46 x47 x48 x49 x50 x51 x52 x53 x54 x55 x56 x57 x58 x59 x60 x61 x62 x63 x64 x65 x66 x67 x68 x69 x70 x71 x72 x73 x74 x75 x76 x77 x78 x79 x80 x81 x82 x83 x84 x85 x86 x87 v0 v1 v2 v3 v4 v5 v6 v7 v8 v9 v10 v11 v12 v13 v14 v15 v16 v17 v18 v19 v20 v21 v22 v23 v24 v25 v26 v27 v28 v29 v30 v31 v32 v33 v34 v35 v36 v37 v38 v39 v40 v41 v42 v43 v44 v45 v46 v47 v48 v49 v50 v51 v52 v53 v54 v55 v56 v57 v58 v59 v60 v61 v62 v63 v64 v65 v66 v67 v68 v69 v70 v71 v72 v73 v74 v75 v76 v77 v78 v79 v80 v81 v82 v83 v84 v85 v86 v87:Value) (j:Nat→Value)
abbrev q25:QD:=zab Tryz.prog Tryz.f25.results.toList K E
abbrev d25 (p:List Nat):QD→Env→Hp→Prop:=den Tryz.prog (sel (za8 Tryz.f25) p)
theorem t25:d25 [] (q25 K E) #[x0,U,U,U,U,U,U,U,U,U,U] =
 za2 Tryz.prog (.func (.func 47) #[] #[]) #[x0] (fun t1=>
 pv (za1 .ptr .eql t1 (.pointer none)) fun t2=>
 cnd t2 (
  K (.pointer none)) (
  pv (bdC #[(.pointer none),(.slice none 0 0),(.int .u32 0)] [(0,1),(1,1),(2,1)] #[(0,t1)]) fun t3=>
  nw 84 (Value.cells t3).toList fun t4=>
  K t4)) E:=by kernel_rfl
abbrev q26:QD:=zab Tryz.prog Tryz.f26.results.toList K E
abbrev d26 (p:List Nat):QD→Env→Hp→Prop:=den Tryz.prog (sel (za8 Tryz.f26) p)
theorem t26:d26 [] (q26 K E) #[x0,x1,U,U,U,U,U,U,U,U,U,U,U,U,U,U,U,U,U,U,U,U,U,U,U,U,U,U,U,U,U,U,U,U,U,U,U,U,U,U,U,U,U,U,U,U,U,U,U,U,U,U,U,U,U,U,U,U,U,U,U,U,U,U,U,U,U,U,U,U,U,U,U,U,U,U,U,U,U,U,U,U,U,U,U,U,U,U] =
 nw 44 (Value.cells x1).toList fun t1=>
 pv (faV 1 t1) fun t2=>
 ld false 1 t2 fun t3=>
 za2 Tryz.prog (.func (.func 48) #[] #[]) #[x0,t3] (fun t4=>
 pv (fdV false 0 1 t4) fun t5=>
 pv (faV 0 t1) fun t6=>
 ld false 1 t6 fun t7=>
 pv (za1 .none .eql t7 (.int .u8 1)) fun t8=>
 cnd t8 (
  pv (za1 .none .neq t5 (.int .u8 0)) fun t9=>
  cnd t9 (
  K (.int .i64 140)) (
  pv (zan x0) fun t10=>
  pv (faV 0 t10) fun t11=>
  ld false 1 t11 fun t12=>
  pv (faV 4 t1) fun t13=>
  ld false 1 t13 fun t14=>
  za2 Tryz.prog (.func (.func 28) #[] #[]) #[t12,t14] (fun t15=>
  pv (unV .not t15) fun t16=>
  cnd t16 (
   K (.int .i64 1)) (
   pv (faV 3 t1) fun t17=>
   ld false 1 t17 fun t18=>
   zbf 3 1 8 (.slice none 0 0) t18 fun t19=>
   pv (faV 1 t1) fun t20=>
   ld false 1 t20 fun t21=>
   pv (bdC #[(.int .u8 0),(.int .u32 0)] [(0,1),(1,1)] #[(0,(.int .u8 1))]) fun t22=>
   pv (faV 4 t1) fun t23=>
   ld false 1 t23 fun t24=>
   za2 Tryz.prog (.func (.func 50) #[] #[]) #[t24] (fun t25 h26=>(ldV h26 false 1 t20 t21)∧(
   pv (bdC #[(.int .u32 0),(.int .u8 0),(.int .u32 0),(.slice none 0 0),(.slice none 0 0)] [(0,1),(1,2),(3,1),(4,1)] #[(0,t21),(1,t22),(2,t19),(3,t25)]) fun t27=>
   za2 Tryz.prog (.func (.func 49) #[] #[]) #[x0,t27] (fun t28=>
   K (.int .i64 0)) E) h26) E)) E)) (
  pv (za1 .none .eql t7 (.int .u8 2)) fun t29=>
  cnd t29 (
  ld true 10 t1 fun t30=>
  za2 Tryz.prog (.func (.func 51) #[] #[]) #[x0,t30] (fun t31=>
  K t31) E) (
  pv (za1 .none .eql t7 (.int .u8 3)) fun t32=>
  cnd t32 (
   pv (za1 .none .eql t5 (.int .u8 2)) fun t33=>
   gdK t33 false (fun k=>k t5) fun t34=>
   gdK t33 false (fun k=>pv (za1 .none .eql t34 (.int .u8 3)) k) fun t35=>
   pv (zah t33 (.bool true) t35) fun t36=>
   cnd t36 (
   K (.int .i64 140)) (
   pv (faV 1 t1) fun t37=>
   ld false 1 t37 fun t38=>
   pv (bdC #[(.int .u8 0),(.int .u32 0)] [(0,1),(1,1)] #[(0,(.int .u8 3))]) fun t39=>
   pv (bdC #[(.int .u32 0),(.int .u8 0),(.int .u32 0),(.slice none 0 0),(.slice none 0 0)] [(0,1),(1,2),(3,1),(4,1)] #[(0,t38),(1,t39)]) fun t40=>
   za2 Tryz.prog (.func (.func 49) #[] #[]) #[x0,t40] (fun t41=>
   K (.int .i64 0)) E)) (
   pv (za1 .none .eql t7 (.int .u8 7)) fun t42=>
   cnd t42 (
   pv (faV 1 t1) fun t43=>
   ld false 1 t43 fun t44=>
   pv (zan x0) fun t45=>
   pv (faV 2 t45) fun t46=>
   ld false 1 t46 fun t47=>
   pv (za1 .none .leq t44 t47) fun t48=>
   cnd t48 (
    K (.int .i64 140)) (
    pv (zan x0) fun t49=>
    pv (faV 0 t49) fun t50=>
    ld false 1 t50 fun t51=>
    pv (faV 7 t1) fun t52=>
    ld false 1 t52 fun t53=>
    pv (faV 8 t1) fun t54=>
    ld false 1 t54 fun t55=>
    pv (faV 9 t1) fun t56=>
    ld false 1 t56 fun t57=>
    za2 Tryz.prog (.func (.func 52) #[] #[]) #[t51,t53,t55,t57] (fun t58=>
    pv (za1 .none .eql t58 (.int .i64 0)) fun t59=>
    cnd t59 (
    pv (faV 1 t1) fun t60=>
    ld false 1 t60 fun t61=>
    pv (zan x0) fun t62=>
    pv (faV 2 t62) fun t63=>
    st 1 t63 t61 fun _=>
    d26 [1,1,0,1,0,1,1,1,1,1,1,1,0,1,1,1] (blk 0 (za6 (d26 [1,1,1] (q26 K E)) (q26 K E))) #[x0,x1,U,t1,(.int .i64 0),t5,U,t58,x0,t2,t3,t4,t5,t6,t7,t8,t8,U,U,U,U,U,U,U,U,U,U,U,U,U,U,U,U,U,U,U,U,U,U,U,U,t29,t29,U,U,U,t32,t32,U,U,U,U,U,U,U,U,U,U,U,U,t42,t42,t43,t44,x0,t45,t46,t47,t48,x0,t49,t50,t51,t52,t53,t54,t55,t56,t57,t58,t58,t59,x0,t60,t61,t62,t63,U]) (
    d26 [1,1,0,1,0,1,1,1,1,1,1,1,0,1,1,1] (blk 0 (za6 (d26 [1,1,1] (q26 K E)) (q26 K E))) #[x0,x1,U,t1,(.int .i64 0),t5,U,t58,x0,t2,t3,t4,t5,t6,t7,t8,t8,U,U,U,U,U,U,U,U,U,U,U,U,U,U,U,U,U,U,U,U,U,U,U,U,t29,t29,U,U,U,t32,t32,U,U,U,U,U,U,U,U,U,U,U,U,t42,t42,t43,t44,x0,t45,t46,t47,t48,x0,t49,t50,t51,t52,t53,t54,t55,t56,t57,t58,t58,t59,U,U,U,U,U,U])) E)) (
   K (.int .i64 1)))))) E:=by kernel_rfl
theorem zfb:d26 [1,1,0,1,0,1,1,1,1,1,1,1,0,1,1,1] (blk 0 (za6 (d26 [1,1,1] (q26 K E)) (q26 K E))) #[x0,x1,x2,x3,x4,x5,x6,x7,x8,x9,x10,x11,x12,x13,x14,x15,x16,x17,x18,x19,x20,x21,x22,x23,x24,x25,x26,x27,x28,x29,x30,x31,x32,x33,x34,x35,x36,x37,x38,x39,x40,x41,x42,x43,x44,x45,x46,x47,x48,x49,x50,x51,x52,x53,x54,x55,x56,x57,x58,x59,x60,x61,x62,x63,x64,x65,x66,x67,x68,x69,x70,x71,x72,x73,x74,x75,x76,x77,x78,x79,x80,x81,x82,x83,x84,x85,x86,x87] =
 K x7:=by kernel_rfl
abbrev q48:QD:=zab Tryz.prog Tryz.f48.results.toList K E
abbrev d48 (p:List Nat):QD→Env→Hp→Prop:=den Tryz.prog (sel (za8 Tryz.f48) p)
theorem t48:d48 [] (q48 K E) #[x0,x1,U,U,U,U,U,U,U,U,U,U,U,U,U,U,U,U,U,U] =
 nw 32 [(.int .u8 0),(.int .u32 0)] fun t1=>
 za2 Tryz.prog (.func (.func 80) #[] #[]) #[x0,x1] (fun t2=>
 pv (za1 .none .lss t2 (.int .i64 0)) fun t3=>
 cnd t3 (
  pv (bdC #[(.int .u8 0),(.int .u32 0)] [(0,1),(1,1)] #[]) fun t4=>
  st 2 t1 t4 fun _=>
  ld true 2 t1 fun t5=>
  K t5) (
  pv (zan x0) fun t6=>
  pv (faV 1 t6) fun t7=>
  ld false 1 t7 fun t8=>
  pv (iaV none 5 t8 t2) fun t9=>
  pv (faV 1 t9) fun t10=>
  ld true 2 t10 fun t11=>
  st 2 t1 t11 fun _=>
  ld true 2 t1 fun t12=>
  K t12)) E:=by kernel_rfl
abbrev q49:QD:=zab Tryz.prog Tryz.f49.results.toList K E
abbrev d49 (p:List Nat):QD→Env→Hp→Prop:=den Tryz.prog (sel (za8 Tryz.f49) p)
theorem t49:d49 [] (q49 K E) #[x0,x1,U,U,U,U,U,U,U,U,U,U,U,U,U,U,U,U,U,U,U,U,U,U,U,U,U,U] =
 nw 121 (Value.cells x1).toList fun t1=>
 pv (faV 0 t1) fun t2=>
 ld false 1 t2 fun t3=>
 za2 Tryz.prog (.func (.func 80) #[] #[]) #[x0,t3] (fun t4=>
 pv (za1 .none .lss t4 (.int .i64 0)) fun t5=>
 cnd t5 (
  pv (zan x0) fun t6=>
  pv (faV 1 t6) fun t7=>
  ld false 1 t7 fun t8=>
  ld true 5 t1 fun t9=>
  nws 121 1 (bsC #[(.int .u32 0),(.int .u8 0),(.int .u32 0),(.slice none 0 0),(.slice none 0 0)] 5 1 #[(0,t9)]) (fun t10 h11=>(ldV h11 false 1 t7 t8)∧(
  zbf 121 5 64 t8 t10 fun t12=>
  pv (zan x0) fun t13=>
  pv (faV 1 t13) fun t14=>
  st 1 t14 t12 fun _=>
  K (.tuple #[])) h11)) (
  pv (zan x0) fun t15=>
  pv (faV 1 t15) fun t16=>
  ld false 1 t16 fun t17=>
  ld true 5 t1 fun t18=>
  pv (iaV none 5 t17 t4) fun t19=>
  st 5 t19 t18 fun _=>
  K (.tuple #[]))) E:=by kernel_rfl
abbrev q51:QD:=zab Tryz.prog Tryz.f51.results.toList K E
abbrev d51 (p:List Nat):QD→Env→Hp→Prop:=den Tryz.prog (sel (za8 Tryz.f51) p)
theorem t51:d51 [] (q51 K E) #[x0,x1,U,U,U,U,U,U,U,U,U,U,U,U,U,U,U,U,U,U,U,U,U,U,U,U,U,U,U,U,U,U,U,U,U,U,U,U,U,U,U,U,U,U,U,U,U,U,U,U,U] =
 nw 44 (Value.cells x1).toList fun t1=>
 pv (faV 1 t1) fun t2=>
 ld false 1 t2 fun t3=>
 za2 Tryz.prog (.func (.func 80) #[] #[]) #[x0,t3] (fun t4=>
 pv (za1 .none .lss t4 (.int .i64 0)) fun t5=>
 gdK t5 false (fun k=>k x0) fun t6=>
 gdK t5 false (fun k=>pv (zan t6) k) fun t7=>
 gdK t5 false (fun k=>pv (faV 1 t7) k) fun t8=>
 gdK t5 false (fun k=>ld false 1 t8 k) fun t9=>
 gdK t5 false (fun k=>k t4) fun t10=>
 gdK t5 false (fun k=>pv (iaV none 5 t9 t10) k) fun t11=>
 gdK t5 false (fun k=>pv (faV 1 t11) k) fun t12=>
 gdK t5 false (fun k=>pv (faV 0 t12) k) fun t13=>
 gdK t5 false (fun k=>ld false 1 t13 k) fun t14=>
 gdK t5 false (fun k=>pv (za1 .none .neq t14 (.int .u8 1)) k) fun t15=>
 pv (zah t5 (.bool true) t15) fun t16=>
 cnd t16 (
  K (.int .i64 140)) (
  pv (zan x0) fun t17=>
  pv (faV 0 t17) fun t18=>
  ld false 1 t18 fun t19=>
  pv (faV 2 t1) fun t20=>
  ld false 1 t20 fun t21=>
  pv (zan x0) fun t22=>
  pv (faV 1 t22) fun t23=>
  ld false 1 t23 fun t24=>
  pv (iaV none 5 t24 t4) fun t25=>
  pv (faV 4 t25) fun t26=>
  ld false 1 t26 fun t27=>
  za2 Tryz.prog (.func (.func 81) #[] #[]) #[t19,t21,t27] (fun t28=>
  pv (za1 .none .eql t28 (.int .i64 0)) fun t29=>
  cnd t29 (
  pv (faV 1 t1) fun t30=>
  ld false 1 t30 fun t31=>
  pv (faV 2 t1) fun t32=>
  ld false 1 t32 fun t33=>
  pv (bdC #[(.int .u8 0),(.int .u32 0)] [(0,1),(1,1)] #[(0,(.int .u8 2)),(1,t33)]) fun t34=>
  pv (bdC #[(.int .u32 0),(.int .u8 0),(.int .u32 0),(.slice none 0 0),(.slice none 0 0)] [(0,1),(1,2),(3,1),(4,1)] #[(0,t31),(1,t34)]) fun t35=>
  za2 Tryz.prog (.func (.func 49) #[] #[]) #[x0,t35] (fun t36=>
  d51 [1,1,1,1,1] (q51 K E) #[x0,x1,U,t1,(.int .i64 0),t4,t28,x0,t2,t3,t4,t4,t5,t5,t6,t7,t8,t9,t10,t11,t12,t13,t14,t15,t16,x0,t17,t18,t19,t20,t21,x0,t22,t23,t24,t4,t25,t26,t27,t28,t28,t29,x0,t30,t31,t32,t33,t34,t35,t36,U]) E) (
  d51 [1,1,1,1,1] (q51 K E) #[x0,x1,U,t1,(.int .i64 0),t4,t28,x0,t2,t3,t4,t4,t5,t5,t6,t7,t8,t9,t10,t11,t12,t13,t14,t15,t16,x0,t17,t18,t19,t20,t21,x0,t22,t23,t24,t4,t25,t26,t27,t28,t28,t29,U,U,U,U,U,U,U,U,U])) E)) E:=by kernel_rfl
theorem zny:d51 [1,1,1,1,1] (q51 K E) #[x0,x1,x2,x3,x4,x5,x6,x7,x8,x9,x10,x11,x12,x13,x14,x15,x16,x17,x18,x19,x20,x21,x22,x23,x24,x25,x26,x27,x28,x29,x30,x31,x32,x33,x34,x35,x36,x37,x38,x39,x40,x41,x42,x43,x44,x45,x46,x47,x48,x49,x50] =
 K x6:=by kernel_rfl
abbrev q57:QD:=zab Tryz.prog Tryz.f57.results.toList K E
abbrev d57 (p:List Nat):QD→Env→Hp→Prop:=den Tryz.prog (sel (za8 Tryz.f57) p)
abbrev zyq:=za6 k2 (blk 2 (za6 (d57 [1,1,0,1,0,0,1,0,0,1,1,1,1] (blk 1 (za6 (d57 [1,1,0,1,0,0,1,1] (za6 k1 (blk 0 (za6 (d57 [1,1,1] (q57 K E)) (q57 K E))))) (za6 k1 (blk 0 (za6 (d57 [1,1,1] (q57 K E)) (q57 K E))))))) (blk 1 (za6 (d57 [1,1,0,1,0,0,1,1] (za6 k1 (blk 0 (za6 (d57 [1,1,1] (q57 K E)) (q57 K E))))) (za6 k1 (blk 0 (za6 (d57 [1,1,1] (q57 K E)) (q57 K E))))))))
abbrev zn1:=za6 k1 (blk 0 (za6 (d57 [1,1,1] (q57 K E)) (q57 K E)))
def zec (j:Nat→Value):Env:=#[x0,x1,x2,v3,v4,(j 5),(j 6),(j 7),(j 8),(j 9),(j 10),(j 11),(j 12),(j 13),(j 14),(j 15),(j 16),(j 17),(j 18),(j 19),(j 20),(j 21),(j 22),(j 23),(j 24),(j 25),(j 26),(j 27),(j 28),(j 29),(j 30),(j 31),(j 32),(j 33),(j 34),(j 35),(j 36),(j 37),(j 38),(j 39),(j 40),(j 41),(j 42),(j 43),(j 44),(j 45),(j 46),(j 47),(j 48),(j 49),(j 50),(j 51),(j 52),(j 53),(j 54),(j 55),(j 56),(j 57),(j 58),(j 59),(j 60),(j 61),(j 62),(j 63),(j 64),(j 65),(j 66),(j 67),(j 68),(j 69),(j 70),x71]
def zb2 (j:Nat→Value):Env:=#[x0,x1,x2,x3,x4,v5,v6,x7,x8,x9,x10,x11,x12,x13,x14,x15,x16,x17,x18,x19,x20,x21,x22,x23,x24,x25,(j 26),(j 27),(j 28),(j 29),(j 30),(j 31),(j 32),(j 33),(j 34),(j 35),(j 36),(j 37),(j 38),(j 39),(j 40),(j 41),(j 42),(j 43),(j 44),(j 45),(j 46),(j 47),(j 48),(j 49),(j 50),(j 51),(j 52),(j 53),x54,x55,x56,x57,x58,x59,x60,x61,x62,x63,x64,x65,x66,x67,x68,x69,x70,x71]
theorem t57:d57 [] (q57 K E) #[x0,U,U,U,U,U,U,U,U,U,U,U,U,U,U,U,U,U,U,U,U,U,U,U,U,U,U,U,U,U,U,U,U,U,U,U,U,U,U,U,U,U,U,U,U,U,U,U,U,U,U,U,U,U,U,U,U,U,U,U,U,U,U,U,U,U,U,U,U,U,U,U] =
 lp (fun k1=>d57 [1,1,0,1,0,0] (zn1 K E k1)) (zec x0 U (.slice none 0 0) U (.slice none 0 0) (.int .i64 0) (jf #[])):=by kernel_rfl
theorem zv1:d57 [1,1,0,1,0,0] (zn1 K E k1) (zec x0 x1 x2 x71 v3 v4 j) =
 pv (zan x0) fun t1=>
 pv (faV 1 t1) fun t2=>
 ld false 1 t2 fun t3=>
 pv (za9 t3) fun t4=>
 pv (za1 .none .lss v4 t4) fun t5=>
 cnd t5 (
  pv (zan x0) fun t6=>
  pv (faV 1 t6) fun t7=>
  ld false 1 t7 fun t8=>
  pv (iaV none 5 t8 v4) fun t9=>
  pv (faV 1 t9) fun t10=>
  pv (faV 0 t10) fun t11=>
  ld false 1 t11 fun t12=>
  pv (za1 .none .neq t12 (.int .u8 1)) fun t13=>
  cnd t13 (
  d57 [1,1,0,1,0,0,1,1] (zn1 K E k1) #[x0,x1,x2,v3,v4,(j 5),(j 6),v4,x0,t1,t2,t3,t4,t5,(j 14),(j 15),x0,t6,t7,t8,v4,t9,t10,t11,t12,t13,(j 26),(j 27),(j 28),(j 29),(j 30),(j 31),(j 32),(j 33),(j 34),(j 35),(j 36),(j 37),(j 38),(j 39),(j 40),(j 41),(j 42),(j 43),(j 44),(j 45),(j 46),(j 47),(j 48),(j 49),(j 50),(j 51),(j 52),(j 53),(j 54),(j 55),(j 56),(j 57),(j 58),(j 59),(j 60),(j 61),(j 62),(j 63),(j 64),(j 65),(j 66),(j 67),(j 68),(j 69),(j 70),x71]) (
  lp (fun k2=>d57 [1,1,0,1,0,0,1,0,0,1,1,1,0,0,0] (zyq K E k1 k2)) (zb2 x0 x1 x2 v3 v4 v4 x0 t1 t2 t3 t4 t5 (j 14) (j 15) x0 t6 t7 t8 v4 t9 t10 t11 t12 t13 (j 54) (j 55) (j 56) (j 57) (j 58) (j 59) (j 60) (j 61) (j 62) (j 63) (j 64) (j 65) (j 66) (j 67) (j 68) (j 69) (j 70) x71 (.slice none 0 0) (.int .i64 0) (jf #[U,U,U,U,U,U,U,U,U,U,U,U,U,U,U,U,U,U,U,U,U,U,U,U,U,U,(j 26),(j 27),(j 28),(j 29),(j 30),(j 31),(j 32),(j 33),(j 34),(j 35),(j 36),(j 37),(j 38),(j 39),(j 40),(j 41),(j 42),(j 43),(j 44),(j 45),(j 46),(j 47),(j 48),(j 49),(j 50),(j 51),(j 52),(j 53)])))) (
  K v3):=by kernel_rfl
theorem zgv:d57 [1,1,0,1,0,0,1,1] (zn1 K E k1) #[x0,x1,x2,x3,x4,x5,x6,x7,x8,x9,x10,x11,x12,x13,x14,x15,x16,x17,x18,x19,x20,x21,x22,x23,x24,x25,x26,x27,x28,x29,x30,x31,x32,x33,x34,x35,x36,x37,x38,x39,x40,x41,x42,x43,x44,x45,x46,x47,x48,x49,x50,x51,x52,x53,x54,x55,x56,x57,x58,x59,x60,x61,x62,x63,x64,x65,x66,x67,x68,x69,x70,x71] =
 pv (za1 .none .add x4 (.int .i64 1)) fun t1=>
 k1 (zec x0 x1 x2 x71 x3 t1 (jf #[U,U,U,U,U,x5,x6,x7,x8,x9,x10,x11,x12,x13,x4,t1,x16,x17,x18,x19,x20,x21,x22,x23,x24,x25,x26,x27,x28,x29,x30,x31,x32,x33,x34,x35,x36,x37,x38,x39,x40,x41,x42,x43,x44,x45,x46,x47,x48,x49,x50,x51,x52,x53,x54,x55,x56,x57,x58,x59,x60,x61,x62,x63,x64,x65,x66,x67,x68,x69,x70])):=by kernel_rfl
theorem zhq:d57 [1,1,0,1,0,0,1,0,0,1,1,1,0,0,0] (zyq K E k1 k2) (zb2 x0 x1 x2 x3 x4 x7 x8 x9 x10 x11 x12 x13 x14 x15 x16 x17 x18 x19 x20 x21 x22 x23 x24 x25 x54 x55 x56 x57 x58 x59 x60 x61 x62 x63 x64 x65 x66 x67 x68 x69 x70 x71 v5 v6 j) =
 pv (za9 x3) fun t1=>
 pv (za1 .none .lss v6 t1) fun t2=>
 gdK t2 true (fun k=>k x3) fun t3=>
 gdK t2 true (fun k=>k v6) fun t4=>
 gdK t2 true (fun k=>pv (iaV none 1 t3 t4) k) fun t5=>
 gdK t2 true (fun k=>ld false 1 t5 k) fun t6=>
 gdK t2 true (fun k=>k x0) fun t7=>
 gdK t2 true (fun k=>pv (zan t7) k) fun t8=>
 gdK t2 true (fun k=>pv (faV 1 t8) k) fun t9=>
 gdK t2 true (fun k=>ld false 1 t9 k) fun t10=>
 gdK t2 true (fun k=>k x4) fun t11=>
 gdK t2 true (fun k=>pv (iaV none 5 t10 t11) k) fun t12=>
 gdK t2 true (fun k=>pv (faV 0 t12) k) fun t13=>
 gdK t2 true (fun k=>ld false 1 t13 k) fun t14=>
 gdK t2 true (fun k=>pv (za1 .none .lss t6 t14) k) fun t15=>
 pv (zah t2 t15 (.bool false)) fun t16=>
 cnd t16 (
  pv (iaV none 1 x3 v6) fun t17=>
  ld false 1 t17 fun t18=>
  nws 30 1 (bsC #[(.int .u32 0)] 1 1 #[(0,t18)]) fun t19=>
  zbf 30 1 4 v5 t19 fun t20=>
  pv (za1 .none .add v6 (.int .i64 1)) fun t21=>
  k2 (zb2 x0 x1 x2 x3 x4 x7 x8 x9 x10 x11 x12 x13 x14 x15 x16 x17 x18 x19 x20 x21 x22 x23 x24 x25 x54 x55 x56 x57 x58 x59 x60 x61 x62 x63 x64 x65 x66 x67 x68 x69 x70 x71 t20 t21 (jf #[U,U,U,U,U,U,U,U,U,U,U,U,U,U,U,U,U,U,U,U,U,U,U,U,U,U,v6,x3,t1,t2,t2,t3,t4,t5,t6,t7,t8,t9,t10,t11,t12,t13,t14,t15,t16,v5,x3,v6,t17,t18,t19,t20,v6,t21]))) (
  pv (zan x0) fun t22=>
  pv (faV 1 t22) fun t23=>
  ld false 1 t23 fun t24=>
  pv (iaV none 5 t24 x4) fun t25=>
  pv (faV 0 t25) fun t26=>
  ld false 1 t26 fun t27=>
  nws 30 1 (bsC #[(.int .u32 0)] 1 1 #[(0,t27)]) fun t28=>
  zbf 30 1 4 v5 t28 fun t29=>
  pv (slV 1 x3 (some v6) none none) fun t30=>
  zbf 30 1 4 t29 t30 fun t31=>
  d57 [1,1,0,1,0,0,1,1] (zn1 K E k1) #[x0,x1,x2,t31,x4,t31,v6,x7,x8,x9,x10,x11,x12,x13,x14,x15,x16,x17,x18,x19,x20,x21,x22,x23,x24,x25,v6,x3,t1,t2,t2,t3,t4,t5,t6,t7,t8,t9,t10,t11,t12,t13,t14,t15,t16,(j 45),(j 46),(j 47),(j 48),(j 49),(j 50),(j 51),(j 52),(j 53),v5,x0,t22,t23,t24,x4,t25,t26,t27,t28,t29,t29,x3,v6,t30,t31,t31,x71]):=by kernel_rfl
abbrev q60:QD:=zab Tryz.prog Tryz.f60.results.toList K E
abbrev d60 (p:List Nat):QD→Env→Hp→Prop:=den Tryz.prog (sel (za8 Tryz.f60) p)
abbrev zyl:=za6 k1 (blk 0 (za6 (d60 [1,1,1] (q60 K E)) (q60 K E)))
def zee (j:Nat→Value):Env:=#[x0,x1,x2,x3,(j 4),v5,x6,x7,x8,x9,x10,(j 11),(j 12),(j 13),(j 14),(j 15),(j 16),(j 17),(j 18),(j 19),(j 20),(j 21),(j 22),(j 23),(j 24),(j 25)]
theorem t60:d60 [] (q60 K E) #[x0,x1,U,U,U,U,U,U,U,U,U,U,U,U,U,U,U,U,U,U,U,U,U,U,U,U] =
 pv (za9 x0) fun t1=>
 pv (za9 x1) fun t2=>
 pv (za1 .none .neq t1 t2) fun t3=>
 cnd t3 (
  K (.bool false)) (
  lp (fun k1=>d60 [1,1,0,1,0,0] (zyl K E k1)) (zee x0 x1 U U x0 t1 x1 t2 t3 (.int .i64 0) (jf #[U,U,U,U,(.bool false)]))):=by kernel_rfl
theorem zt8:d60 [1,1,0,1,0,0] (zyl K E k1) (zee x0 x1 x2 x3 x6 x7 x8 x9 x10 v5 j) =
 pv (za9 x0) fun t1=>
 pv (za1 .none .lss v5 t1) fun t2=>
 cnd t2 (
  pv (iaV none 1 x0 v5) fun t3=>
  ld false 1 t3 fun t4=>
  pv (iaV none 1 x1 v5) fun t5=>
  ld false 1 t5 fun t6=>
  pv (za1 .none .neq t4 t6) fun t7=>
  cnd t7 (
  K (.bool false)) (
  pv (za1 .none .add v5 (.int .i64 1)) fun t8=>
  k1 (zee x0 x1 x2 x3 x6 x7 x8 x9 x10 t8 (jf #[U,U,U,U,(j 4),U,U,U,U,U,U,v5,x0,t1,t2,v5,t8,x0,v5,t3,t4,x1,v5,t5,t6,t7])))) (
  K (.bool true)):=by kernel_rfl
abbrev q62:QD:=zab Tryz.prog Tryz.f62.results.toList K E
abbrev d62 (p:List Nat):QD→Env→Hp→Prop:=den Tryz.prog (sel (za8 Tryz.f62) p)
theorem t62:d62 [] (q62 K E) #[x0,x1,U,U,U,U,U,U,U,U,U,U,U,U,U,U,U,U,U,U,U,U,U,U,U,U,U,U,U,U,U,U,U,U,U] =
 za2 Tryz.prog (.func (.func 80) #[] #[]) #[x0,x1] (fun t1=>
 pv (za1 .none .lss t1 (.int .i64 0)) fun t2=>
 gdK t2 false (fun k=>k x0) fun t3=>
 gdK t2 false (fun k=>pv (zan t3) k) fun t4=>
 gdK t2 false (fun k=>pv (faV 1 t4) k) fun t5=>
 gdK t2 false (fun k=>ld false 1 t5 k) fun t6=>
 gdK t2 false (fun k=>k t1) fun t7=>
 gdK t2 false (fun k=>pv (iaV none 5 t6 t7) k) fun t8=>
 gdK t2 false (fun k=>pv (faV 1 t8) k) fun t9=>
 gdK t2 false (fun k=>pv (faV 0 t9) k) fun t10=>
 gdK t2 false (fun k=>ld false 1 t10 k) fun t11=>
 gdK t2 false (fun k=>pv (za1 .none .neq t11 (.int .u8 1)) k) fun t12=>
 pv (zah t2 (.bool true) t12) fun t13=>
 cnd t13 (
  K (.slice none 0 0)) (
  pv (zan x0) fun t14=>
  pv (faV 1 t14) fun t15=>
  ld false 1 t15 fun t16=>
  pv (iaV none 5 t16 t1) fun t17=>
  pv (faV 3 t17) fun t18=>
  ld false 1 t18 fun t19=>
  zbf 3 1 8 (.slice none 0 0) t19 fun t20=>
  K t20)) E:=by kernel_rfl
abbrev q63:QD:=zab Tryz.prog Tryz.f63.results.toList K E
abbrev d63 (p:List Nat):QD→Env→Hp→Prop:=den Tryz.prog (sel (za8 Tryz.f63) p)
theorem t63:d63 [] (q63 K E) #[x0,x1,x2,U,U,U,U,U,U,U,U,U,U,U,U,U,U,U,U,U,U] =
 nw 55 (Value.cells x1).toList fun t1=>
 za2 Tryz.prog (.func (.func 57) #[] #[]) #[x0] (fun t2=>
 pv (za9 t2) fun t3=>
 pv (za1 .none .gtr t3 (.int .i64 0)) fun t4=>
 cnd t4 (
  K (.tuple #[(.slice none 0 0),(.int .i64 141)])) (
  pv (zan x0) fun t5=>
  pv (faV 0 t5) fun t6=>
  ld false 1 t6 fun t7=>
  ld true 3 t1 fun t8=>
  za2 Tryz.prog (.func (.func 89) #[] #[]) #[t7,t8,x2] (fun t9=>
  pv (exV 0 t9) fun t10=>
  pv (exV 1 t9) fun t11=>
  K (.tuple #[t10,t11])) E)) E:=by kernel_rfl
abbrev q80:QD:=zab Tryz.prog Tryz.f80.results.toList K E
abbrev d80 (p:List Nat):QD→Env→Hp→Prop:=den Tryz.prog (sel (za8 Tryz.f80) p)
abbrev zyn:=za6 k1 (blk 0 (za6 (d80 [1,1] (q80 K E)) (q80 K E)))
def zfn (j:Nat→Value):Env:=#[x0,x1,x2,x3,(j 4),v5,(j 6),(j 7),(j 8),(j 9),(j 10),(j 11),(j 12),(j 13),(j 14),(j 15),(j 16),(j 17),(j 18),(j 19),(j 20),(j 21),(j 22),(j 23),(j 24),(j 25)]
theorem t80:d80 [] (q80 K E) #[x0,x1,U,U,U,U,U,U,U,U,U,U,U,U,U,U,U,U,U,U,U,U,U,U,U,U] =
 lp (fun k1=>d80 [1,0,1,0,0] (zyn K E k1)) (zfn x0 x1 U U (.int .i64 0) (jf #[U,U,U,U,(.int .i64 0)])):=by kernel_rfl
theorem zyc:d80 [1,0,1,0,0] (zyn K E k1) (zfn x0 x1 x2 x3 v5 j) =
 pv (zan x0) fun t1=>
 pv (faV 1 t1) fun t2=>
 ld false 1 t2 fun t3=>
 pv (za9 t3) fun t4=>
 pv (za1 .none .lss v5 t4) fun t5=>
 cnd t5 (
  pv (zan x0) fun t6=>
  pv (faV 1 t6) fun t7=>
  ld false 1 t7 fun t8=>
  pv (iaV none 5 t8 v5) fun t9=>
  pv (faV 0 t9) fun t10=>
  ld false 1 t10 fun t11=>
  pv (za1 .none .eql t11 x1) fun t12=>
  cnd t12 (
  K v5) (
  pv (za1 .none .add v5 (.int .i64 1)) fun t13=>
  k1 (zfn x0 x1 x2 x3 t13 (jf #[U,U,U,U,(j 4),U,v5,x0,t1,t2,t3,t4,t5,v5,t13,x0,t6,t7,t8,v5,t9,t10,t11,x1,t12,(j 25)])))) (
  K (.int .i64 (-1))):=by kernel_rfl
abbrev q29:QD:=zab Tryz.prog Tryz.f29.results.toList K E
abbrev d29 (p:List Nat):QD→Env→Hp→Prop:=den Tryz.prog (sel (za8 Tryz.f29) p)
abbrev zza:=za6 k1 (blk 0 (za6 (d29 [1,1,1] (q29 K E)) (q29 K E)))
def zep (j:Nat→Value):Env:=#[x0,x1,x2,x3,x4,x5,x6,x7,(j 8),v9,x10,x11,x12,x13,x14,x15,x16,x17,x18,x19,x20,x21,x22,x23,x24,x25,x26,x27,x28,x29,x30,x31,x32,x33,x34,x35,x36,x37,x38,x39,x40,x41,x42,(j 43),(j 44),(j 45),(j 46),(j 47),(j 48),(j 49),(j 50),(j 51),(j 52),(j 53),(j 54),(j 55),(j 56),(j 57),(j 58),(j 59),(j 60),(j 61),(j 62),(j 63),x64,x65,x66,x67,x68,x69,x70,x71,x72,x73,x74,x75,x76,x77,x78,x79,x80,x81,x82,x83,x84,x85,x86,x87]
theorem t29:d29 [] (q29 K E) #[x0,x1,x2,x3,U,U,U,U,U,U,U,U,U,U,U,U,U,U,U,U,U,U,U,U,U,U,U,U,U,U,U,U,U,U,U,U,U,U,U,U,U,U,U,U,U,U,U,U,U,U,U,U,U,U,U,U,U,U,U,U,U,U,U,U,U,U,U,U,U,U,U,U,U,U,U,U,U,U,U,U,U,U,U,U,U,U,U,U] =
 nw 55 (Value.cells x2).toList fun t1=>
 za2 Tryz.prog (.func (.func 18) #[] #[]) #[x0] (fun t2=>
 za2 Tryz.prog (.func (.func 57) #[] #[]) #[x1] (fun t3=>
 za2 Tryz.prog (.func (.func 22) #[] #[]) #[t2,t3] (fun t4=>
 pv (unV .not t4) fun t5=>
 gdK t5 false (fun k=>k x0) fun t6=>
 gdK t5 false (fun k=>k x1) fun t7=>
 gdK t5 false (fun k=>pv (zan t7) k) fun t8=>
 gdK t5 false (fun k=>pv (faV 2 t8) k) fun t9=>
 gdK t5 false (fun k=>ld false 1 t9 k) fun t10=>
 gdK t5 false (fun k=>za2 Tryz.prog (.func (.func 23) #[] #[]) #[t6] k E) (fun t11 h12=>(isB t5 false=true→ldV h12 false 1 t9 t10)∧(
  gdK t5 false (fun k=>pv (za1 .none .neq t11 t10) k) fun t13=>
  pv (zah t5 (.bool true) t13) fun t14=>
  gdK t14 false (fun k=>k x0) fun t15=>
  gdK t14 false (fun k=>pv (zan t15) k) fun t16=>
  gdK t14 false (fun k=>pv (faV 0 t16) k) fun t17=>
  gdK t14 false (fun k=>ld false 1 t17 k) fun t18=>
  gdK t14 false (fun k=>k x1) fun t19=>
  gdK t14 false (fun k=>pv (zan t19) k) fun t20=>
  gdK t14 false (fun k=>pv (faV 0 t20) k) fun t21=>
  gdK t14 false (fun k=>ld false 1 t21 k) fun t22=>
  gdK t14 false (fun k=>za2 Tryz.prog (.func (.func 24) #[] #[]) #[t18,(.int .i64 0),(.int .i64 10000)] k E) (fun t23 h24=>(isB t14 false=true→ldV h24 false 1 t21 t22)∧(
  gdK t14 false (fun k=>za2 Tryz.prog (.func (.func 59) #[] #[]) #[t22,(.int .i64 0),(.int .i64 10000)] k E) fun t25=>
  gdK t14 false (fun k=>za2 Tryz.prog (.func (.func 58) #[] #[]) #[t23,t25] k E) fun t26=>
  gdK t14 false (fun k=>pv (unV .not t26) k) fun t27=>
  pv (zah t14 (.bool true) t27) fun t28=>
  cnd t28 (
   K (.int .i64 0)) (
   lp (fun k1=>d29 [1,1,0,1,0,0] (zza K E k1)) (zep x0 x1 x2 x3 U U t1 U U U U U x0 t2 x1 t3 t4 t5 t5 t6 t11 t7 t8 t9 t10 t13 t14 t14 t15 t16 t17 t18 t23 t19 t20 t21 t22 t25 t26 t27 t28 U U U U U U U U U U U U U U U U U U U U U U U U (.int .u32 0) (jf #[U,U,U,U,U,U,U,U,(.int .i64 0)])))) h24)) h12)) E) E) E:=by kernel_rfl
theorem zsh:d29 [1,1,0,1,0,0] (zza K E k1) (zep x0 x1 x2 x3 x4 x5 x6 x7 x10 x11 x12 x13 x14 x15 x16 x17 x18 x19 x20 x21 x22 x23 x24 x25 x26 x27 x28 x29 x30 x31 x32 x33 x34 x35 x36 x37 x38 x39 x40 x41 x42 x64 x65 x66 x67 x68 x69 x70 x71 x72 x73 x74 x75 x76 x77 x78 x79 x80 x81 x82 x83 x84 x85 x86 x87 v9 j) =
 pv (za1 .none .lss v9 (.int .u32 10)) fun t1=>
 cnd t1 (
  za2 Tryz.prog (.func (.func 16) #[] #[]) #[x0,v9] (fun t2=>
  za2 Tryz.prog (.func (.func 48) #[] #[]) #[x1,v9] (fun t3=>
  pv (ze0 .neq [0,0] t2 t3) fun t4=>
  gdK t4 false (fun k=>k x0) fun t5=>
  gdK t4 false (fun k=>k v9) fun t6=>
  gdK t4 false (fun k=>za2 Tryz.prog (.func (.func 61) #[] #[]) #[t5,t6] k E) fun t7=>
  gdK t4 false (fun k=>k x1) fun t8=>
  gdK t4 false (fun k=>k v9) fun t9=>
  gdK t4 false (fun k=>za2 Tryz.prog (.func (.func 62) #[] #[]) #[t8,t9] k E) fun t10=>
  gdK t4 false (fun k=>za2 Tryz.prog (.func (.func 60) #[] #[]) #[t7,t10] k E) fun t11=>
  gdK t4 false (fun k=>pv (unV .not t11) k) fun t12=>
  pv (zah t4 (.bool true) t12) fun t13=>
  cnd t13 (
  K (.int .i64 0)) (
  pv (za1 .none .add v9 (.int .u32 1)) fun t14=>
  k1 (zep x0 x1 x2 x3 x4 x5 x6 x7 x10 x11 x12 x13 x14 x15 x16 x17 x18 x19 x20 x21 x22 x23 x24 x25 x26 x27 x28 x29 x30 x31 x32 x33 x34 x35 x36 x37 x38 x39 x40 x41 x42 x64 x65 x66 x67 x68 x69 x70 x71 x72 x73 x74 x75 x76 x77 x78 x79 x80 x81 x82 x83 x84 x85 x86 x87 t14 (jf #[U,U,U,U,U,U,U,U,(j 8),U,U,U,U,U,U,U,U,U,U,U,U,U,U,U,U,U,U,U,U,U,U,U,U,U,U,U,U,U,U,U,U,U,U,v9,t1,v9,t14,x0,v9,t2,x1,v9,t3,t4,t4,t5,t6,t7,t8,t9,t10,t11,t12,t13])))) E) E) (
  ld true 3 x6 fun t15=>
  za2 Tryz.prog (.func (.func 19) #[] #[]) #[x0,t15,x3] (fun t16=>
  pv (exV 0 t16) fun t17=>
  pv (exV 1 t16) fun t18=>
  ld true 3 x6 fun t19=>
  za2 Tryz.prog (.func (.func 63) #[] #[]) #[x1,t19,x3] (fun t20=>
  pv (exV 0 t20) fun t21=>
  pv (exV 1 t20) fun t22=>
  za2 Tryz.prog (.func (.func 21) #[] #[]) #[t17,t21] (fun t23=>
  pv (unV .not t23) fun t24=>
  gdK t24 false (fun k=>k t18) fun t25=>
  gdK t24 false (fun k=>pv (cvV .i64 t25) k) fun t26=>
  gdK t24 false (fun k=>k t22) fun t27=>
  gdK t24 false (fun k=>pv (za1 .none .neq t26 t27) k) fun t28=>
  pv (zah t24 (.bool true) t28) fun t29=>
  cnd t29 (
  K (.int .i64 0)) (
  K (.int .i64 1))) E) E) E):=by kernel_rfl
end
section
variable {K:zae} {E:zat} {k1 k2 k3 k4 k5:Env→Hp→Prop} {σ:Type} {x0 x1 x2 x3 x4 x5 x6 x7 x8 x9 x10 x11 x12 x13 x14 x15 x16 x17 x18 x19 x20 x21 x22 x23 x24 x25 x26 x27 x28 x29 x30 x31 x32 x33 x34 x35 x36 x37 x38 x39 x40 x41 x42 x43 x44 x45 x46 x47 x48 x49 x50 x51 x52 x53 x54 x55 x56 x57 x58 x59 x60 x61 x62 x63 x64 x65 x66 x67 x68 x69 x70 x71 x72 x73 x74 x75 x76 x77 x78 x79 x80 x81 x82 x83 x84 x85 x86 x87 v0 v1 v2 v3 v4 v5 v6 v7 v8 v9 v10 v11 v12 v13 v14 v15 v16 v17 v18 v19 v20 v21 v22 v23 v24 v25 v26 v27 v28 v29 v30 v31 v32 v33 v34 v35 v36 v37 v38 v39 v40 v41 v42 v43 v44 v45 v46 v47 v48 v49 v50 v51 v52 v53 v54 v55 v56 v57 v58 v59 v60 v61 v62 v63 v64 v65 v66 v67 v68 v69 v70 v71 v72 v73 v74 v75 v76 v77 v78 v79 v80 v81 v82 v83 v84 v85 v86 v87:Value} {h:Hp} {j:Nat→Value}
theorem zu8 (f3 f4:σ→Value) (I:σ→Hp→Prop) (μ:σ→Nat) (s0:σ) (e3:v3=f3 s0) (e4:v4=f4 s0) (h0:h.wf→∃ h',h.wk h'∧I s0 h')
 (round:∀ (k1:Env→Hp→Prop) (s:σ) (j:Nat→Value) (h:Hp),I s h→h.wf→(∀ s' j' h',μ s'<μ s→(h'.wf→∃ h'',h'.wk h''∧I s' h'')→k1 (zec x0 x1 x2 x71 (f3 s') (f4 s') j') h')→d57 [1,1,0,1,0,0] (zn1 K E k1) (zec x0 x1 x2 x71 (f3 s) (f4 s) j) h) :
 lp (fun k1=>d57 [1,1,0,1,0,0] (zn1 K E k1)) (zec x0 x1 x2 x71 v3 v4 j) h:=by
 subst e3
 subst e4
 exact zaj (fun s j=>zec x0 x1 x2 x71 (f3 s) (f4 s) j) I μ round s0 j h0
theorem zhu (f5 f6:σ→Value) (I:σ→Hp→Prop) (μ:σ→Nat) (s0:σ) (e5:v5=f5 s0) (e6:v6=f6 s0) (h0:h.wf→∃ h',h.wk h'∧I s0 h')
 (round:∀ (k2:Env→Hp→Prop) (s:σ) (j:Nat→Value) (h:Hp),I s h→h.wf→(∀ s' j' h',μ s'<μ s→(h'.wf→∃ h'',h'.wk h''∧I s' h'')→k2 (zb2 x0 x1 x2 x3 x4 x7 x8 x9 x10 x11 x12 x13 x14 x15 x16 x17 x18 x19 x20 x21 x22 x23 x24 x25 x54 x55 x56 x57 x58 x59 x60 x61 x62 x63 x64 x65 x66 x67 x68 x69 x70 x71 (f5 s') (f6 s') j') h')→d57 [1,1,0,1,0,0,1,0,0,1,1,1,0,0,0] (zyq K E k1 k2) (zb2 x0 x1 x2 x3 x4 x7 x8 x9 x10 x11 x12 x13 x14 x15 x16 x17 x18 x19 x20 x21 x22 x23 x24 x25 x54 x55 x56 x57 x58 x59 x60 x61 x62 x63 x64 x65 x66 x67 x68 x69 x70 x71 (f5 s) (f6 s) j) h) :
 lp (fun k2=>d57 [1,1,0,1,0,0,1,0,0,1,1,1,0,0,0] (zyq K E k1 k2)) (zb2 x0 x1 x2 x3 x4 x7 x8 x9 x10 x11 x12 x13 x14 x15 x16 x17 x18 x19 x20 x21 x22 x23 x24 x25 x54 x55 x56 x57 x58 x59 x60 x61 x62 x63 x64 x65 x66 x67 x68 x69 x70 x71 v5 v6 j) h:=by
 subst e5
 subst e6
 exact zaj (fun s j=>zb2 x0 x1 x2 x3 x4 x7 x8 x9 x10 x11 x12 x13 x14 x15 x16 x17 x18 x19 x20 x21 x22 x23 x24 x25 x54 x55 x56 x57 x58 x59 x60 x61 x62 x63 x64 x65 x66 x67 x68 x69 x70 x71 (f5 s) (f6 s) j) I μ round s0 j h0
theorem zup (f5:σ→Value) (I:σ→Hp→Prop) (μ:σ→Nat) (s0:σ) (e5:v5=f5 s0) (h0:h.wf→∃ h',h.wk h'∧I s0 h')
 (round:∀ (k1:Env→Hp→Prop) (s:σ) (j:Nat→Value) (h:Hp),I s h→h.wf→(∀ s' j' h',μ s'<μ s→(h'.wf→∃ h'',h'.wk h''∧I s' h'')→k1 (zee x0 x1 x2 x3 x6 x7 x8 x9 x10 (f5 s') j') h')→d60 [1,1,0,1,0,0] (zyl K E k1) (zee x0 x1 x2 x3 x6 x7 x8 x9 x10 (f5 s) j) h) :
 lp (fun k1=>d60 [1,1,0,1,0,0] (zyl K E k1)) (zee x0 x1 x2 x3 x6 x7 x8 x9 x10 v5 j) h:=by
 subst e5
 exact zaj (fun s j=>zee x0 x1 x2 x3 x6 x7 x8 x9 x10 (f5 s) j) I μ round s0 j h0
theorem zya (f5:σ→Value) (I:σ→Hp→Prop) (μ:σ→Nat) (s0:σ) (e5:v5=f5 s0) (h0:h.wf→∃ h',h.wk h'∧I s0 h')
 (round:∀ (k1:Env→Hp→Prop) (s:σ) (j:Nat→Value) (h:Hp),I s h→h.wf→(∀ s' j' h',μ s'<μ s→(h'.wf→∃ h'',h'.wk h''∧I s' h'')→k1 (zfn x0 x1 x2 x3 (f5 s') j') h')→d80 [1,0,1,0,0] (zyn K E k1) (zfn x0 x1 x2 x3 (f5 s) j) h) :
 lp (fun k1=>d80 [1,0,1,0,0] (zyn K E k1)) (zfn x0 x1 x2 x3 v5 j) h:=by
 subst e5
 exact zaj (fun s j=>zfn x0 x1 x2 x3 (f5 s) j) I μ round s0 j h0
theorem zsq (f9:σ→Value) (I:σ→Hp→Prop) (μ:σ→Nat) (s0:σ) (e9:v9=f9 s0) (h0:h.wf→∃ h',h.wk h'∧I s0 h')
 (round:∀ (k1:Env→Hp→Prop) (s:σ) (j:Nat→Value) (h:Hp),I s h→h.wf→(∀ s' j' h',μ s'<μ s→(h'.wf→∃ h'',h'.wk h''∧I s' h'')→k1 (zep x0 x1 x2 x3 x4 x5 x6 x7 x10 x11 x12 x13 x14 x15 x16 x17 x18 x19 x20 x21 x22 x23 x24 x25 x26 x27 x28 x29 x30 x31 x32 x33 x34 x35 x36 x37 x38 x39 x40 x41 x42 x64 x65 x66 x67 x68 x69 x70 x71 x72 x73 x74 x75 x76 x77 x78 x79 x80 x81 x82 x83 x84 x85 x86 x87 (f9 s') j') h')→d29 [1,1,0,1,0,0] (zza K E k1) (zep x0 x1 x2 x3 x4 x5 x6 x7 x10 x11 x12 x13 x14 x15 x16 x17 x18 x19 x20 x21 x22 x23 x24 x25 x26 x27 x28 x29 x30 x31 x32 x33 x34 x35 x36 x37 x38 x39 x40 x41 x42 x64 x65 x66 x67 x68 x69 x70 x71 x72 x73 x74 x75 x76 x77 x78 x79 x80 x81 x82 x83 x84 x85 x86 x87 (f9 s) j) h) :
 lp (fun k1=>d29 [1,1,0,1,0,0] (zza K E k1)) (zep x0 x1 x2 x3 x4 x5 x6 x7 x10 x11 x12 x13 x14 x15 x16 x17 x18 x19 x20 x21 x22 x23 x24 x25 x26 x27 x28 x29 x30 x31 x32 x33 x34 x35 x36 x37 x38 x39 x40 x41 x42 x64 x65 x66 x67 x68 x69 x70 x71 x72 x73 x74 x75 x76 x77 x78 x79 x80 x81 x82 x83 x84 x85 x86 x87 v9 j) h:=by
 subst e9
 exact zaj (fun s j=>zep x0 x1 x2 x3 x4 x5 x6 x7 x10 x11 x12 x13 x14 x15 x16 x17 x18 x19 x20 x21 x22 x23 x24 x25 x26 x27 x28 x29 x30 x31 x32 x33 x34 x35 x36 x37 x38 x39 x40 x41 x42 x64 x65 x66 x67 x68 x69 x70 x71 x72 x73 x74 x75 x76 x77 x78 x79 x80 x81 x82 x83 x84 x85 x86 x87 (f9 s) j) I μ round s0 j h0
end
end Go.Proofs.YtgcmbkoejjcjlaaGreatDoor.T
open Go Go.RowKit Go.Proofs.YtgcmbkoejjcjlaaGreatDoor.K Go.Proofs.YtgcmbkoejjcjlaaGreatDoor.T
set_option linter.unusedVariables false
set_option linter.unusedSimpArgs false
namespace Go.Proofs.YtgcmbkoejjcjlaaGreatDoor.A
variable {F F':Nat→Option (List Value)} {M M':Nat→Option zak} {N N':Nat} {K:zae} {E:zat}
theorem zmw {α:Type} {R:List Value→α→Prop} {B sz:Nat} {e:TypeId} {v:Value} {l:List α} {rows:List (List Value)} (hv:own M B e sz v l.length rows.flatten) (hr:zad R sz rows l) {i:Nat} (hi:i<l.length) :
  ∃ b c r cs tot,v=.slice (some ⟨b,0,none⟩) l.length c∧M b=some (.cells e cs tot)∧R r l[i]∧r.length=sz∧(∀ x∈r,x.oneCell'=true)∧(∀ j,j<sz→cs[i*sz+j]?=r[j]?)∧i*sz+sz≤cs.length:=by
 rcases hv.2 with ⟨rfl,h0⟩ | ⟨b,c,rest,rfl,h1,h2,h3,h4⟩
 ·omega
 obtain ⟨r,hri,hR,hdt,hle,hrl⟩:=hr.get (List.getElem?_eq_getElem hi)
 have hfl:=hr.flen
 have hle':i*sz+sz≤l.length*sz:=by rw [← Nat.succ_mul]; exact Nat.mul_le_mul_right _ hi
 refine ⟨b,c,r,_,_,rfl,h4,hR,hrl,hr.one r (List.mem_of_getElem? hri),fun j hj=>?_,by rw [List.length_append]; omega⟩
 rw [List.getElem?_append_left (by omega),← hdt,List.getElem?_take,if_pos hj,List.getElem?_drop]
def knD (F:Nat→Option (List Value)) (cs:List Value) (x:Int×Bt):Prop:=∃ nv fv,cs=[.int .u32 x.1,.int .u8 x.2.st,.int .u32 x.2.tm,nv,fv]∧sF F 1 nv x.2.ns.length (ic x.2.ns)∧zar F fv x.2.fs
theorem knD.mono {cs:List Value} {x:Int×Bt} (h:knD F cs x) (hF:zac F F'):knD F' cs x:=let ⟨nv,fv,e,h1,h2⟩:=h; ⟨nv,fv,e,h1.mono hF,h2.mono hF⟩
structure zd0 (F:Nat→Option (List Value)) (M:Nat→Option zak) (B p g:Nat) (dv lv Lv:Value) (rows:List (List Value)) (l:List Dm) (h:List En) (bs:Bts) (tk:Int):Prop where
 pp:M p=some (.cells 84 [.pointer (some ⟨g,0,none⟩),Lv,.int .u32 tk] 3)
 pB:B≤p
 gB:B≤g
 cc:ziq F M g dv lv l h
 oo:own M B 121 5 Lv bs.length rows.flatten
 rr:zad (knD F) 5 rows bs
section
variable {B p g:Nat} {dv lv Lv:Value} {rows:List (List Value)} {l:List Dm} {h:List En} {bs:Bts} {tk:Int}
theorem zd0.keep (P:zd0 F M B p g dv lv Lv rows l h bs tk) (hF:zac F F') (hM:∀ q,q=p∨q=g∨Lv.ownBlock=some q→M' q=M q):zd0 F' M' B p g dv lv Lv rows l h bs tk :=
 ⟨(hM p (.inl rfl)).trans P.pp,P.pB,P.gB,P.cc.keep hF (hM g (.inr (.inl rfl))),P.oo.keep (fun q hq=>hM q (.inr (.inr hq))) (Nat.le_refl _),P.rr.mono fun _ _ h=>h.mono hF⟩
theorem zd0.lt (P:zd0 F M B p g dv lv Lv rows l h bs tk) (hm:za7 M N):∀ q,q=p∨q=g∨Lv.ownBlock=some q→B≤q∧q<N:=fun q hq=>by
 rcases hq with rfl | rfl | hq
 ·exact ⟨P.pB,hm.lt P.pp⟩
 ·exact ⟨P.gB,hm.lt P.cc.gg⟩
 ·exact ⟨(P.oo.ge q hq).1,P.oo.lt hm q hq⟩
theorem zd0.up (P:zd0 F M B p g dv lv Lv rows l h bs tk) (hm:za7 M N) (hF:zac F F') (hM:∀ q,q<N→M' q=M q):zd0 F' M' B p g dv lv Lv rows l h bs tk:=P.keep hF (fun q hq=>hM q (P.lt hm q hq).2)
theorem zd0.box (P:zd0 F M B p g dv lv Lv rows l h bs tk) (hm:za7 M N) {b:Nat} (hb:N≤b) (x:Option zak):zd0 F (upd M b x) B p g dv lv Lv rows l h bs tk:=P.up hm (zac.refl _) (fun q hq=>za4 _ _ (by omega))
theorem zd0.lenL (P:zd0 F M B p g dv lv Lv rows l h bs tk):za9 Lv=some (.int .i64 (bs.length:Nat)):=by obtain ⟨a,c,e,_⟩:=P.oo.form; rw [e]; rfl
theorem yk7 {v:Value} (hv:zbl F v l) (hl:l.length≤140737488351232) (k1:zbh l=false→∀ N',N≤N'→(Hp.mk F M N').wf→K (.pointer none) ⟨F,M,N'⟩)
  (k2:zbh l=true→∀ p g dv F' M' N',zac F F'→zd0 F' M' N p g dv (.slice none 0 0) (.slice none 0 0) [] l [] [] 0→(∀ q,q<N→M' q=M q)→N≤N'→za7 M' N'→(Hp.mk F' M' N').wf→K (.pointer (some ⟨p,0,none⟩)) ⟨F',M',N'⟩) :
  za2 Tryz.prog (.func (.func 25) #[] #[]) #[v] K E ⟨F,M,N⟩:=by
 refine za3 mixed Tryz.func25 (by kernel_rfl) (t25 _ E _) (fun hw=>?_)
 refine ymt hv hl (fun h0 N1 hN1 hw1=>?_) (fun h0 g dv F1 M1 N1 hF hC hgN hM1 hN1 hm1 hw1=>?_)
 ·refine zaa (v:=.bool true) rfl ?_
  try simp only [sS]
  exact fun hc=>⟨_,za0 hc,fun hw'=>k1 h0 _ hN1 hw'⟩
 ·refine zo9 ?_
  try simp only [sS]
  refine zaa (v:=.agg #[.pointer (some ⟨g,0,none⟩),.slice none 0 0,.int .u32 0]) (by kernel_rfl) ?_
  refine zal (cs:=[.pointer (some ⟨g,0,none⟩),.slice none 0 0,.int .u32 0]) (fun p hp=>?_)
  have hg1:=hm1.lt hC.gg
  refine fun hc=>⟨_,za0 hc,fun hw'=>k2 h0 p g dv F1 _ _ hF ⟨za5 _ _ _,by omega,hgN,hC.keep (zac.refl _) (za4 _ _ (by omega)),own.nil,zad.nil _ _⟩ (fun q hq=>(za4 _ _ (by omega)).trans (hM1 q hq)) (by omega) (hm1.new hp _) hw'⟩
theorem zpj {id:Int} (P:zd0 F M B p g dv lv Lv rows l h bs tk) (hbl:bs.length≤1000000) (k1:(∀ x∈bs,x.1≠id)→(Hp.mk F M N).wf→K (.int .i64 (-1)) ⟨F,M,N⟩) (k2:∀ i (hi:i<bs.length),bs[i].1=id→(Hp.mk F M N).wf→K (.int .i64 (i:Nat)) ⟨F,M,N⟩) :
  za2 Tryz.prog (.func (.func 80) #[] #[]) #[.pointer (some ⟨p,0,none⟩),.int .u32 id] K E ⟨F,M,N⟩:=by
 refine za3 mixed Tryz.func80 (by kernel_rfl) (t80 _ E _ _) (fun hw=>?_)
 refine zya (σ:=Nat) (fun s=>.int .i64 (s:Nat)) (fun i h'=>h'=⟨F,M,N⟩∧i≤bs.length∧∀ j (hj:j<bs.length),j<i→bs[j].1≠id) (fun i=>bs.length - i) 0 rfl
  (fun hw11=>⟨_,za0 hw11,rfl,Nat.zero_le _,fun j _ hj=>absurd hj (by omega)⟩) (fun kk2 i j2 h11 hI2 hw11 next2=>?_)
 rw [zyc]
 obtain ⟨rfl,hi11,hno⟩:=hI2
 try simp only [sS]
 refine ldM (v:=Lv) ?_ P.pp
 refine zaa P.lenL ?_
 refine zaf (fun hlt2=>?_) (fun hge2=>?_)
 ·have i2:i<bs.length:=by omega
  try simp only [sS]
  refine ldM (v:=Lv) ?_ P.pp
  obtain ⟨b,c,r,cs,tot,e,hMb,hR,hrl,_,hj,hle⟩:=zmw P.oo P.rr i2
  obtain ⟨nv,fv,rfl,_,_⟩:=hR
  have h0:=hj 0 (by decide)
  rw [e]
  refine zbz i2 ?_
  try simp only [sS]
  refine ldM (v:=.int .u32 bs[i].1) ?_ hMb (by simpa using h0)
  refine zba (fun hh=>?_) (fun hh=>?_)
  ·try simp only [sS]
   exact fun hc=>⟨_,za0 hc,fun hw'=>k2 i i2 hh hw'⟩
  ·try simp only [sS]
   refine zai (by omega) ?_
   exact next2 (i+1) _ _ (by omega) (fun hw13=>⟨_,za0 hw13,rfl,i2,fun j hj hji=>by
    by_cases hje:j=i
    ·subst hje; exact hh
    ·exact hno j hj (by omega)⟩)
 ·try simp only [sS]
  refine fun hc=>⟨_,za0 hc,fun hw'=>k1 (fun x hx=>?_) hw'⟩
  obtain ⟨j,hj,rfl⟩:=List.mem_iff_getElem.1 hx
  exact hno j hj (by omega)
theorem zmm {bs:Bts} (nd:(bs.map (·.1)).Nodup) {i:Nat} {id:Int} (hi:i<bs.length) (e:bs[i].1=id):zaw bs id=bs[i].2:=by
 rw [← e]; exact zn0 nd (List.getElem_mem hi)
theorem zxt {id:Int} (P:zd0 F M B p g dv lv Lv rows l h bs tk) (nd:(bs.map (·.1)).Nodup) (hbl:bs.length≤1000000) (k:∀ N',N≤N'→(Hp.mk F M N').wf→K (.agg #[.int .u8 (zaw bs id).st,.int .u32 (zaw bs id).tm]) ⟨F,M,N'⟩) :
  za2 Tryz.prog (.func (.func 48) #[] #[]) #[.pointer (some ⟨p,0,none⟩),.int .u32 id] K E ⟨F,M,N⟩:=by
 refine za3 mixed Tryz.func48 (by kernel_rfl) (t48 _ E _ _) (fun hw=>?_)
 have hm:za7 M N:=hw.m
 refine zal (fun b1 hb1=>?_)
 have P1:=P.box hm hb1 (some (.cells 32 [.int .u8 0,.int .u32 0] 2))
 have fin:∀ {a t:Int} {M1:Nat→Option zak},M1=upd M b1 (some (.cells 32 [.int .u8 a,.int .u32 t] 2))→a=(zaw bs id).st→t=(zaw bs id).tm→ld true 2 (.pointer (some ⟨b1,0,none⟩)) (fun v h=>h.wf→∃ h',h.wk h'∧(h'.wf→K v h')) ⟨F,M1,b1+1⟩:=fun {a t M1} e ea et=>by
  subst e
  refine zas (vs:=[.int .u8 a,.int .u32 t]) ?_ (za5 _ _ _)
  rw [ea,et]
  exact fun hc=>⟨⟨F,M,b1+1⟩,zbp hc (zav (zb6 _) (hm _ hb1)),fun hw'=>k _ (by omega) hw'⟩
 refine zpj P1 hbl (fun hno hw1=>?_) (fun i hi he hw1=>?_)
 ·refine zh0 (by decide) ?_
  try simp only [sS]
  refine zaa (v:=.agg #[.int .u8 0,.int .u32 0]) (by kernel_rfl) ?_
  refine stM (cs':=[.int .u8 0,.int .u32 0]) ?_ (za5 _ _ _) rfl rfl (List.all_eq_true.1 rfl)
  rw [zbe]
  exact fin rfl (by rw [zij hno]; rfl) (by rw [zij hno]; rfl)
 ·refine zh2 (by omega) ?_
  try simp only [sS]
  refine ldM (v:=Lv) ?_ P1.pp
  obtain ⟨b,c,r,cs,tot,e,hMb,hR,hrl,_,hj,hle⟩:=zmw P1.oo P1.rr hi
  obtain ⟨nv,fv,rfl,_,_⟩:=hR
  have h1:=hj 1 (by decide)
  have h2:=hj 2 (by decide)
  have hgb:=zmm nd hi he
  rw [e]
  refine zbz hi ?_
  try simp only [sS]
  have hd:(cs.drop (i*5+1)).take 2=[.int .u8 bs[i].2.st,.int .u32 bs[i].2.tm]:=by
   have l1:=(List.getElem?_eq_some_iff.1 h1)
   have l2:=(List.getElem?_eq_some_iff.1 h2)
   obtain ⟨q1,q2⟩:=l1
   obtain ⟨q3,q4⟩:=l2
   rw [List.drop_eq_getElem_cons q1,List.drop_eq_getElem_cons q3,List.take_succ_cons,List.take_succ_cons,List.take_zero,q2,q4]
  refine zas (vs:=[.int .u8 bs[i].2.st,.int .u32 bs[i].2.tm]) ?_ hMb (by simpa using hd) (by omega)
  refine stM (cs':=[.int .u8 bs[i].2.st,.int .u32 bs[i].2.tm]) ?_ (za5 _ _ _) rfl rfl (List.all_eq_true.1 rfl)
  rw [zbe]
  exact fin rfl (by rw [hgb]) (by rw [hgb])
end
theorem yi9 {bs:Bts} (nd:(bs.map (·.1)).Nodup) {i:Nat} {id:Int} {b:Bt} (hi:i<bs.length) (e:bs[i].1=id):zdw bs id b=bs.set i (id,b):=by
 unfold zdw
 rw [if_pos (zek.2 ⟨_,List.getElem_mem hi,e⟩)]
 refine List.ext_getElem (by simp) fun j h1 h2=>?_
 rw [List.getElem_map,List.getElem_set]
 have hj:j<bs.length:=by simpa using h1
 by_cases hij:i=j
 ·subst hij; rw [if_pos e,if_pos rfl]
 ·rw [if_neg hij,if_neg]
  intro e2
  have key:=List.pairwise_iff_getElem.1 nd
  rcases Nat.lt_or_ge i j with h | h
  ·exact key i j (by simpa using hi) (by simpa using hj) h (by simp only [List.getElem_map]; rw [e,e2])
  ·exact key j i (by simpa using hj) (by simpa using hi) (by omega) (by simp only [List.getElem_map]; rw [e,e2])
theorem yhx {bs:Bts} {id:Int} {b:Bt} (h:∀ x∈bs,x.1≠id):zdw bs id b=bs++[(id,b)]:=by
 unfold zdw
 rw [if_neg]
 intro hh
 obtain ⟨x,hx,e⟩:=zek.1 hh
 exact h x hx e
def rfr (M M':Nat→Option zak) (N p g:Nat) (Lv Lv':Value):Prop:=∀ q,Lv.ownBlock≠some q→q≠g→q≠p→q<N→M' q=M q∧Lv'.ownBlock≠some q
section
variable {B p g:Nat} {dv lv Lv:Value} {rows:List (List Value)} {l:List Dm} {h:List En} {bs:Bts} {tk:Int}
theorem zd0.pg (P:zd0 F M B p g dv lv Lv rows l h bs tk):p≠g∧Lv.ownBlock≠some p∧Lv.ownBlock≠some g:=by
 refine ⟨fun e=>?_,fun e=>?_,fun e=>?_⟩
 ·have := P.pp; rw [e,P.cc.gg] at this; cases this
 ·obtain ⟨c,t,h2⟩:=zne P.oo p e; rw [P.pp] at h2; cases h2
 ·obtain ⟨c,t,h2⟩:=zne P.oo g e; rw [P.cc.gg] at h2; cases h2
theorem yaf {id:Int} {b:Bt} {nv fv:Value} (P:zd0 F M B p g dv lv Lv rows l h bs tk) (hB:B≤N) (nd:(bs.map (·.1)).Nodup) (hbl:bs.length≤1000000) (hn:sF F 1 nv b.ns.length (ic b.ns)) (hf:zar F fv b.fs)
  (k:∀ Lv' M' N' rows',zd0 F M' B p g dv lv Lv' rows' l h (zdw bs id b) tk→rfr M M' N p g Lv Lv'→N≤N'→za7 M' N'→(Hp.mk F M' N').wf→K (.tuple #[]) ⟨F,M',N'⟩) :
  za2 Tryz.prog (.func (.func 49) #[] #[]) #[.pointer (some ⟨p,0,none⟩),.agg #[.int .u32 id,.int .u8 b.st,.int .u32 b.tm,nv,fv]] K E ⟨F,M,N⟩:=by
 refine za3 mixed Tryz.func49 (by kernel_rfl) (t49 _ E _ _) (fun hw=>?_)
 have hm:za7 M N:=hw.m
 obtain ⟨an,cn,en,_⟩:=hn.form
 obtain ⟨af,cf,ef⟩:=hf.form
 have hone:∀ c∈[Value.int .u32 id,.int .u8 b.st,.int .u32 b.tm,nv,fv],c.oneCell'=true:=by rw [en,ef]; exact List.all_eq_true.1 rfl
 refine zal (cs:=[.int .u32 id,.int .u8 b.st,.int .u32 b.tm,nv,fv]) (fun b1 hb1=>?_) rfl
 have P1:=P.box hm hb1 (some (.cells 121 [.int .u32 id,.int .u8 b.st,.int .u32 b.tm,nv,fv] 5))
 have hm1:=hm.new hb1 (some (.cells 121 [.int .u32 id,.int .u8 b.st,.int .u32 b.tm,nv,fv] 5))
 have q1:upd M b1 (some (.cells 121 [.int .u32 id,.int .u8 b.st,.int .u32 b.tm,nv,fv] 5)) b1=_:=za5 _ _ _
 have hM1:∀ q,q<N→upd M b1 (some (.cells 121 [.int .u32 id,.int .u8 b.st,.int .u32 b.tm,nv,fv] 5)) q=M q:=fun q hq=>za4 _ _ (by omega)
 generalize upd M b1 _=M1 at *
 obtain ⟨n1,n2,n3⟩:=P1.pg
 have hpl:=P.lt hm
 have hknD:knD F [.int .u32 id,.int .u8 b.st,.int .u32 b.tm,nv,fv] (id,b):=⟨nv,fv,rfl,hn,hf⟩
 try simp only [sS]
 refine ldM (v:=.int .u32 id) ?_ q1
 refine zpj P1 hbl (fun hno hw1=>?_) (fun i hi he hw1=>?_)
 ·refine zh0 (by decide) ?_
  try simp only [sS]
  refine ldM (v:=Lv) ?_ P1.pp
  refine zas (vs:=[.int .u32 id,.int .u8 b.st,.int .u32 b.tm,nv,fv]) ?_ q1
  refine zde (cs:=[.int .u32 id,.int .u8 b.st,.int .u32 b.tm,nv,fv]) (by rw [en,ef]; kernel_rfl) (fun b4 hb4=>?_)
  have P4:=P1.box hm1 hb4 (some (.cells 121 [.int .u32 id,.int .u8 b.st,.int .u32 b.tm,nv,fv] 5))
  have hm4:=hm1.new hb4 (some (.cells 121 [.int .u32 id,.int .u8 b.st,.int .u32 b.tm,nv,fv] 5))
  refine ⟨zao (zaq P4.pp) rfl,?_⟩
  refine P4.oo.app (m:=1) (news:=[.int .u32 id,.int .u8 b.st,.int .u32 b.tm,nv,fv]) hm4 (by omega) ⟨rfl,.inr ⟨b4,0,1,_,rfl,Nat.le_refl _,.inr ⟨_,_,za5 _ _ _⟩,rfl⟩⟩ hone (by omega) (by simp [maxLen]; omega) (fun v5 M5 N5 ho5 hfr5 hN5 hm5=>?_)
  have f5:∀ q,Lv.ownBlock≠some q→q<N→M5 q=M q∧v5.ownBlock≠some q:=fun q hq hqN=>⟨((hfr5 q hq (by omega)).1).trans ((za4 _ _ (by omega)).trans (hM1 q hqN)),(hfr5 q hq (by omega)).2⟩
  have fp:=f5 p n2 (hpl p (.inl rfl)).2
  have fg:=f5 g n3 (hpl g (.inr (.inl rfl))).2
  have hpp5:=fp.1.trans P.pp
  have h1v5:v5.oneCell'=true:=ho5.one
  refine stM (cs':=[.pointer (some ⟨g,0,none⟩),v5,.int .u32 tk]) ?_ hpp5 (by obtain ⟨a5,c5,e5,_⟩:=ho5.form; rw [e5]; rfl) (by obtain ⟨a5,c5,e5,_⟩:=ho5.form; rw [e5]; rfl) (by obtain ⟨a5,c5,e5,_⟩:=ho5.form; rw [e5]; exact List.all_eq_true.1 rfl) (by exact Nat.le_of_ble_eq_true rfl)
  have hrr:zad (knD F) 5 (rows++[[.int .u32 id,.int .u8 b.st,.int .u32 b.tm,nv,fv]]) (bs++[(id,b)]):=P.rr.snoc rfl hone hknD
  refine fun hc=>⟨_,za0 hc,fun hw'=>k v5 _ N5 (rows++[[.int .u32 id,.int .u8 b.st,.int .u32 b.tm,nv,fv]]) ?_ (fun q h1 h2 h3 h4=>⟨(za4 _ _ h3).trans (f5 q h1 h4).1,(f5 q h1 h4).2⟩) (by omega) (hm5.set (by have := (hpl p (.inl rfl)).2; omega) _) hw'⟩
  rw [yhx hno]
  refine ⟨za5 _ _ _,P.pB,P.gB,P.cc.keep (zac.refl _) ((za4 _ _ (Ne.symm n1)).trans fg.1),?_,hrr⟩
  rw [List.length_append,List.flatten_append]
  have := ho5.keep (M':=upd M5 p (some (.cells 84 [.pointer (some ⟨g,0,none⟩),v5,.int .u32 tk] 3))) (fun q hq=>za4 _ _ (fun e=>fp.2 (by rw [← e]; exact hq))) (Nat.le_refl _)
  simpa using this
 ·refine zh2 (by omega) ?_
  try simp only [sS]
  refine ldM (v:=Lv) ?_ P1.pp
  refine zas (vs:=[.int .u32 id,.int .u8 b.st,.int .u32 b.tm,nv,fv]) ?_ q1
  refine zxk (r:=[.int .u32 id,.int .u8 b.st,.int .u32 b.tm,nv,fv]) (y:=(id,b)) P1.oo P1.rr hi rfl hone hknD (fun _ M5 ho5 hr5 hM5 hcl5=>?_)
  refine fun hc=>⟨_,za0 hc,fun hw'=>k Lv M5 (b1+1) (rows.set i [.int .u32 id,.int .u8 b.st,.int .u32 b.tm,nv,fv]) ?_ (fun q h1 h2 h3 h4=>⟨(hM5 q h1).trans (hM1 q h4),h1⟩) (by omega) (hcl5 _ hm1) hw'⟩
  rw [yi9 nd hi he]
  exact ⟨(hM5 p n2).trans P1.pp,P.pB,P.gB,P1.cc.keep (zac.refl _) (hM5 g n3),ho5,hr5⟩
end
section
variable {B p g:Nat} {dv lv Lv:Value} {rows:List (List Value)} {l:List Dm} {h:List En} {bs:Bts} {tk:Int}
theorem rfr.trans {M'':Nat→Option zak} {Lv' Lv'':Value} (a:rfr M M' N p g Lv Lv') (b:rfr M' M'' N' p g Lv' Lv'') (hN:N≤N'):rfr M M'' N p g Lv Lv'':=fun q h1 h2 h3 h4=>
 ⟨((b q (a q h1 h2 h3 h4).2 h2 h3 (by omega)).1).trans (a q h1 h2 h3 h4).1,(b q (a q h1 h2 h3 h4).2 h2 h3 (by omega)).2⟩
theorem yc5 {bs:Bts} {id:Int} (h:∀ x∈bs,x.1≠id):(zaw bs id).st=0:=by rw [zij h]; rfl
set_option maxRecDepth 10000 in
theorem yeb {D:List Int} {cs:List Value} {r:zcw} (P:zd0 F M B p g dv lv Lv rows l h bs tk) (hB:B≤N) (hdl:l.length≤1000) (o:okP l D h bs) (hD:D.length≤1000) (hr:zhd F cs r) (ok:r.ok)
  (k:∀ lv' Lv' F' M' N' rows',zac F F'→zd0 F' M' B p g dv lv' Lv' rows' l (cmH l h bs r) (cmS l h bs r) tk→rfr M M' N p g Lv Lv'→N≤N'→za7 M' N'→(Hp.mk F' M' N').wf→K (.int .i64 ((cmE l h bs r:Nat):Int)) ⟨F',M',N'⟩) :
  za2 Tryz.prog (.func (.func 51) #[] #[]) #[.pointer (some ⟨p,0,none⟩),.agg cs.toArray] K E ⟨F,M,N⟩:=by
 refine za3 mixed Tryz.func51 (by kernel_rfl) (t51 _ E _ _) (fun hw=>?_)
 have hm:za7 M N:=hw.m
 have hbl:bs.length≤1000000:=by have := o.len; omega
 have hr0:=hr
 refine zal (cs:=cs) (fun b1 hb1=>?_) rfl
 obtain ⟨nv,fv,ep,sv,ev,e,hn,hf,he,_⟩:=hr
 have hb:=za5 M b1 (some (.cells 44 cs cs.length))
 have P1:=P.box hm hb1 (some (.cells 44 cs cs.length))
 have hm1:=hm.new hb1 (some (.cells 44 cs cs.length))
 have hM1:∀ q,q<N→upd M b1 (some (.cells 44 cs cs.length)) q=M q:=fun q hq=>za4 _ _ (by omega)
 generalize upd M b1 _=M1 at *
 subst e
 obtain ⟨n1,n2,n3⟩:=P1.pg
 have hpl:=P.lt hm
 have noM:rfr M M1 N p g Lv Lv:=fun q h1 _ _ h4=>⟨hM1 q h4,h1⟩
 try simp only [sS]
 refine ldM (v:=.int .u32 r.id) ?_ hb
 refine zpj P1 hbl (fun hno hw1=>?_) (fun i hi he' hw1=>?_)
 ·have h0:=yc5 hno
  have eE:cmE l h bs r=140:=by unfold cmE; rw [if_neg (by omega)]
  have eH:cmH l h bs r=h:=by unfold cmH; rw [if_neg (by omega)]
  have eS:cmS l h bs r=bs:=by unfold cmS; rw [if_neg (by rw [eE]; decide)]
  refine zh0 (by decide) ?_
  try simp only [sS]
  rw [eE,eH,eS] at k
  exact fun hc=>⟨_,za0 hc,fun hw'=>k lv Lv F M1 (b1+1) rows (zac.refl _) P1 noM (by omega) hm1 hw'⟩
 ·refine zh2 (by omega) ?_
  try simp only [sS]
  refine ldM (v:=Lv) ?_ P1.pp
  obtain ⟨b,c,rr,cs',tot,e,hMb,hR,hrl,_,hj,hle⟩:=zmw P1.oo P1.rr hi
  have hgb:=zmm o.nd hi he'
  obtain ⟨nv',fv',rfl,hn',hf'⟩:=hR
  have h1:=hj 1 (by decide)
  have h4:=hj 4 (by decide)
  rw [← hgb] at h1 hf'
  have eL:=e
  rw [e]
  refine zbz hi ?_
  try simp only [sS]
  refine ldM (v:=.int .u8 (zaw bs r.id).st) ?_ hMb (by simpa using h1)
  refine zc9 (fun hne=>?_) (fun hst=>?_)
  ·have eE:cmE l h bs r=140:=by unfold cmE; rw [if_neg hne]
   have eH:cmH l h bs r=h:=by unfold cmH; rw [if_neg hne]
   have eS:cmS l h bs r=bs:=by unfold cmS; rw [if_neg (by rw [eE]; decide)]
   try simp only [sS]
   rw [eE,eH,eS] at k
   exact fun hc=>⟨_,za0 hc,fun hw'=>k lv Lv F M1 (b1+1) rows (zac.refl _) P1 noM (by omega) hm1 hw'⟩
  ·have hst':(zaw bs r.id).st=1:=by omega
   have eE:cmE l h bs r=zew l h r.tm (zaw bs r.id).fs:=by unfold cmE; rw [if_pos hst']
   have eH:cmH l h bs r=zj6 l h r.tm (zaw bs r.id).fs:=by unfold cmH; rw [if_pos hst']
   try simp only [sS]
   refine ldM (v:=.pointer (some ⟨g,0,none⟩)) ?_ P1.pp
   refine ldM (v:=.int .u32 r.tm) ?_ hb
   try simp only [sS]
   refine ldM (v:=Lv) ?_ P1.pp
   rw [eL]
   refine zbz hi ?_
   try simp only [sS]
   refine ldM (v:=fv') ?_ hMb (by simpa using h4)
   have hfl:=o.fl r.id
   refine ylj P1.cc o.oh hdl hf' (by omega) (fun lv2 F2 M2 N2 hF2 hC2 hM2 hN2 hw2=>?_)
   have hm2:za7 M2 N2:=hw2.m
   have P2:zd0 F2 M2 B p g dv lv2 Lv rows l (zj6 l h r.tm (zaw bs r.id).fs) bs tk:=⟨(hM2 p n1).trans P1.pp,P1.pB,P1.gB,hC2,P1.oo.keep (fun q hq=>hM2 q (fun e=>n3 (by rw [← e]; exact hq))) (Nat.le_refl _),P1.rr.mono fun _ _ h=>h.mono hF2⟩
   have hb2:=(hM2 b1 (fun e=>by have := (hpl g (.inr (.inl rfl))).2; omega)).trans hb
   have f2:rfr M M2 N p g Lv Lv:=fun q h1 h2 _ h4=>⟨(hM2 q h2).trans (hM1 q h4),h1⟩
   refine zba (fun hz=>?_) (fun hz=>?_)
   ·have eS:cmS l h bs r=zdw bs r.id ⟨2,r.tm,[],[]⟩:=by unfold cmS; rw [if_pos (by rw [eE]; omega)]
    try simp only [sS]
    refine ldM (v:=.int .u32 r.id) ?_ hb2
    refine ldM (v:=.int .u32 r.tm) ?_ hb2
    refine zaa (v:=.agg #[.int .u8 2,.int .u32 r.tm]) (by kernel_rfl) ?_
    refine zaa (v:=.agg #[.int .u32 r.id,.int .u8 2,.int .u32 r.tm,.slice none 0 0,.slice none 0 0]) (by kernel_rfl) ?_
    refine yaf (b:=⟨2,r.tm,[],[]⟩) P2 (by omega) o.nd hbl (sF.nil _ _ _) zar.nil (fun Lv3 M3 N3 rows3 P3 hf3 hN3 hm3 hw3=>?_)
    try rw [zny]
    refine fun hc=>⟨_,za0 hc,fun hw'=>?_⟩
    rw [← eE]
    refine k lv2 Lv3 F2 M3 N3 rows3 hF2 ?_ (f2.trans hf3 (by omega)) (by omega) hm3 hw'
    rw [eH,eS]; exact P3
   ·have eS:cmS l h bs r=bs:=by unfold cmS; rw [if_neg (by rw [eE]; omega)]
    try simp only [sS]
    try rw [zny]
    refine fun hc=>⟨_,za0 hc,fun hw'=>?_⟩
    rw [← eE]
    refine k lv2 Lv F2 M2 N2 rows hF2 ?_ f2 (by omega) hm2 hw'
    rw [eH,eS]; exact P2
end
section
variable {B p g:Nat} {dv lv Lv:Value} {rows:List (List Value)} {l:List Dm} {h:List En} {bs:Bts} {tk:Int}
set_option maxRecDepth 10000 in
set_option maxHeartbeats 4000000 in
theorem yg9 {D:List Int} {cs:List Value} {r:zcw} (P:zd0 F M B p g dv lv Lv rows l h bs tk) (hB:B≤N) (hdl:l.length≤1000) (o:okP l D h bs) (hD:D.length≤1000) (hr:zhd F cs r) (ok:r.ok) (ht0:∀ e∈r.es,0≤e.1) (hst:∀ id,(zaw bs id).st≤3)
  (k:∀ lv' Lv' F' M' N' rows',zac F F'→zd0 F' M' B p g dv lv' Lv' rows' l (apH l h bs tk r) (apS l h bs r) (apT l h tk r)→rfr M M' N p g Lv Lv'→N≤N'→za7 M' N'→(Hp.mk F' M' N').wf→K (.int .i64 ((apE l h bs tk r:Nat):Int)) ⟨F',M',N'⟩) :
  za2 Tryz.prog (.func (.func 26) #[] #[]) #[.pointer (some ⟨p,0,none⟩),.agg cs.toArray] K E ⟨F,M,N⟩:=by
 refine za3 mixed Tryz.func26 (by kernel_rfl) (t26 _ E _ _) (fun hw=>?_)
 have hm:za7 M N:=hw.m
 have hbl:bs.length≤1000000:=by have := o.len; omega
 have hr0:=hr
 refine zal (cs:=cs) (fun b1 hb1=>?_) rfl
 obtain ⟨nv,fv,ep,sv,ev,e,hn,hf,he,_⟩:=hr
 have hb:=za5 M b1 (some (.cells 44 cs cs.length))
 have P1:=P.box hm hb1 (some (.cells 44 cs cs.length))
 have hm1:=hm.new hb1 (some (.cells 44 cs cs.length))
 have hM1:∀ q,q<N→upd M b1 (some (.cells 44 cs cs.length)) q=M q:=fun q hq=>za4 _ _ (by omega)
 generalize upd M b1 _=M1 at *
 have hb':=hb
 subst e
 obtain ⟨n1,n2,n3⟩:=P1.pg
 have hpl:=P.lt hm
 have noM:rfr M M1 N p g Lv Lv:=fun q h1 _ _ h4=>⟨hM1 q h4,h1⟩
 have trp:∀ {M':Nat→Option zak} {Lv':Value} {N1:Nat},b1<N1→rfr M1 M' N1 p g Lv Lv'→rfr M M' N p g Lv Lv':=fun h1 f q q1 q2 q3 q5=>⟨((f q q1 q2 q3 (by omega)).1).trans (hM1 q q5),(f q q1 q2 q3 (by omega)).2⟩
 try simp only [sS]
 refine ldM (v:=.int .u32 r.id) ?_ hb
 refine zxt P1 o.nd hbl (fun N2 hN2 hw2=>?_)
 refine zaa (v:=.int .u8 (zaw bs r.id).st) (by kernel_rfl) ?_
 have hm2:za7 M1 N2:=hw2.m
 refine ldM (v:=.int .u8 r.kind) ?_ hb
 refine zba (fun h1=>?_) (fun h1=>?_)
 ·have eE:apE l h bs tk r=ppE l bs r:=by unfold apE; rw [if_pos h1]
  have eS:apS l h bs r=ppS l bs r:=by unfold apS; rw [if_pos h1]
  have eH:apH l h bs tk r=h:=by unfold apH; rw [if_neg (by omega),if_neg (by omega)]
  have eT:apT l h tk r=tk:=by unfold apT; rw [if_neg (by omega)]
  rw [eE,eS,eH,eT] at k
  try simp only [sS]
  refine zc9 (fun hg=>?_) (fun hg=>?_)
  ·have p1:ppE l bs r=140:=by unfold ppE; rw [if_pos hg]
   have p2:ppS l bs r=bs:=by unfold ppS; rw [if_neg (by rw [p1]; decide)]
   rw [p1,p2] at k
   try simp only [sS]
   exact fun hc=>⟨_,za0 hc,fun hw'=>k lv Lv F M1 N2 rows (zac.refl _) P1 noM (by omega) hm2 hw'⟩
  try simp only [sS]
  refine ldM (v:=.pointer (some ⟨g,0,none⟩)) ?_ P1.pp
  refine ldM (v:=fv) ?_ hb
  refine zpr P1.cc.gg P1.cc.dd (by omega) hf ok.fl (fun N3 hN3 hw3=>?_)
  cases hfit:zd1 l r.fs
  ·have p1:ppE l bs r=1:=by unfold ppE; rw [if_neg hg,if_pos hfit]
   have p2:ppS l bs r=bs:=by unfold ppS; rw [if_neg (by rw [p1]; decide)]
   rw [p1,p2] at k
   try simp only [sS]
   exact fun hc=>⟨_,za0 hc,fun hw'=>k lv Lv F M1 N3 rows (zac.refl _) P1 noM (by omega) hw'.m hw'⟩
  have p1:ppE l bs r=0:=by unfold ppE; rw [if_neg hg,if_neg (by rw [hfit]; decide)]
  have p2:ppS l bs r=zdw bs r.id ⟨1,0,r.ns,r.fs⟩:=by unfold ppS; rw [if_pos p1]
  rw [p1,p2] at k
  obtain ⟨f1,f2⟩:=zdu hfit
  have hm3:za7 M1 N3:=hw3.m
  have hnl:=ok.nl
  try simp only [sS]
  refine ldM (v:=nv) ?_ hb
  refine own.app (B:=N3) own.nil hm3 (Nat.le_refl _) hn.sR (zg5 _) (by omega) (by simp [maxLen]; omega) (fun nv4 M4 N4 ho4 hfr4 hN4 hm4=>?_)
  have hM4:∀ q,q<N3→M4 q=M1 q:=fun q hq=>(hfr4 q (by simp [Value.ownBlock]) hq).1
  have hb4:=(hM4 b1 (by omega)).trans hb
  rw [Nat.zero_add,List.nil_append] at ho4
  refine ldM (v:=.int .u32 r.id) ?_ hb4
  refine zaa (v:=.agg #[.int .u8 1,.int .u32 0]) (by kernel_rfl) ?_
  refine ldM (v:=fv) ?_ hb4
  refine zej (fun hc=>⟨_,zb7 hm3 hM4 hc,?_⟩)
  have hs5:=zag (N:=N3) hc
  have hn5:sF (zdh F M4 N3) 1 nv4 r.ns.length (ic r.ns):=ho4.rd.frz hc (fun b e=>.inl (by have := (ho4.ge b e).1; omega))
  generalize zdh F M4 N3=F5 at *
  refine zwr (hf.mono hs5) (by omega) (fun f hf=>by have := zge (f2 f hf); omega) (fun fv6 F6 N6 hw6 hF6 hN6 hf6=>?_)
  refine ⟨zao (zaq hb) rfl,?_⟩
  have hn6:=hn5.mono hF6
  obtain ⟨a5,c5,e5,_⟩:=hn6.form
  obtain ⟨a6,c6,e6⟩:=hf6.form
  refine zaa (v:=.agg #[.int .u32 r.id,.int .u8 1,.int .u32 0,nv4,fv6]) (by rw [e5,e6]; kernel_rfl) ?_
  refine yaf (b:=⟨1,0,r.ns,r.fs⟩) (P1.keep (M':=M1) (hs5.trans hF6) (fun _ _=>rfl)) (by omega) o.nd hbl hn6 hf6 (fun Lv7 M7 N7 rows7 P7 hf7 hN7 hm7 hw7=>?_)
  exact fun hc=>⟨_,za0 hc,fun hw'=>k lv Lv7 F6 M7 N7 rows7 (hs5.trans hF6) P7 (trp (by omega) hf7) (by omega) hm7 hw'⟩
 try simp only [sS]
 refine zba (fun h2=>?_) (fun h2=>?_)
 ·have eE:apE l h bs tk r=cmE l h bs r:=by unfold apE; rw [if_neg h1,if_pos h2]
  have eS:apS l h bs r=cmS l h bs r:=by unfold apS; rw [if_neg h1,if_pos h2]
  have eH:apH l h bs tk r=cmH l h bs r:=by unfold apH; rw [if_pos h2]
  have eT:apT l h tk r=tk:=by unfold apT; rw [if_neg (by omega)]
  rw [eE,eS,eH,eT] at k
  try simp only [sS]
  refine zas ?_ hb
  refine yeb P1 (by omega) hdl o hD hr0 ok (fun lv3 Lv3 F3 M3 N3 rows3 hF3 P3 hM3 hN3 hm3 hw3=>?_)
  exact fun hc=>⟨_,za0 hc,fun hw'=>k lv3 Lv3 F3 M3 N3 rows3 hF3 P3 (trp (by omega) hM3) (by omega) hm3 hw'⟩
 try simp only [sS]
 refine zba (fun h3=>?_) (fun h3=>?_)
 ·have eE:apE l h bs tk r=abE bs r:=by unfold apE; rw [if_neg h1,if_neg h2,if_pos h3]
  have eS:apS l h bs r=abS bs r:=by unfold apS; rw [if_neg h1,if_neg h2,if_pos h3]
  have eH:apH l h bs tk r=h:=by unfold apH; rw [if_neg h2,if_neg (by omega)]
  have eT:apT l h tk r=tk:=by unfold apT; rw [if_neg (by omega)]
  rw [eE,eS,eH,eT] at k
  have hst:=hst r.id
  try simp only [sS]
  by_cases hg:(zaw bs r.id).st>1
  ·have p1:abE bs r=140:=by unfold abE; rw [if_pos hg]
   have p2:abS bs r=bs:=by unfold abS; rw [if_pos hg]
   rw [p1,p2] at k
   have fin:(fun v h=>h.wf→∃ h',Hp.wk h h'∧(h'.wf→K v h')) (.int .i64 140) ⟨F,M1,N2⟩:=fun hc=>⟨_,za0 hc,fun hw'=>k lv Lv F M1 N2 rows (zac.refl _) P1 noM (by omega) hm2 hw'⟩
   refine zba (fun h5=>?_) (fun h5=>?_)
   ·try simp only [sS]
    exact fin
   ·try simp only [sS]
    refine zi3 (by omega) ?_
    try simp only [sS]
    exact fin
  ·have p1:abE bs r=0:=by unfold abE; rw [if_neg hg]
   have p2:abS bs r=zdw bs r.id ⟨3,0,[],[]⟩:=by unfold abS; rw [if_neg hg]
   rw [p1,p2] at k
   refine zhl (by omega) ?_
   try simp only [sS]
   refine zhl (by omega) ?_
   try simp only [sS]
   refine ldM (v:=.int .u32 r.id) ?_ hb
   refine zaa (v:=.agg #[.int .u8 3,.int .u32 0]) (by kernel_rfl) ?_
   refine zaa (v:=.agg #[.int .u32 r.id,.int .u8 3,.int .u32 0,.slice none 0 0,.slice none 0 0]) (by kernel_rfl) ?_
   refine yaf (b:=⟨3,0,[],[]⟩) P1 (by omega) o.nd hbl (sF.nil _ _ _) zar.nil (fun Lv7 M7 N7 rows7 P7 hf7 hN7 hm7 hw7=>?_)
   exact fun hc=>⟨_,za0 hc,fun hw'=>k lv Lv7 F M7 N7 rows7 (zac.refl _) P7 (trp (by omega) hf7) (by omega) hm7 hw'⟩
 try simp only [sS]
 refine zba (fun h4=>?_) (fun h4=>?_)
 ·have eE:apE l h bs tk r=tkE l h tk r:=by unfold apE; rw [if_neg h1,if_neg h2,if_neg h3,if_pos h4]
  have eS:apS l h bs r=bs:=by unfold apS; rw [if_neg h1,if_neg h2,if_neg h3]
  have eH:apH l h bs tk r=tkH l h tk r:=by unfold apH; rw [if_neg h2,if_pos h4]
  have eT:apT l h tk r=tkT l h tk r:=by unfold apT; rw [if_pos h4]
  rw [eE,eS,eH,eT] at k
  try simp only [sS]
  refine ldM (v:=.int .u32 r.id) ?_ hb
  try simp only [sS]
  refine ldM (v:=.int .u32 tk) ?_ P1.pp
  refine zfd (fun h5=>?_) (fun h5=>?_)
  ·have p1:tkE l h tk r=140:=by unfold tkE; rw [if_pos h5]
   have p2:tkH l h tk r=h:=by unfold tkH; rw [if_pos h5]
   have p3:tkT l h tk r=tk:=by unfold tkT; rw [if_neg (by rw [p1]; decide)]
   rw [p1,p2,p3] at k
   try simp only [sS]
   exact fun hc=>⟨_,za0 hc,fun hw'=>k lv Lv F M1 N2 rows (zac.refl _) P1 noM (by omega) hm2 hw'⟩
  ·have p1:tkE l h tk r=ze2 l r.lo r.hi h r.es:=by unfold tkE; rw [if_neg h5]
   have p2:tkH l h tk r=zhi l r.lo r.hi h r.es:=by unfold tkH; rw [if_neg h5]
   try simp only [sS]
   refine ldM (v:=.pointer (some ⟨g,0,none⟩)) ?_ P1.pp
   refine ldM (v:=.int .i64 r.lo) ?_ hb
   refine ldM (v:=.int .i64 r.hi) ?_ hb
   refine ldM (v:=ev) ?_ hb
   refine yko P1.cc o.oh hdl he ok.el ok.eT ht0 (fun lv3 F3 M3 N3 hF3 hC3 hM3 hN3 hw3=>?_)
   have hm3:za7 M3 N3:=hw3.m
   have lt2:∀ {q:Nat},q<N→q<N2:=fun h=>by omega
   have hP3:=(hM3 p n1 (lt2 (hpl p (.inl rfl)).2)).trans P1.pp
   have P3:zd0 F3 M3 B p g dv lv3 Lv rows l (zhi l r.lo r.hi h r.es) bs tk:=⟨hP3,P1.pB,P1.gB,hC3,P1.oo.keep (fun q hq=>hM3 q (fun e=>n3 (by rw [← e]; exact hq)) (lt2 (hpl q (.inr (.inr hq))).2)) (Nat.le_refl _),P1.rr.mono fun _ _ h=>h.mono hF3⟩
   have hb3:=(hM3 b1 (fun e=>by have := (hpl g (.inr (.inl rfl))).2; omega) (by omega)).trans hb
   have f3:rfr M M3 N p g Lv Lv:=fun q h1 h2 _ h4=>⟨(hM3 q h2 (lt2 h4)).trans (hM1 q h4),h1⟩
   refine zba (fun hz=>?_) (fun hz=>?_)
   ·have p3:tkT l h tk r=r.id:=by unfold tkT; rw [if_pos (by rw [p1]; omega)]
    try simp only [sS]
    refine ldM (v:=.int .u32 r.id) ?_ hb3
    have hL1:=P3.oo.one
    refine stM (cs':=[.pointer (some ⟨g,0,none⟩),Lv,.int .u32 r.id]) ?_ hP3 rfl rfl (List.all_eq_true.1 rfl) (by exact Nat.le_of_ble_eq_true rfl)
    try rw [zfb]
    refine fun hc=>⟨_,za0 hc,fun hw'=>?_⟩
    rw [← p1]
    refine k lv3 Lv F3 _ N3 rows hF3 ?_ (fun q h1 h2 h3 h4=>⟨(za4 _ _ h3).trans (f3 q h1 h2 h3 h4).1,h1⟩) (by omega) (hm3.set (by have := (hpl p (.inl rfl)).2; omega) _) hw'
    rw [p2,p3]
    exact ⟨za5 _ _ _,P3.pB,P3.gB,hC3.keep (zac.refl _) (za4 _ _ (Ne.symm n1)),P3.oo.keep (fun q hq=>za4 _ _ (fun e=>n2 (by rw [← e]; exact hq))) (Nat.le_refl _),P3.rr⟩
   ·have p3:tkT l h tk r=tk:=by unfold tkT; rw [if_neg (by rw [p1]; omega)]
    try simp only [sS]
    try rw [zfb]
    refine fun hc=>⟨_,za0 hc,fun hw'=>?_⟩
    rw [← p1]
    refine k lv3 Lv F3 M3 N3 rows hF3 ?_ f3 (by omega) hm3 hw'
    rw [p2,p3]; exact P3
 ·have eE:apE l h bs tk r=1:=by unfold apE; rw [if_neg h1,if_neg h2,if_neg h3,if_neg h4]
  have eS:apS l h bs r=bs:=by unfold apS; rw [if_neg h1,if_neg h2,if_neg h3]
  have eH:apH l h bs tk r=h:=by unfold apH; rw [if_neg h2,if_neg h4]
  have eT:apT l h tk r=tk:=by unfold apT; rw [if_neg h4]
  rw [eE,eS,eH,eT] at k
  try simp only [sS]
  exact fun hc=>⟨_,za0 hc,fun hw'=>k lv Lv F M1 N2 rows (zac.refl _) P1 noM (by omega) hm2 hw'⟩
end
theorem yfv {B n:Nat} {e:TypeId} {v:Value} {cs:List Value} {i:Nat} (ho:own M B e 1 v n cs) (hi:i≤n) (k:∀ v',sR F M 1 v' (n - i) (cs.drop i)→K v' ⟨F,M,N⟩):pv (slV 1 v (some (.int .i64 (i:Nat))) none none) K ⟨F,M,N⟩:=by
 rcases ho.2 with ⟨rfl,h0⟩ | ⟨b,c,rest,rfl,h1,h2,h3,h4⟩
 ·subst h0
  have:i=0:=by omega
  subst this
  refine zrx 0 0 0 (Nat.le_refl _) (Nat.le_refl _) (Nat.le_refl _) ?_ (h4:=fun _=>⟨rfl,Nat.le_refl _⟩)
  exact k _ ⟨by simp [ho.1],.inl ⟨_,_,rfl,rfl⟩⟩
 ·refine zgu i hi h1 ?_
  refine k _ ⟨by rw [List.length_drop,ho.1]; omega,?_⟩
  by_cases hc:c=i
  ·exact .inl ⟨_,_,by rw [show n - i=0 by omega],by omega⟩
  ·rw [if_neg hc]
   refine .inr ⟨b,0+i*1,c - i,cs++rest,rfl,by omega,.inr ⟨_,_,h4⟩,?_⟩
   have hl:=ho.1
   rw [Nat.zero_add,Nat.mul_one,Nat.mul_one,List.drop_append_of_le_length (by omega),List.take_append_of_le_length (by rw [List.length_drop]; omega),List.take_of_length_le (by rw [List.length_drop]; omega)]
section
variable {B p g:Nat} {dv lv Lv:Value} {rows:List (List Value)} {l:List Dm} {h:List En} {bs:Bts} {tk:Int}
theorem zzy {kd:IntKind} {a:List Int} {n:Nat}:(ick kd a).drop n=ick kd (a.drop n):=by simp [ick,List.map_drop]
set_option maxRecDepth 10000 in
set_option maxHeartbeats 4000000 in
theorem ycq (P:zd0 F M B p g dv lv Lv rows l h bs tk) (nd:(bs.map (·.1)).Nodup) (hbl:bs.length≤1000000)
  (k:∀ v' (ws:List Int) F' N',(Hp.mk F' M N').wf→zac F F'→N≤N'→zju bs ws→sF F' 1 v' ws.length (ick .u32 ws)→K v' ⟨F',M,N'⟩) :
  za2 Tryz.prog (.func (.func 57) #[] #[]) #[.pointer (some ⟨p,0,none⟩)] K E ⟨F,M,N⟩:=by
 refine za3 mixed Tryz.func57 (by kernel_rfl) (t57 _ E _) (fun hw=>?_)
 have hm:za7 M N:=hw.m
 have hpl:=P.lt hm
 refine zu8 (σ:=Value×Nat) (fun s=>s.1) (fun s=>.int .i64 (s.2:Nat))
  (fun s h'=>∃ (M':Nat→Option zak) (N':Nat) (out:List Int),h'=⟨F,M',N'⟩∧N≤N'∧(∀ q,q<N→M' q=M q)∧za7 M' N'∧s.2≤bs.length∧own M' N 30 1 s.1 out.length (ick .u32 out)∧zlj out∧(∀ x,x∈out↔∃ j,∃ hj:j<bs.length,j<s.2∧bs[j].1=x∧bs[j].2.st=1)∧out.length≤s.2) (fun s=>bs.length - s.2) (.slice none 0 0,0) rfl rfl
  (fun hw1=>⟨_,za0 hw1,M,N,[],rfl,Nat.le_refl _,fun _ _=>rfl,hm,Nat.zero_le _,own.nil,List.Pairwise.nil,fun x=>⟨fun hx=>by simp at hx,fun ⟨j,_,hj,_⟩=>absurd hj (by simp only; omega)⟩,Nat.le_refl _⟩) (fun kk s j h1 hI hw1 next=>?_)
 rw [zv1]
 obtain ⟨M1,N1,out,rfl,hN1,hM1,hm1,hi1,ho1,hrs,hmem,hol⟩:=hI
 have P1:zd0 F M1 B p g dv lv Lv rows l h bs tk:=P.keep (zac.refl _) (fun q hq=>hM1 q (hpl q hq).2)
 try simp only [sS]
 refine ldM (v:=Lv) ?_ P1.pp
 refine zaa P1.lenL ?_
 refine zaf (fun hlt2=>?_) (fun hge2=>?_)
 ·have i2:s.2<bs.length:=by omega
  obtain ⟨b,c,r,cs,tot,e,hMb,hR,hrl,_,hj,hle⟩:=zmw P1.oo P1.rr i2
  obtain ⟨nv,fv,rfl,_,_⟩:=hR
  have h0:=hj 0 (by decide)
  have h1:=hj 1 (by decide)
  have hbN:b<N:=by have := (hpl b (.inr (.inr (by rw [e]; rfl)))).2; omega
  try simp only [sS]
  refine ldM (v:=Lv) ?_ P1.pp
  rw [e]
  refine zbz i2 ?_
  try simp only [sS]
  refine ldM (v:=.int .u8 bs[s.2].2.st) ?_ hMb (by simpa using h1)
  refine zc9 (fun hne=>?_) (fun hst=>?_)
  ·try simp only [sS]
   rw [zgv]
   refine zai (by omega) ?_
   refine next (s.1,s.2+1) _ _ (by simp only; omega) (fun hw3=>⟨_,za0 hw3,M1,N1,out,rfl,hN1,hM1,hm1,i2,ho1,hrs,fun x=>?_,by simp only; omega⟩)
   rw [hmem]
   constructor
   ·rintro ⟨j,hj,h1,h2⟩; exact ⟨j,hj,by simp only; omega,h2⟩
   ·rintro ⟨j,hj,h1,h2,h3⟩
    refine ⟨j,hj,?_,h2,h3⟩
    rcases Nat.lt_or_ge j s.2 with q | q
    ·exact q
    ·have:j=s.2:=by simp only at h1; omega
     subst this; exact absurd h3 hne
  ·have hst':bs[s.2].2.st=1:=by omega
   try simp only [sS]
   refine zhu (σ:=Value×Nat) (fun s=>s.1) (fun s=>.int .i64 (s.2:Nat))
    (fun z h'=>∃ M' N',h'=⟨F,M',N'⟩∧N1≤N'∧(∀ q,q<N1→M' q=M1 q)∧za7 M' N'∧z.2≤out.length∧own M' N1 30 1 z.1 z.2 (ick .u32 (out.take z.2))∧∀ j (hj:j<out.length),j<z.2→out[j]<bs[s.2].1) (fun z=>out.length - z.2) (.slice none 0 0,0) rfl rfl
    (fun hw3=>⟨_,za0 hw3,M1,N1,rfl,Nat.le_refl _,fun _ _=>rfl,hm1,Nat.zero_le _,by simpa [ick] using (own.nil (M:=M1) (B:=N1) (e:=30) (sz:=1)),fun j _ hj=>absurd hj (by simp only; omega)⟩) (fun kk2 z j2 h3 hI2 hw3 next2=>?_)
   rw [zhq]
   obtain ⟨M3,N3,rfl,hN3,hM3,hm3,hz3,ho3,hlow⟩:=hI2
   have P3:zd0 F M3 B p g dv lv Lv rows l h bs tk:=P1.keep (zac.refl _) (fun q hq=>hM3 q (by have := (hpl q hq).2; omega))
   have hMb3:=(hM3 b (by omega)).trans hMb
   have ho13:own M3 N 30 1 s.1 out.length (ick .u32 out):=ho1.keep (fun q hq=>hM3 q (ho1.lt hm1 q hq)) (Nat.le_refl _)
   have hlo:za9 s.1=some (.int .i64 (out.length:Nat)):=by obtain ⟨a,c,e,_⟩:=ho1.form; rw [e]; rfl
   have tail:(∀ j (hj:j<out.length),z.2≤j→bs[s.2].1<out[j])→∀ {j':Nat→Value} {M5:Nat→Option zak} {N5:Nat} {v5:Value},(∀ q,q<N1→M5 q=M1 q)→N1≤N5→za7 M5 N5→own M5 N1 30 1 v5 (z.2+1+(out.length - z.2)) (ick .u32 (out.take z.2++(bs[s.2].1::out.drop z.2))) →
     (∃ (M':Nat→Option zak) (N':Nat) (out':List Int),(Hp.mk F M5 N5)=⟨F,M',N'⟩∧N≤N'∧(∀ q,q<N→M' q=M q)∧za7 M' N'∧s.2+1≤bs.length∧own M' N 30 1 v5 out'.length (ick .u32 out')∧zlj out'∧(∀ x,x∈out'↔∃ j,∃ hj:j<bs.length,j<s.2+1∧bs[j].1=x∧bs[j].2.st=1)∧out'.length≤s.2+1):=fun hup {j' M5 N5 v5} hM5 hN5 hm5 ho5=>by
    have hlen:(out.take z.2++(bs[s.2].1::out.drop z.2)).length=out.length+1:=by rw [List.length_append,List.length_cons,List.length_take,List.length_drop]; omega
    refine ⟨M5,N5,out.take z.2++(bs[s.2].1::out.drop z.2),rfl,by omega,fun q hq=>(hM5 q (by omega)).trans (hM1 q hq),hm5,i2,?_,?_,fun x=>?_,by omega⟩
    ·rw [hlen,show out.length+1=z.2+1+(out.length - z.2) by omega]
     exact ho5.keep (fun _ _=>rfl) (by omega)
    ·have key:=List.pairwise_iff_getElem.1 hrs
     refine List.pairwise_append.2 ⟨hrs.sublist (List.take_sublist _ _),List.pairwise_cons.2 ⟨fun y hy=>?_,hrs.sublist (List.drop_sublist _ _)⟩,fun x hx y hy=>?_⟩
     ·obtain ⟨j,hj,rfl⟩:=List.mem_iff_getElem.1 hy
      rw [List.getElem_drop]
      exact hup _ _ (by omega)
     ·obtain ⟨j,hj,rfl⟩:=List.mem_iff_getElem.1 hx
      rw [List.length_take] at hj
      rw [List.getElem_take]
      rcases List.mem_cons.1 hy with rfl | hy
      ·exact hlow j (by omega) (by omega)
      ·obtain ⟨j3,hj3,rfl⟩:=List.mem_iff_getElem.1 hy
       rw [List.getElem_drop]
       rw [List.length_drop] at hj3
       exact key j (z.2+j3) (by omega) (by omega) (by omega)
    ·have hx:x∈out.take z.2++(bs[s.2].1::out.drop z.2)↔x=bs[s.2].1∨x∈out:=by
      rw [List.mem_append,List.mem_cons]
      constructor
      ·rintro (q | q | q)
       ·exact .inr (List.mem_of_mem_take q)
       ·exact .inl q
       ·exact .inr (List.mem_of_mem_drop q)
      ·rintro (q | q)
       ·exact .inr (.inl q)
       ·have := List.take_append_drop z.2 out
        rw [← this,List.mem_append] at q
        rcases q with q | q
        ·exact .inl q
        ·exact .inr (.inr q)
     rw [hx,hmem]
     constructor
     ·rintro (q | ⟨j,hj,h1,h2⟩)
      ·exact ⟨s.2,i2,by omega,q.symm,hst'⟩
      ·exact ⟨j,hj,by omega,h2⟩
     ·rintro ⟨j,hj,h1,h2,h3⟩
      rcases Nat.lt_or_ge j s.2 with q | q
      ·exact .inr ⟨j,hj,q,h2,h3⟩
      ·have:j=s.2:=by omega
       subst this; exact .inl h2.symm
   refine zaa hlo ?_
   refine zaf (fun hk=>?_) (fun hk=>?_)
   ·have k2:z.2<out.length:=by omega
    try simp only [sS]
    refine zk0 ho13 k2 (fun p5=>?_)
    try simp only [sS]
    refine ldM (v:=Lv) ?_ P3.pp
    rw [e]
    refine zbz i2 ?_
    try simp only [sS]
    refine ldM (v:=.int .u32 bs[s.2].1) ?_ hMb3 (by simpa using h0)
    refine zaf (fun hl=>?_) (fun hl=>?_)
    ·try simp only [sS]
     refine zk0 ho13 k2 (fun p6=>?_)
     refine zcq (new:=[.int .u32 out[z.2]]) ho3 hm3 (by omega) (by kernel_rfl) rfl (List.all_eq_true.1 rfl) (by omega) (by unfold maxLen; omega) (fun p7 v7 M7 N7 ho7 hfr7 hN7 hm7=>?_)
     refine zai (by omega) ?_
     refine next2 (v7,z.2+1) _ _ (by simp only; omega) (fun hw7=>⟨_,za0 hw7,M7,N7,rfl,by omega,fun q hq=>?_,hm7,k2,?_,fun j hj hjz=>?_⟩)
     ·exact ((hfr7 q (fun e=>by have := (ho3.ge q e).1; omega) (by omega)).1).trans (hM3 q hq)
     ·have e7:ick .u32 (out.take z.2)++[Value.int .u32 out[z.2]]=ick .u32 (out.take (z.2+1)):=by
       rw [List.take_succ_eq_append_getElem k2]; unfold ick; rw [List.map_append]; rfl
      rw [← e7]; exact ho7
     ·by_cases hje:j=z.2
      ·subst hje; exact hl
      ·exact hlow j hj (by simp only at hjz; omega)
    ·have hup:∀ j (hj:j<out.length),z.2≤j→bs[s.2].1<out[j]:=fun j hj hzj=>by
      have hne:out[z.2]≠bs[s.2].1:=fun e0=>by
       obtain ⟨j0,hj0,q1,q2,_⟩:=(hmem _).1 (List.getElem_mem k2)
       exact List.pairwise_iff_getElem.1 nd j0 s.2 (by simpa using hj0) (by simpa using i2) q1 (by simp only [List.getElem_map]; rw [q2,e0])
      have key:=List.pairwise_iff_getElem.1 hrs
      by_cases hje:j=z.2
      ·subst hje; omega
      ·have := key z.2 j k2 hj (by omega); omega
     try simp only [sS]
     refine ldM (v:=Lv) ?_ P3.pp
     rw [e]
     refine zbz i2 ?_
     try simp only [sS]
     refine ldM (v:=.int .u32 bs[s.2].1) ?_ hMb3 (by simpa using h0)
     refine zcq (new:=[.int .u32 bs[s.2].1]) ho3 hm3 (by omega) (by kernel_rfl) rfl (List.all_eq_true.1 rfl) (by omega) (by unfold maxLen; omega) (fun p7 v7 M7 N7 ho7 hfr7 hN7 hm7=>?_)
     have hM7:∀ q,q<N1→M7 q=M1 q:=fun q hq=>((hfr7 q (fun e=>by have := (ho3.ge q e).1; omega) (by omega)).1).trans (hM3 q hq)
     have ho17:own M7 N 30 1 s.1 out.length (ick .u32 out):=ho1.keep (fun q hq=>hM7 q (ho1.lt hm1 q hq)) (Nat.le_refl _)
     refine yfv ho17 (by omega) (fun v8 h8=>?_)
     rw [zzy] at h8
     refine ho7.app hm7 (by omega) h8 (zg5 _) (by omega) (by unfold maxLen; omega) (fun v9 M9 N9 ho9 hfr9 hN9 hm9=>?_)
     have hM9:∀ q,q<N1→M9 q=M1 q:=fun q hq=>((hfr9 q (fun e=>by have := (ho7.ge q e).1; omega) (by omega)).1).trans (hM7 q hq)
     rw [zgv]
     refine zai (by omega) ?_
     have e9:ick .u32 (out.take z.2)++[Value.int .u32 bs[s.2].1]++ick .u32 (out.drop z.2)=ick .u32 (out.take z.2++(bs[s.2].1::out.drop z.2)):=by simp [ick]
     rw [e9] at ho9
     exact next (v9,s.2+1) _ _ (by simp only; omega) (fun hw9=>⟨_,za0 hw9,tail hup (j':=j) hM9 (by omega) hm9 ho9⟩)
   ·have hup:∀ j (hj:j<out.length),z.2≤j→bs[s.2].1<out[j]:=fun j hj hzj=>absurd hzj (by omega)
    try simp only [sS]
    refine ldM (v:=Lv) ?_ P3.pp
    rw [e]
    refine zbz i2 ?_
    try simp only [sS]
    refine ldM (v:=.int .u32 bs[s.2].1) ?_ hMb3 (by simpa using h0)
    refine zcq (new:=[.int .u32 bs[s.2].1]) ho3 hm3 (by omega) (by kernel_rfl) rfl (List.all_eq_true.1 rfl) (by omega) (by unfold maxLen; omega) (fun p7 v7 M7 N7 ho7 hfr7 hN7 hm7=>?_)
    have hM7:∀ q,q<N1→M7 q=M1 q:=fun q hq=>((hfr7 q (fun e=>by have := (ho3.ge q e).1; omega) (by omega)).1).trans (hM3 q hq)
    have ho17:own M7 N 30 1 s.1 out.length (ick .u32 out):=ho1.keep (fun q hq=>hM7 q (ho1.lt hm1 q hq)) (Nat.le_refl _)
    refine yfv ho17 (by omega) (fun v8 h8=>?_)
    rw [zzy] at h8
    refine ho7.app hm7 (by omega) h8 (zg5 _) (by omega) (by unfold maxLen; omega) (fun v9 M9 N9 ho9 hfr9 hN9 hm9=>?_)
    have hM9:∀ q,q<N1→M9 q=M1 q:=fun q hq=>((hfr9 q (fun e=>by have := (ho7.ge q e).1; omega) (by omega)).1).trans (hM7 q hq)
    rw [zgv]
    refine zai (by omega) ?_
    have e9:ick .u32 (out.take z.2)++[Value.int .u32 bs[s.2].1]++ick .u32 (out.drop z.2)=ick .u32 (out.take z.2++(bs[s.2].1::out.drop z.2)):=by simp [ick]
    rw [e9] at ho9
    exact next (v9,s.2+1) _ _ (by simp only; omega) (fun hw9=>⟨_,za0 hw9,tail hup (j':=j) hM9 (by omega) hm9 ho9⟩)
 ·try simp only [sS]
  refine fun hc=>⟨_,zb7 hm hM1 hc,fun hw'=>k s.1 out _ _ hw' (zag hc) (by omega) ⟨hrs,fun x=>?_⟩ (ho1.rd.frz hc (fun b e=>.inl (by have := (ho1.ge b e).1; omega)))⟩
  rw [hmem]
  constructor
  ·rintro ⟨j,hj,_,h2,h3⟩
   have hg:=zmm nd hj h2
   exact ⟨zek.2 ⟨_,List.getElem_mem hj,h2⟩,decide_eq_true (by rw [hg]; exact h3)⟩
  ·rintro ⟨h1,h2⟩
   obtain ⟨y,hy,e⟩:=zek.1 h1
   obtain ⟨j,hj,rfl⟩:=List.mem_iff_getElem.1 hy
   have hg:=zmm nd hj e
   have h3:=of_decide_eq_true h2
   rw [hg] at h3
   exact ⟨j,hj,by omega,e,h3⟩
end
theorem ydh {u v:Value} {a:List Int} (hu:sF F 1 u a.length (ic a)) (hv:sF F 1 v a.length (ic a)) (hla:a.length≤100000000000000) (k:(Hp.mk F M N).wf→K (.bool true) ⟨F,M,N⟩) :
  za2 Tryz.prog (.func (.func 60) #[] #[]) #[u,v] K E ⟨F,M,N⟩:=by
 refine za3 mixed Tryz.func60 (by kernel_rfl) (t60 _ E _ _) (fun hw=>?_)
 refine zam hu ?_
 refine zam hv ?_
 refine zit rfl ?_
 try simp only [sS]
 refine zup (σ:=Nat) (fun s=>.int .i64 (s:Nat)) (fun i h'=>h'=⟨F,M,N⟩∧i≤a.length) (fun i=>a.length - i) 0 rfl
  (fun hw11=>⟨_,za0 hw11,rfl,Nat.zero_le _⟩) (fun kk2 i j2 h11 hI2 hw11 next2=>?_)
 rw [zt8]
 obtain ⟨rfl,hi11⟩:=hI2
 refine zam hu ?_
 refine zaf (fun hlt2=>?_) (fun hge2=>?_)
 ·have i2:i<a.length:=by omega
  try simp only [sS]
  refine zla (k:=.i64) hu i2 (fun p11=>?_)
  refine zla (k:=.i64) hv i2 (fun p12=>?_)
  refine zit rfl ?_
  try simp only [sS]
  refine zai (by omega) ?_
  exact next2 (i+1) _ _ (by omega) (fun hw13=>⟨_,za0 hw13,rfl,i2⟩)
 ·try simp only [sS]
  exact fun hc=>⟨_,za0 hc,fun hw'=>k hw'⟩
section
variable {B p g:Nat} {dv lv Lv:Value} {rows:List (List Value)} {l:List Dm} {h:List En} {bs:Bts} {tk:Int}
def okS (bs:Bts):Prop:=∀ id,(zaw bs id).st≤3∧((zaw bs id).st≠1→(zaw bs id).ns=[])
theorem okS.nil:okS []:=fun id=>⟨by simp [zaw,Bt.no],fun _=>by simp [zaw,Bt.no]⟩
theorem okS.set {bs:Bts} (o:okS bs) (nd:(bs.map (·.1)).Nodup) {id:Int} {b:Bt} (h1:b.st≤3) (h2:b.st≠1→b.ns=[]):okS (zdw bs id b):=fun i=>by
 rw [zsd nd]
 split
 ·exact ⟨h1,h2⟩
 ·exact o i
theorem okS.ap {l:List Dm} {h:List En} {bs:Bts} (o:okS bs) (nd:(bs.map (·.1)).Nodup) (r:zcw):okS (apS l h bs r):=by
 unfold apS ppS cmS abS
 split
 ·split
  ·exact o.set nd (by simp) (by simp)
  ·exact o
 ·split
  ·split
   ·exact o.set nd (by simp) (by simp)
   ·exact o
  ·split
   ·split
    ·exact o
    ·exact o.set nd (by simp) (by simp)
   ·exact o
theorem yh0 {id:Int} (P:zd0 F M B p g dv lv Lv rows l h bs tk) (nd:(bs.map (·.1)).Nodup) (hbl:bs.length≤1000000) (o:okS bs) (hl:(zaw bs id).ns.length≤17592186043904)
  (k:∀ v' F' N',(Hp.mk F' M N').wf→zac F F'→N≤N'→sF F' 1 v' (zaw bs id).ns.length (ic (zaw bs id).ns)→K v' ⟨F',M,N'⟩) :
  za2 Tryz.prog (.func (.func 62) #[] #[]) #[.pointer (some ⟨p,0,none⟩),.int .u32 id] K E ⟨F,M,N⟩:=by
 refine za3 mixed Tryz.func62 (by kernel_rfl) (t62 _ E _ _) (fun hw=>?_)
 have hm:za7 M N:=hw.m
 have none_:(zaw bs id).st≠1→(fun v h=>h.wf→∃ h',Hp.wk h h'∧(h'.wf→K v h')) (.slice none 0 0) ⟨F,M,N⟩:=fun hs hc=>⟨_,za0 hc,fun hw'=>k _ F N hw' (zac.refl _) (Nat.le_refl _) (by rw [(o id).2 hs]; exact sF.nil _ _ _)⟩
 refine zpj P hbl (fun hno hw1=>?_) (fun i hi he hw1=>?_)
 ·refine zh0 (by decide) ?_
  try simp only [sS]
  exact none_ (by rw [yc5 hno]; decide)
 ·refine zh2 (by omega) ?_
  try simp only [sS]
  refine ldM (v:=Lv) ?_ P.pp
  obtain ⟨b,c,rr,cs',tot,e,hMb,hR,hrl,_,hj,hle⟩:=zmw P.oo P.rr hi
  have hgb:=zmm nd hi he
  obtain ⟨nv',fv',rfl,hn',hf'⟩:=hR
  have h1:=hj 1 (by decide)
  have h3:=hj 3 (by decide)
  rw [← hgb] at h1 hn'
  have eL:=e
  rw [e]
  refine zbz hi ?_
  try simp only [sS]
  refine ldM (v:=.int .u8 (zaw bs id).st) ?_ hMb (by simpa using h1)
  refine zc9 (fun hne=>?_) (fun hst=>?_)
  ·try simp only [sS]
   exact none_ hne
  ·try simp only [sS]
   refine ldM (v:=Lv) ?_ P.pp
   rw [eL]
   refine zbz hi ?_
   try simp only [sS]
   refine ldM (v:=nv') ?_ hMb (by simpa using h3)
   refine own.app (B:=N) own.nil hm (Nat.le_refl _) hn'.sR (zg5 _) (by omega) (by simp [maxLen]; omega) (fun nv4 M4 N4 ho4 hfr4 hN4 hm4=>?_)
   have hM4:∀ q,q<N→M4 q=M q:=fun q hq=>(hfr4 q (by simp [Value.ownBlock]) hq).1
   rw [Nat.zero_add,List.nil_append] at ho4
   exact fun hc=>⟨_,zb7 hm hM4 hc,fun hw'=>k nv4 _ _ hw' (zag hc) (by omega) (ho4.rd.frz hc (fun b e=>.inl (by have := (ho4.ge b e).1; omega)))⟩
theorem yo3 {D:List Int} {cs:List Value} {t:Int} {m lo hi:List Int} (P:zd0 F M B p g dv lv Lv rows l h bs tk) (o:okP l D h bs) (hD:D.length≤12) (hgd:zdb l) (hq:zfa F cs m lo hi) (hmi:∀ x∈m,i64 x)
  (k:∀ v' F' N',(Hp.mk F' M N').wf→zac F F'→N≤N'→zbt F' v' (zje l h bs t m lo hi).1→K (.tuple #[v',.int .i64 (((zje l h bs t m lo hi).2:Nat):Int)]) ⟨F',M,N'⟩) :
  za2 Tryz.prog (.func (.func 63) #[] #[]) #[.pointer (some ⟨p,0,none⟩),.agg cs.toArray,.int .u32 t] K E ⟨F,M,N⟩:=by
 refine za3 mixed Tryz.func63 (by kernel_rfl) (t63 _ E _ _ _) (fun hw=>?_)
 have hm:za7 M N:=hw.m
 have hl4:=hgd.2.1
 have hbl:bs.length≤1000000:=by have := o.len; omega
 refine zal (cs:=cs) (fun b1 hb1=>?_) rfl
 have hb:=za5 M b1 (some (.cells 55 cs cs.length))
 have P1:=P.box hm hb1 (some (.cells 55 cs cs.length))
 have hsub:∀ {F':Nat→Option (List Value)} {N':Nat},(Hp.mk F' (upd M b1 (some (.cells 55 cs cs.length))) N').wf→(Hp.mk F' (upd M b1 (some (.cells 55 cs cs.length))) N').wk ⟨F',M,N'⟩:=fun hc=>zbp hc (zav (zb6 _) (hm _ hb1))
 generalize upd M b1 _=M1 at *
 refine ycq P1 o.nd hbl (fun v2 ws F2 N2 hw2 hF2 hN2 hws hsw=>?_)
 refine zam hsw ?_
 refine zbu (fun h0=>?_) (fun h0=>?_)
 ·have eq:=yaz (l:=l) (h:=h) (t:=t) (m:=m) (lo:=lo) (hi:=hi) hws (by omega)
  rw [eq] at k
  try simp only [sS]
  exact fun hc=>⟨_,hsub hc,fun hw'=>k _ F2 N2 hw' hF2 (by omega) zbt.nil⟩
 ·have e0:ws=[]:=List.eq_nil_of_length_eq_zero (by omega)
  subst e0
  have eq:zje l h bs t m lo hi=(zft l (tab ((ze3 h (zca h t)).map fr1)) m lo hi,ze9 l (tab ((ze3 h (zca h t)).map fr1)) m lo hi):=if_pos hws
  rw [eq,zlm o.oh.rs] at k
  have htab:=o.oh.tabP hgd t
  rw [zlm o.oh.rs] at htab
  try simp only [sS]
  refine ldM (v:=.pointer (some ⟨g,0,none⟩)) ?_ P1.pp
  have hq2:=hq
  obtain ⟨a,b,c,e,_⟩:=hq2
  subst e
  refine zas ?_ hb
  refine yik (P1.cc.keep hF2 rfl) (by omega) o.oh.le o.oh.totalP (o.oh.okKP hgd) (hq.mono hF2) hmi htab (fun v3 F3 N3 hw3 hF3 hN3 ht=>?_)
  try simp only [sS]
  exact fun hc=>⟨_,hsub hc,fun hw'=>k v3 F3 N3 hw' (hF2.trans hF3) (by omega) ht⟩
end
end Go.Proofs.YtgcmbkoejjcjlaaGreatDoor.A
open Go Go.RowKit Go.Proofs.YtgcmbkoejjcjlaaGreatDoor.K
set_option linter.unusedVariables false
set_option maxRecDepth 100000
namespace Go.Proofs.YtgcmbkoejjcjlaaGreatDoor.T
section
variable (K:zae) (E:zat) (k1 k2 k3 k4 k5:Env→Hp→Prop) (x0 x1 x2 x3 x4 x5 x6 x7 x8 x9 x10 x11 x12 x13 x14 x15 x16 x17 x18 x19 x20 x21 x22 x23 x24 x25 x26 x27 x28 x29 x30 x31 x32 x33 x34 x35 x36 x37 x38 x39 x40 x41 x42 x43 x44 x45 x46 x47 x48 x49 x50 x51 x52 x53 x54 x55 x56 x57 x58 x59 x60 x61 x62 x63 x64 x65 x66 x67 x68 x69 x70 x71 x72 x73 x74 x75 x76 x77 x78 x79 x80 x81 x82 x83 x84 x85 x86 x87 x88 x89 x90 x91 x92 x93 x94 v0 v1 v2 v3 v4 v5 v6 v7 v8 v9 v10 v11 v12 v13 v14 v15 v16 v17 v18 v19 v20 v21 v22 v23 v24 v25 v26 v27 v28 v29 v30 v31 v32 v33 v34 v35 v36 v37 v38 v39 v40 v41 v42 v43 v44 v45 v46 v47 v48 v49 v50 v51 v52 v53 v54 v55 v56 v57 v58 v59 v60 v61 v62 v63 v64 v65 v66 v67 v68 v69 v70 v71 v72 v73 v74 v75 v76 v77 v78 v79 v80 v81 v82 v83 v84 v85 v86 v87 v88 v89 v90 v91 v92 v93 v94:Value) (j:Nat→Value)
abbrev q9:QD:=zab Tryz.prog Tryz.f9.results.toList K E
abbrev d9 (p:List Nat):QD→Env→Hp→Prop:=den Tryz.prog (sel (za8 Tryz.f9) p)
abbrev ydb:=za6 k1 (blk 0 (za6 (d9 [1,1,1,1,1,1,1,1] (q9 K E)) (q9 K E)))
def zc0 (j:Nat→Value):Env:=#[x0,x1,x2,x3,x4,x5,x6,x7,x8,x9,x10,x11,(j 12),x13,x14,x15,x16,v17,(j 18),x19,x20,x21,x22,x23,x24,x25,x26,x27,x28,x29,x30,x31,x32,x33,x34,x35,x36,x37,x38,x39,x40,x41,x42,x43,x44,x45,x46,x47,x48,(j 49),(j 50),(j 51),(j 52),(j 53),(j 54),(j 55),(j 56),(j 57),(j 58),(j 59),(j 60),(j 61),(j 62),(j 63),(j 64),(j 65),(j 66),(j 67),(j 68),(j 69),(j 70),(j 71),(j 72),(j 73),(j 74),(j 75),(j 76),(j 77),(j 78),(j 79),(j 80),(j 81),(j 82),(j 83),(j 84),(j 85),(j 86),(j 87),(j 88),(j 89),(j 90),(j 91),(j 92),(j 93),(j 94)]
theorem t9:d9 [] (q9 K E) #[x0,x1,x2,x3,x4,x5,U,U,U,U,U,U,U,U,U,U,U,U,U,U,U,U,U,U,U,U,U,U,U,U,U,U,U,U,U,U,U,U,U,U,U,U,U,U,U,U,U,U,U,U,U,U,U,U,U,U,U,U,U,U,U,U,U,U,U,U,U,U,U,U,U,U,U,U,U,U,U,U,U,U,U,U,U,U,U,U,U,U,U,U,U,U,U,U,U] =
 pv (za9 x1) fun t1=>
 pv (za1 .none .gtr t1 (.int .i64 30)) fun t2=>
 gdK t2 false (fun k=>k x1) fun t3=>
 gdK t2 false (fun k=>za2 Tryz.prog (.func (.func 10) #[] #[]) #[t3] k E) fun t4=>
 gdK t2 false (fun k=>pv (za1 .none .gtr t4 (.int .i64 500)) k) fun t5=>
 pv (zah t2 (.bool true) t5) fun t6=>
 gdK t6 false (fun k=>za2 Tryz.prog (.func (.func 11) #[] #[]) #[] k E) fun t7=>
 gdK t6 false (fun k=>pv (unV .not t7) k) fun t8=>
 pv (zah t6 (.bool true) t8) fun t9=>
 cnd t9 (
  za2 Tryz.prog (.func (.func 11) #[] #[]) #[] (fun t10=>
  K t10) E) (
  za2 Tryz.prog (.func (.func 12) #[] #[]) #[x0] (fun t11=>
  za2 Tryz.prog (.func (.func 13) #[] #[]) #[t11] (fun t12=>
  za2 Tryz.prog (.func (.func 25) #[] #[]) #[t11] (fun t13=>
  pv (za1 .ptr .eql t12 (.pointer none)) fun t14=>
  gdK t14 false (fun k=>k t13) fun t15=>
  gdK t14 false (fun k=>pv (za1 .ptr .eql t15 (.pointer none)) k) fun t16=>
  pv (zah t14 (.bool true) t16) fun t17=>
  cnd t17 (
  K (.bool false)) (
  za2 Tryz.prog (.func (.func 17) #[] #[]) #[t11,x2,x3,x4] (fun t18=>
  nw 55 [(.slice none 0 0),(.slice none 0 0),(.slice none 0 0)] fun t19=>
  st 3 t19 t18 fun _=>
  lp (fun k1=>d9 [1,1,1,1,1,1,1,0,1,0,0] (ydb K E k1)) (zc0 x0 x1 x2 x3 x4 x5 U U U U U U t11 t12 t13 t19 x1 t1 t2 t2 t3 t4 t5 t6 t6 t7 t8 t9 U x0 t11 t11 t12 t11 t13 t12 t14 t14 t15 t16 t17 t11 x2 x3 x4 t18 (.int .i64 0) (jf #[U,U,U,U,U,U,U,U,U,U,U,U,(.bool false)]))) E)) E) E) E):=by kernel_rfl
theorem zkp:d9 [1,1,1,1,1,1,1,0,1,0,0] (ydb K E k1) (zc0 x0 x1 x2 x3 x4 x5 x6 x7 x8 x9 x10 x11 x13 x14 x15 x16 x19 x20 x21 x22 x23 x24 x25 x26 x27 x28 x29 x30 x31 x32 x33 x34 x35 x36 x37 x38 x39 x40 x41 x42 x43 x44 x45 x46 x47 x48 v17 j) =
 pv (za9 x1) fun t1=>
 pv (za1 .none .lss v17 t1) fun t2=>
 cnd t2 (
  pv (iaV none 8 x1 v17) fun t3=>
  ld true 8 t3 fun t4=>
  za2 Tryz.prog (.func (.func 15) #[] #[]) #[x13,t4] (fun t5=>
  nw 44 [(.int .u8 0),(.int .u32 0),(.int .u32 0),(.slice none 0 0),(.slice none 0 0),(.int .u32 0),(.slice none 0 0),(.int .i64 0),(.int .i64 0),(.slice none 0 0)] fun t6=>
  st 10 t6 t5 fun _=>
  ld true 10 t6 fun t7=>
  ld true 10 t6 fun t8=>
  za2 Tryz.prog (.func (.func 14) #[] #[]) #[x14,t7] (fun t9 h10=>(ldV h10 true 10 t6 t8)∧(
  pv (cvV .i64 t9) fun t11=>
  za2 Tryz.prog (.func (.func 26) #[] #[]) #[x15,t8] (fun t12=>
  pv (za1 .none .neq t11 t12) fun t13=>
  gdK t13 false (fun k=>k x14) fun t14=>
  gdK t13 false (fun k=>pv (zan t14) k) fun t15=>
  gdK t13 false (fun k=>pv (faV 0 t15) k) fun t16=>
  gdK t13 false (fun k=>ld false 1 t16 k) fun t17=>
  gdK t13 false (fun k=>pv (faV 4 t6) k) fun t18=>
  gdK t13 false (fun k=>ld false 1 t18 k) fun t19=>
  gdK t13 false (fun k=>k x15) fun t20=>
  gdK t13 false (fun k=>pv (zan t20) k) fun t21=>
  gdK t13 false (fun k=>pv (faV 0 t21) k) fun t22=>
  gdK t13 false (fun k=>ld false 1 t22 k) fun t23=>
  gdK t13 false (fun k=>pv (faV 4 t6) k) fun t24=>
  gdK t13 false (fun k=>ld false 1 t24 k) fun t25=>
  gdK t13 false (fun k=>za2 Tryz.prog (.func (.func 27) #[] #[]) #[t17,t19] k E) (fun t26 h27=>(isB t13 false=true→ldV h27 false 1 t24 t25)∧(isB t13 false=true→ldV h27 false 1 t22 t23)∧(
   gdK t13 false (fun k=>za2 Tryz.prog (.func (.func 28) #[] #[]) #[t23,t25] k E) fun t28=>
   gdK t13 false (fun k=>pv (za1 .bool .neq t26 t28) k) fun t29=>
   pv (zah t13 (.bool true) t29) fun t30=>
   gdK t30 false (fun k=>k x14) fun t31=>
   gdK t30 false (fun k=>k x15) fun t32=>
   gdK t30 false (fun k=>ld true 3 x16 k) fun t33=>
   gdK t30 false (fun k=>k x5) fun t34=>
   gdK t30 false (fun k=>pv (za1 .none .rem t34 (.int .u32 40)) k) fun t35=>
   gdK t30 false (fun k=>za2 Tryz.prog (.func (.func 29) #[] #[]) #[t31,t32,t33,t35] k E) fun t36=>
   gdK t30 false (fun k=>pv (za1 .none .eql t36 (.int .i64 0)) k) fun t37=>
   pv (zah t30 (.bool true) t37) fun t38=>
   cnd t38 (
   K (.bool false)) (
   pv (za1 .none .add v17 (.int .i64 1)) fun t39=>
   k1 (zc0 x0 x1 x2 x3 x4 x5 x6 x7 x8 x9 x10 x11 x13 x14 x15 x16 x19 x20 x21 x22 x23 x24 x25 x26 x27 x28 x29 x30 x31 x32 x33 x34 x35 x36 x37 x38 x39 x40 x41 x42 x43 x44 x45 x46 x47 x48 t39 (jf #[U,U,U,U,U,U,U,U,U,U,U,U,(j 12),U,U,U,U,U,t6,U,U,U,U,U,U,U,U,U,U,U,U,U,U,U,U,U,U,U,U,U,U,U,U,U,U,U,U,U,U,v17,x1,t1,t2,v17,t39,x13,x1,v17,t3,t4,t5,x14,t7,t9,t11,x15,t8,t12,t13,t13,t14,t15,t16,t17,t18,t19,t26,t20,t21,t22,t23,t24,t25,t28,t29,t30,t30,t31,t32,t33,t34,t35,t36,t37,t38])))) h27)) E) h10) E) E) (
  K (.bool true)):=by kernel_rfl
end
section
variable {K:zae} {E:zat} {k1 k2 k3 k4 k5:Env→Hp→Prop} {σ:Type} {x0 x1 x2 x3 x4 x5 x6 x7 x8 x9 x10 x11 x12 x13 x14 x15 x16 x17 x18 x19 x20 x21 x22 x23 x24 x25 x26 x27 x28 x29 x30 x31 x32 x33 x34 x35 x36 x37 x38 x39 x40 x41 x42 x43 x44 x45 x46 x47 x48 x49 x50 x51 x52 x53 x54 x55 x56 x57 x58 x59 x60 x61 x62 x63 x64 x65 x66 x67 x68 x69 x70 x71 x72 x73 x74 x75 x76 x77 x78 x79 x80 x81 x82 x83 x84 x85 x86 x87 x88 x89 x90 x91 x92 x93 x94 v0 v1 v2 v3 v4 v5 v6 v7 v8 v9 v10 v11 v12 v13 v14 v15 v16 v17 v18 v19 v20 v21 v22 v23 v24 v25 v26 v27 v28 v29 v30 v31 v32 v33 v34 v35 v36 v37 v38 v39 v40 v41 v42 v43 v44 v45 v46 v47 v48 v49 v50 v51 v52 v53 v54 v55 v56 v57 v58 v59 v60 v61 v62 v63 v64 v65 v66 v67 v68 v69 v70 v71 v72 v73 v74 v75 v76 v77 v78 v79 v80 v81 v82 v83 v84 v85 v86 v87 v88 v89 v90 v91 v92 v93 v94:Value} {h:Hp} {j:Nat→Value}
theorem zku (f17:σ→Value) (I:σ→Hp→Prop) (μ:σ→Nat) (s0:σ) (e17:v17=f17 s0) (h0:h.wf→∃ h',h.wk h'∧I s0 h')
 (round:∀ (k1:Env→Hp→Prop) (s:σ) (j:Nat→Value) (h:Hp),I s h→h.wf→(∀ s' j' h',μ s'<μ s→(h'.wf→∃ h'',h'.wk h''∧I s' h'')→k1 (zc0 x0 x1 x2 x3 x4 x5 x6 x7 x8 x9 x10 x11 x13 x14 x15 x16 x19 x20 x21 x22 x23 x24 x25 x26 x27 x28 x29 x30 x31 x32 x33 x34 x35 x36 x37 x38 x39 x40 x41 x42 x43 x44 x45 x46 x47 x48 (f17 s') j') h')→d9 [1,1,1,1,1,1,1,0,1,0,0] (ydb K E k1) (zc0 x0 x1 x2 x3 x4 x5 x6 x7 x8 x9 x10 x11 x13 x14 x15 x16 x19 x20 x21 x22 x23 x24 x25 x26 x27 x28 x29 x30 x31 x32 x33 x34 x35 x36 x37 x38 x39 x40 x41 x42 x43 x44 x45 x46 x47 x48 (f17 s) j) h) :
 lp (fun k1=>d9 [1,1,1,1,1,1,1,0,1,0,0] (ydb K E k1)) (zc0 x0 x1 x2 x3 x4 x5 x6 x7 x8 x9 x10 x11 x13 x14 x15 x16 x19 x20 x21 x22 x23 x24 x25 x26 x27 x28 x29 x30 x31 x32 x33 x34 x35 x36 x37 x38 x39 x40 x41 x42 x43 x44 x45 x46 x47 x48 v17 j) h:=by
 subst e17
 exact zaj (fun s j=>zc0 x0 x1 x2 x3 x4 x5 x6 x7 x8 x9 x10 x11 x13 x14 x15 x16 x19 x20 x21 x22 x23 x24 x25 x26 x27 x28 x29 x30 x31 x32 x33 x34 x35 x36 x37 x38 x39 x40 x41 x42 x43 x44 x45 x46 x47 x48 (f17 s) j) I μ round s0 j h0
end
end Go.Proofs.YtgcmbkoejjcjlaaGreatDoor.T
open Go Go.RowKit Go.Proofs.YtgcmbkoejjcjlaaGreatDoor.K Go.Proofs.YtgcmbkoejjcjlaaGreatDoor.T
set_option linter.unusedVariables false
set_option linter.unusedSimpArgs false
namespace Go.Proofs.YtgcmbkoejjcjlaaGreatDoor.A
variable {F F':Nat→Option (List Value)} {M M':Nat→Option zak} {N N':Nat} {K:zae} {E:zat}
theorem yer {m d:Nat} {fs:List Fc} (h1:fs.length≤m) (h2:∀ f∈fs,f.1.length≤d):(zl8 fs).length≤4+m*(9+4*d):=by
 have key:∀ fs:List Fc,(∀ f∈fs,f.1.length≤d)→(fs.flatMap zj4).length≤fs.length*(9+4*d):=by
  intro fs
  induction fs with
  | nil=>intro _; simp
  | cons f fs ih=>
   intro hp
   have h1:=ih fun x hx=>hp x (List.mem_cons_of_mem _ hx)
   have h2:=hp f List.mem_cons_self
   have h3:(zj4 f).length=1+f.1.length*4+8:=by unfold zj4; rw [List.length_append,List.length_append,zbm,zbm,znu]; omega
   rw [List.flatMap_cons,List.length_append,List.length_cons,Nat.succ_mul]; omega
 have h3:=key fs h2
 have h4:fs.length*(9+4*d)≤m*(9+4*d):=Nat.mul_le_mul_right _ h1
 unfold zl8
 rw [List.length_append,zbm]; omega
theorem ye9 {n m d:Nat} {h:List En} (h1:h.length≤n) (h2:∀ e∈h,e.2.length≤m∧∀ f∈e.2,f.1.length≤d):(zjw h).length≤4+n*(8+m*(9+4*d)):=by
 have key:∀ h:List En,(∀ e∈h,e.2.length≤m∧∀ f∈e.2,f.1.length≤d)→(h.flatMap zjq).length≤h.length*(8+m*(9+4*d)):=by
  intro h
  induction h with
  | nil=>intro _; simp
  | cons e h ih=>
   intro hp
   have h1:=ih fun x hx=>hp x (List.mem_cons_of_mem _ hx)
   obtain ⟨h2,h3⟩:=hp e List.mem_cons_self
   have h4:=yer h2 h3
   have h5:(zjq e).length=4+(zl8 e.2).length:=by unfold zjq; rw [List.length_append,zbm]
   rw [List.flatMap_cons,List.length_append,List.length_cons,Nat.succ_mul]; omega
 have h3:=key h h2
 have h4:h.length*(8+m*(9+4*d))≤n*(8+m*(9+4*d)):=Nat.mul_le_mul_right _ h1
 unfold zjw
 rw [List.length_append,zbm]; omega
theorem okH.encP {l:List Dm} (hl:zdb l) {h:List En} (o:okH l 5000 200 h):(zjw h).length≤100000000:=by
 have h4:=hl.2.1
 have := ye9 (d:=4) o.le fun e he=>⟨o.fl e he,fun f hf=>by have := zge (o.fi e he f hf); omega⟩
 omega
theorem ym3 {x:Int} (h0:0≤x) (h1:x<65536) {k:IntKind} {h:Hp} (kk:K (.int .i64 x) h):pv (cvV .i64 (.int k x)) K h:=⟨.int .i64 x,by show some (Value.int .i64 (IntKind.i64.wrap x))=_; rw [zjo (by omega) (by omega)],kk⟩
section
variable {B p g mb B2 p2 g2:Nat} {hv dv dv2 lv Lv:Value} {rows rows2:List (List Value)} {l:List Dm} {h:List En} {bs:Bts} {tk:Int}
set_option maxRecDepth 10000 in
set_option maxHeartbeats 8000000 in
theorem ygy {D:List Int} {cs:List Value} {t:Int} {m lo hi:List Int} (hE:E [] zh4) (P:zbi F M B p g mb hv dv rows l h bs tk) (X:zd0 F M B2 p2 g2 dv2 lv Lv rows2 l h bs tk) (o:okP l D h bs) (hS:okS bs) (hD:D.length≤12) (hgd:zdb l) (hq:zfa F cs m lo hi) (hmi:∀ x∈m,i64 x)
  (k:∀ F' N',(Hp.mk F' M N').wf→zac F F'→N≤N'→K (.int .i64 1) ⟨F',M,N'⟩) :
  za2 Tryz.prog (.func (.func 29) #[] #[]) #[.pointer (some ⟨p,0,none⟩),.pointer (some ⟨p2,0,none⟩),.agg cs.toArray,.int .u32 t] K E ⟨F,M,N⟩:=by
 refine za3 mixed Tryz.func29 (by kernel_rfl) (t29 _ E _ _ _ _) (fun hw=>?_)
 have hm:za7 M N:=hw.m
 have hl4:=hgd.2.1
 have hbl:bs.length≤1000000:=by have := o.len; omega
 have h12:bs.length≤12:=Nat.le_trans o.len hD
 obtain ⟨hq3,hq1⟩:=yfq.box hq
 refine zal (cs:=cs) (fun b1 hb1=>?_) rfl
 have P1:=P.box hm hb1 (some (.cells 55 cs cs.length))
 have X1:=X.box hm hb1 (some (.cells 55 cs cs.length))
 have hb:=za5 M b1 (some (.cells 55 cs cs.length))
 have hsub:∀ {F':Nat→Option (List Value)} {N':Nat},(Hp.mk F' (upd M b1 (some (.cells 55 cs cs.length))) N').wf→(Hp.mk F' (upd M b1 (some (.cells 55 cs cs.length))) N').wk ⟨F',M,N'⟩:=fun hc=>zbp hc (zav (zb6 _) (hm _ hb1))
 generalize upd M b1 _=M1 at *
 refine zww hE P1 h12 (fun v2 ws F2 N2 hw2 hF2 hN2 hws hsw=>?_)
 refine ycq (X1.keep (M':=M1) hF2 (fun _ _=>rfl)) o.nd hbl (fun v3 ws2 F3 N3 hw3 hF3 hN3 hws2 hsw2=>?_)
 have hwe:=yfc hws2 hws
 subst hwe
 have hwl:ws2.length≤12:=by
  have n3:ws2.Nodup:=hws.1.imp (fun {x y} h=>by omega)
  have := zko (b:=bs.map (·.1)) n3 (fun x hx=>by
   obtain ⟨y,hy,e⟩:=zek.1 ((hws.2 x).1 hx).1
   exact List.mem_map.2 ⟨y,hy,e⟩)
  rw [List.length_map] at this; omega
 refine ygf (hsw.mono hF3) hsw2 (by omega) (fun hw4=>?_)
 have F13:=hF2.trans hF3
 try simp only [sS]
 refine ldM (v:=.int .u32 tk) ?_ X1.pp
 refine yh6 (P1.keep (M':=M1) F13 (fun _ _=>rfl)) (fun hw5=>?_)
 refine ⟨by first | exact zao (zaq X1.pp) rfl | exact fun _=>zao (zaq X1.pp) rfl,?_⟩
 refine zit rfl ?_
 try simp only [sS]
 refine ldM (v:=.pointer (some ⟨g,0,none⟩)) ?_ P1.pp
 try simp only [sS]
 refine ldM (v:=.pointer (some ⟨g2,0,none⟩)) ?_ X1.pp
 refine ye7 (a:=0) (b:=10000) (P1.cc.keep F13 (fun _ _=>rfl)) o.oh (by omega) (fun v6 F6 N6 hw6 hF6 hN6 he6=>?_)
 refine ⟨by first | exact zao (zaq X1.pp) rfl | exact fun _=>zao (zaq X1.pp) rfl,?_⟩
 refine yl5 (a:=0) (b:=10000) (X1.cc.keep (F13.trans hF6) rfl) o.oh (by omega) (fun v7 F7 N7 hw7 hF7 hN7 he7=>?_)
 have oe:=o.oh.ent 0 10000
 refine ykx (he6.mono hF7) he7 (Nat.le_trans oe.le (by decide)) (fun e he=>Nat.le_trans (oe.fl e he) (by decide)) (Nat.le_trans (oe.encP hgd) (by decide)) (fun N8 hN8 hw8=>?_)
 try simp only [sS]
 have F17:=(F13.trans hF6).trans hF7
 refine zsq (σ:=Nat) (fun s=>.int .u32 (s:Nat)) (fun i h'=>∃ F' N',h'=⟨F',M1,N'⟩∧zac F7 F'∧N8≤N'∧i≤10) (fun i=>10 - i) 0 rfl
  (fun hw9=>⟨_,za0 hw9,F7,N8,rfl,zac.refl _,Nat.le_refl _,Nat.zero_le _⟩) (fun kk i j h9 hI hw9 next=>?_)
 rw [zsh]
 obtain ⟨F9,N9,rfl,hF9,hN9,hi9⟩:=hI
 have P9:=P1.keep (M':=M1) (F17.trans hF9) (fun _ _=>rfl)
 have X9:=X1.keep (M':=M1) (F17.trans hF9) (fun _ _=>rfl)
 refine zaf (fun hlt=>?_) (fun hge=>?_)
 ·have i9:i<10:=by omega
  have hnl:=o.nl (i:Int)
  try simp only [sS]
  refine zx4 (id:=(i:Int)) P9 (fun N10 hN10 hw10=>?_)
  refine zxt (id:=(i:Int)) X9 o.nd hbl (fun N11 hN11 hw11=>?_)
  refine zaa (v:=.bool false) yjb ?_
  try simp only [sS]
  refine yha (id:=(i:Int)) P9 hnl (fun v12 F12 N12 hw12 hF12 hN12 h12'=>?_)
  refine yh0 (id:=(i:Int)) (X9.keep (M':=M1) hF12 (fun _ _=>rfl)) o.nd hbl hS hnl (fun v13 F13' N13 hw13 hF13 hN13 h13=>?_)
  refine ydh (h12'.mono hF13) h13 (by omega) (fun hw14=>?_)
  try simp only [sS]
  refine yci (by omega) (by omega) ?_
  exact next (i+1) _ _ (by omega) (fun hw15=>⟨_,za0 hw15,F13',N13,rfl,hF9.trans (hF12.trans hF13),by omega,i9⟩)
 ·try simp only [sS]
  have hq9:zfa F9 cs m lo hi:=hq.mono (F17.trans hF9)
  refine zas (vs:=cs) ?_ hb (by rw [← hq3,List.drop_zero,List.take_length]) (by omega)
  refine ypv hE P9 o hD hgd hq9 hmi (fun uB FB NB hwB hFB hNB htB=>?_)
  try simp only [sS]
  refine zas (vs:=cs) ?_ hb (by rw [← hq3,List.drop_zero,List.take_length]) (by omega)
  refine yo3 (X9.keep (M':=M1) hFB (fun _ _=>rfl)) o hD hgd (hq9.mono hFB) hmi (fun uC FC NC hwC hFC hNC htC=>?_)
  have hql:=yhg hgd o.oh (bs:=bs) (t:=t) (m:=m) (lo:=lo) (hi:=hi)
  have hqe:(zje l h bs t m lo hi).2≤141:=yn7
  generalize zje l h bs t m lo hi=QR at *
  try simp only [sS]
  refine ymo (htB.mono hFC) htC hql ?_
  rw [decide_eq_true rfl]
  try simp only [sS]
  refine ym3 (by omega) (by omega) ?_
  refine zit rfl ?_
  try simp only [sS]
  exact fun hc=>⟨_,hsub hc,fun hw'=>k FC NC hw' (F17.trans (hF9.trans (hFB.trans hFC))) (by omega)⟩
end
theorem ymd {l:List Dm} {h:List En} {bs:Bts} {tk:Int} {r:zcw}:apE l h bs tk r≤140:=by
 have h1:zew l h r.tm (zaw bs r.id).fs≤130:=by unfold zew; split; omega; split; omega; split<;>omega
 have h2:ze2 l r.lo r.hi h r.es≤3:=by unfold ze2; split; omega; split<;>omega
 unfold apE ppE cmE abE tkE
 repeat' split
 all_goals omega
theorem yh8 {l:List Dm} {o:OpP} (ok:o.ok):∀ e∈(zg4 l o).es,0≤e.1:=by
 have hta:=ok.ta
 unfold zg4
 split
 ·simp
 ·split
  ·simp
  ·split
   ·show∀e∈(if o.id%2=0 then [(1+o.at'%40,zcj l o.keys o.v)] else o.L),0≤e.1
    split
    ·intro e he; rw [List.mem_singleton.1 he]; show 0≤1+o.at'%40; omega
    ·exact fun e he=>(ok.lt e he).1
   ·split
    ·simp
    ·split<;>simp
set_option maxRecDepth 10000 in
set_option maxHeartbeats 16000000 in
theorem ydy {um uo uc ua ub:Value} {at':Int} {m:List (Int×List Int)} {os:List OpP} {c a b:List Int} (hE:E [] zh4) (hm:zps F um m) (hml:m.length≤140737488351232) (hmc:∀ c∈m,(0≤c.1∧c.1<65536)∧∀ x∈c.2,0≤x∧x<256)
  (hos:zwt F uo os) (hol:os.length≤140737488351232) (hc:sF F 1 uc c.length (ick .u8 c)) (hcl:c.length≤140737488351232) (hcc:∀ x∈c,0≤x∧x<256)
  (ha:sF F 1 ua a.length (ick .u16 a)) (hal:a.length≤140737488351232) (hac:∀ x∈a,0≤x∧x<65536)
  (hb:sF F 1 ub b.length (ick .u16 b)) (hbl:b.length≤140737488351232) (hbc:∀ x∈b,0≤x∧x<65536) (hat:0≤at'∧at'<4294967296) (k:∀ h,K (.bool true) h) :
  call Tryz.prog 9 #[um,uo,uc,ua,ub,.int .u32 at'] K E ⟨F,M,N⟩:=by
 refine zlf mixed Tryz.func9 (by kernel_rfl) (t9 _ E _ _ _ _ _ _) (fun hw=>?_)
 have hm0:za7 M N:=hw.m
 have kn:∀ {M:Nat→Option zak} {F:Nat→Option (List Value)} {N:Nat},za2 Tryz.prog (.func (.func 11) #[] #[]) #[] (fun v h=>h.wf→∃ h',h.wk h'∧(h'.wf→K v h')) E ⟨F,M,N⟩:=zxm hE (fun F' N' _ _ _ hc=>⟨_,za0 hc,fun _=>k _⟩)
 have hlo:za9 uo=some (.int .i64 (os.length:Nat)):=by obtain ⟨rows,h1,_⟩:=hos; obtain ⟨a,c,e,_⟩:=h1.form; rw [e]; rfl
 refine zaa hlo ?_
 refine zbu (fun h1=>?_) (fun h1=>?_)
 ·try simp only [sS]; exact kn
 try simp only [sS]
 refine yez hos hol (fun rh hwh=>?_)
 refine zbu (fun h2=>?_) (fun h2=>?_)
 ·try simp only [sS]; exact kn
 try simp only [sS]
 refine zxm hE (fun F2 N2 hF2 hN2 hw2=>?_)
 try simp only [sS]
 have hgd:=zqg m (fun c hc=>(hmc c hc).1)
 have hok:=ygh (m:=m) (fun c hc=>(hmc c hc).1)
 refine ynf (hm.mono hF2) hml hmc (fun udv F3 N3 hw3 hF3 hN3 hd=>?_)
 generalize zio m=l at *
 have hdv:∀ d∈l,d.2.length≤1000000:=fun d hd=>by have := zok (zkf hok d hd); omega
 have hl4:=hgd.2.1
 have hds:=zjt hgd
 refine yau hd (by omega) (fun h=>absurd h (by rw [hok]; decide)) (fun _ p g mb dv F4 M4 N4 hF4 P4 hM4 hN4 hm4 hw4=>?_)
 refine yk7 (hd.mono hF4) (by omega) (fun h=>absurd h (by rw [hok]; decide)) (fun _ p2 g2 dv2 F4' M4' N4' hF4' X4 hM4' hN4' hm4' hw4'=>?_)
 have P4':=P4.up (M':=M4') hm4 hF4' hM4'
 have hpl4:=P4.lt hm4
 refine zo9 ?_
 try simp only [sS]
 refine zo9 ?_
 try simp only [sS]
 have F04:=hF2.trans (hF3.trans (hF4.trans hF4'))
 refine yn9 ((hd.mono hF4).mono hF4') (hc.mono F04) (ha.mono F04) (hb.mono F04) (by omega) hds hdv hcc hac hbc hcl hal hbl (fun cs F5 N5 hw5 hF5 hN5 hq=>?_)
 obtain ⟨hq3,hq1⟩:=yfq.box hq
 have hlvL:=zlb l c []
 obtain ⟨hlev,_⟩:=yi1 (c:=c) (yg3 l)
 have hqi:=yf7 hlvL hlev hdv
 generalize zgo l c []=qm at *
 generalize zhe l a b=qlo at *
 generalize zhg l a b=qhi at *
 have hq':=hq
 obtain ⟨qa,qb,qc,hqs,_⟩:=hq'
 refine zal (fun b0 hb0=>?_)
 refine stM (cs':=cs) ?_ (za5 _ _ _) (by rw [hqs]; rfl) (by rw [hqs]; rfl) hq1 (by exact Nat.le_of_ble_eq_true rfl)
 rw [zbe]
 have hos5:=(hos.mono F04).mono hF5
 have hm5:za7 M4' N5:=hw5.m
 have P5:=(P4'.keep (M':=M4') hF5 (fun _ _=>rfl)).box hm5 hb0 (some (.cells 55 cs 3))
 have X5:=(X4.keep (M':=M4') hF5 (fun _ _=>rfl)).box hm5 hb0 (some (.cells 55 cs 3))
 have hm6:=hm5.new hb0 (some (.cells 55 cs 3))
 have hxl4:=X4.lt hm4'
 have nb:b0≠g∧b0≠mb∧b0≠p:=⟨fun e=>by have := (hpl4 g (.inr (.inr (.inl rfl)))).2; omega,fun e=>by have := (hpl4 mb (.inr (.inl rfl))).2; omega,fun e=>by have := (hpl4 p (.inl rfl)).2; omega⟩
 have nx:b0≠g2∧b0≠p2:=⟨fun e=>by have := (hxl4 g2 (.inr (.inl rfl))).2; omega,fun e=>by have := (hxl4 p2 (.inl rfl)).2; omega⟩
 have low:∀ q,q=p∨q=mb∨q=g→q<N4:=fun q hq=>(hpl4 q (by rcases hq with h | h | h; exact .inl h; exact .inr (.inl h); exact .inr (.inr (.inl h)))).2
 refine zku (σ:=Nat) (fun s=>.int .i64 (s:Nat))
  (fun s h'=>∃ F' M' N' hv' rows' lx Lx rowsx hh bs tk,h'=⟨F',M',N'⟩∧zac F5 F'∧b0<N'∧za7 M' N'∧s≤os.length∧zbi F' M' N3 p g mb hv' dv rows' l hh bs tk∧zd0 F' M' N4 p2 g2 dv2 lx Lx rowsx l hh bs tk∧okP l D9 hh bs∧okS bs∧M' b0=some (.cells 55 cs 3)∧hv'.ownBlock≠some b0∧Lx.ownBlock≠some b0∧(∀ q,q=p2∨q=g2∨Lx.ownBlock=some q→hv'.ownBlock≠some q)) (fun s=>os.length - s) 0 rfl
  (fun hw6=>⟨_,za0 hw6,F5,_,b0+1,_,_,_,_,_,[],[],0,rfl,zac.refl _,by omega,hm6,Nat.zero_le _,P5,X5,okP.nil _ _,okS.nil,za5 _ _ _,by simp [Value.ownBlock],by simp [Value.ownBlock],by simp [Value.ownBlock]⟩) (fun kk s j h0 hI hw6 next=>?_)
 rw [zkp]
 obtain ⟨F6,M6,N6,hv6,rows6,lx6,Lx6,rowsx6,hh,bs,tk,rfl,hF6,hN6,hm6,hi6,P6,X6,o6,s6,g6,v6,w6,d6⟩:=hI
 have hxl6:=X6.lt hm6
 have hpl6:=P6.lt hm6
 refine zaa hlo ?_
 refine zaf (fun hlt=>?_) (fun hge=>?_)
 ·have i1:s<os.length:=by omega
  try simp only [sS]
  obtain ⟨orows,ho1,ho2⟩:=hos5.mono hF6
  refine zcr ho1 ho2 (by decide) i1 (fun p7 cs7 _ hR hcl hc1=>?_)
  obtain ⟨ok,_⟩:os[s].ok∧True:=by obtain ⟨_,_,_,_,_,_,_,_,_,_,_,h⟩:=hR; exact ⟨h,trivial⟩
  generalize os[s]=op at *
  refine ykk hgd ((hd.mono (hF4.trans (hF4'.trans hF5))).mono hF6) hR (fun rs F7 N7 hw7 hF7 hN7 hr7=>?_)
  obtain ⟨rok,rD⟩:=yhv hgd ok
  have ht0:=yh8 (l:=l) ok
  have hfl:=o6.fl (zg4 l op).id
  generalize zg4 l op=r at *
  have hrone:=hr7.one
  have hm7:za7 M6 N7:=hw7.m
  refine zal (fun b7 hb7=>?_)
  refine stM (cs':=rs) ?_ (za5 _ _ _) (by obtain ⟨nv,fv,ep,sv,ev,e,_⟩:=hr7; rw [e]; rfl) (by obtain ⟨nv,fv,ep,sv,ev,e,_⟩:=hr7; rw [e]; rfl) hrone.2 (by exact Nat.le_of_ble_eq_true rfl)
  rw [zbe]
  obtain ⟨M7,hM7⟩:∃ M7,M7=upd M6 b7 (some (.cells 44 rs [Value.int .u8 0,Value.int .u32 0,Value.int .u32 0,Value.slice none 0 0,Value.slice none 0 0,Value.int .u32 0,Value.slice none 0 0,Value.int .i64 0,Value.int .i64 0,Value.slice none 0 0].length)):=⟨_,rfl⟩
  rw [← hM7]
  have P7:zbi F7 M7 N3 p g mb hv6 dv rows6 l hh bs tk:=by rw [hM7]; exact (P6.keep (M':=M6) hF7 (fun _ _=>rfl)).box hm7 hb7 _
  have X7:zd0 F7 M7 N4 p2 g2 dv2 lx6 Lx6 rowsx6 l hh bs tk:=by rw [hM7]; exact (X6.keep (M':=M6) hF7 (fun _ _=>rfl)).box hm7 hb7 _
  have hm8:za7 M7 (b7+1):=by rw [hM7]; exact hm7.new hb7 _
  have q7:M7 b7=some (.cells 44 rs 10):=by rw [hM7]; exact za5 _ _ _
  have g7:M7 b0=some (.cells 55 cs 3):=by rw [hM7]; exact (za4 _ _ (by omega)).trans g6
  clear hM7
  have nlt:∀ {q:Nat},q=p∨q=mb∨q=g∨hv6.ownBlock=some q→b7≠q:=fun hq e=>by have := (hpl6 _ hq).2; omega
  have nlx:∀ {q:Nat},q=p2∨q=g2∨Lx6.ownBlock=some q→b7≠q:=fun hq e=>by have := (hxl6 _ hq).2; omega
  have hdr:(rs.drop 0).take 10=rs:=by rw [List.drop_zero,List.take_of_length_le (by omega)]
  refine zas (vs:=rs) ?_ q7 hdr (by omega)
  refine zas (vs:=rs) ?_ q7 hdr (by omega)
  refine zr1 P7 (by omega) o6.oh (by omega) hr7 rok (by omega) (fun hv8 F8 M8 N8 rows8 hF8 P8 hM8 hN8 hm9 hw8=>?_)
  have o8:=o6.ap rok rD tk
  have g8:=hM8 b0 v6 nb.1 nb.2.1 nb.2.2 (by omega)
  have q8:=hM8 b7 (fun e=>nlt (.inr (.inr (.inr e))) rfl) (nlt (.inr (.inr (.inl rfl)))) (nlt (.inr (.inl rfl))) (nlt (.inl rfl)) (by omega)
  have x8:∀ q,q=p2∨q=g2∨Lx6.ownBlock=some q→M8 q=M7 q∧hv8.ownBlock≠some q:=fun q hq=>
   hM8 q (d6 q hq) (fun e=>by have := low g (.inr (.inr rfl)); have := (hxl6 q hq).1; omega) (fun e=>by have := low mb (.inr (.inl rfl)); have := (hxl6 q hq).1; omega) (fun e=>by have := low p (.inl rfl); have := (hxl6 q hq).1; omega) (by have := (hxl6 q hq).2; omega)
  have X8:=X7.keep (M':=M8) hF8 (fun q hq=>(x8 q hq).1)
  have q8':=q8.1.trans q7
  refine ⟨zfx (zaq q8') (by omega) hdr,?_⟩
  have hEle:apE l hh bs tk r≤140:=ymd
  refine ym3 (by omega) (by omega) ?_
  refine yg9 X8 (by omega) (by omega) o6 (by decide) (hr7.mono hF8) rok ht0 (fun id=>(s6 id).1) (fun lx9 Lx9 F9 M9 N9 rows9 hF9 X9 hM9 hN9 hmA hw9=>?_)
  have s8:=s6.ap (l:=l) (h:=hh) o6.nd r
  obtain ⟨nvr,fvr,epr,svr,evr,ers,hnr,hfr,_⟩:=hr7
  have hidx:rs[4]?=some fvr:=by rw [ers]; rfl
  have hpl8:=P8.lt hm9
  have xlow:∀ (q:Nat),(q=p2∨q=g2∨Lx6.ownBlock=some q)→∀ q':Nat,(q'=p∨q'=mb∨q'=g)→q'≠q:=fun q hq q' hq' e=>by have := low q' hq'; have := (hxl6 q hq).1; omega
  have p9:∀ q,q=p∨q=mb∨q=g∨hv8.ownBlock=some q→M9 q=M8 q∧Lx9.ownBlock≠some q:=fun q hq=>by
   have hq1:Lx6.ownBlock≠some q∧q≠g2∧q≠p2:=by
    rcases hq with h | h | h | h
    ·exact ⟨fun e=>xlow _ (.inr (.inr e)) _ (.inl h) rfl,fun e=>xlow _ (.inr (.inl e)) _ (.inl h) rfl,fun e=>xlow _ (.inl e) _ (.inl h) rfl⟩
    ·exact ⟨fun e=>xlow _ (.inr (.inr e)) _ (.inr (.inl h)) rfl,fun e=>xlow _ (.inr (.inl e)) _ (.inr (.inl h)) rfl,fun e=>xlow _ (.inl e) _ (.inr (.inl h)) rfl⟩
    ·exact ⟨fun e=>xlow _ (.inr (.inr e)) _ (.inr (.inr h)) rfl,fun e=>xlow _ (.inr (.inl e)) _ (.inr (.inr h)) rfl,fun e=>xlow _ (.inl e) _ (.inr (.inr h)) rfl⟩
    ·exact ⟨fun e=>(x8 q (.inr (.inr e))).2 h,fun e=>(x8 q (.inr (.inl e))).2 h,fun e=>(x8 q (.inl e)).2 h⟩
   exact hM9 q hq1.1 hq1.2.1 hq1.2.2 (hpl8 q hq).2
  have g9:=hM9 b0 w6 nx.1 nx.2 (by omega)
  have q9:=((hM9 b7 (fun e=>nlx (.inr (.inr e)) rfl) (nlx (.inr (.inl rfl))) (nlx (.inl rfl)) (by omega)).1).trans q8'
  have P9:=P8.keep (M':=M9) hF9 (fun q hq=>(p9 q hq).1)
  have d9:∀ q,q=p2∨q=g2∨Lx9.ownBlock=some q→hv8.ownBlock≠some q:=fun q hq e=>by
   rcases hq with h | h | h
   ·exact (x8 q (.inl h)).2 e
   ·exact (x8 q (.inr (.inl h))).2 e
   ·exact (p9 q (.inr (.inr (.inr e)))).2 h
  have gb9:=g9.1.trans (g8.1.trans g7)
  clear P7 P8 X7 X8 P6 X6
  generalize apS l hh bs r=bs9 at *
  generalize apH l hh bs tk r=hh9 at *
  generalize apT l hh tk r=tk9 at *
  refine zit rfl ?_
  try simp only [sS]
  refine ldM (v:=.pointer (some ⟨g,0,none⟩)) ?_ P9.pp
  try simp only [sS]
  refine ldM (v:=fvr) ?_ q9 hidx
  try simp only [sS]
  refine ldM (v:=.pointer (some ⟨g2,0,none⟩)) ?_ X9.pp
  try simp only [sS]
  refine ldM (v:=fvr) ?_ q9 hidx
  have hf9:=(hfr.mono hF8).mono hF9
  refine zsg P9.cc.gg P9.cc.dd (by omega) hf9 rok.fl (fun NA hNA hwA=>?_)
  refine ⟨by first | exact zao (zaq q9) hidx | exact fun _=>zao (zaq q9) hidx,by first | exact zao (zaq X9.pp) rfl | exact fun _=>zao (zaq X9.pp) rfl,?_⟩
  refine zpr X9.cc.gg X9.cc.dd (by omega) hf9 rok.fl (fun NB hNB hwB=>?_)
  refine zaa (v:=.bool false) (by cases zd1 l r.fs<;>rfl) ?_
  try simp only [sS]
  refine zas (vs:=cs) ?_ gb9 (by rw [← hq3,List.drop_zero,List.take_length]) (by omega)
  refine zi1 hat.1 (by decide) ?_
  have FF:=hF6.trans (hF7.trans (hF8.trans hF9))
  refine ygy hE P9 X9 o8 s8 (by decide) hgd (hq.mono FF) hqi (fun FC NC hwC hFC hNC=>?_)
  refine zhl (by decide) ?_
  try simp only [sS]
  refine zai (by omega) ?_
  exact next (s+1) _ _ (by omega) (fun hw13=>⟨_,za0 hw13,FC,M9,NC,hv8,rows8,lx9,Lx9,rows9,hh9,bs9,tk9,rfl,FF.trans hFC,by omega,hw13.m,i1,P9.keep hFC (fun _ _=>rfl),X9.keep hFC (fun _ _=>rfl),o8,s8,gb9,g8.2,g9.2,d9⟩)
 ·try simp only [sS]
  exact fun hc=>⟨_,za0 hc,fun _=>k _⟩
theorem zu9 {x:Int} (h:(Lit.int .u32 x).wf=true):0≤x∧x<4294967296:=by
 simp [Lit.wf,IntKind.min,IntKind.max,IntKind.bits,IntKind.signed] at h
 omega
theorem yg0 {f:FuncId} {args:Array Value} {W:World} (h:call Tryz.prog f args (fun v _=>v=.bool true) (fun _ h=>h=zh4) (h0 W)):Calls Tryz.prog f args W fun e w'=>e=.returned (.bool true)∧Below W.heap.size W w' :=
 (yl1 (K:=fun v=>v=.bool true) h).mono fun e w' ⟨⟨v,he,hv⟩,hb⟩=>⟨by rw [he,hv],hb⟩
end Go.Proofs.YtgcmbkoejjcjlaaGreatDoor.A
open Go Go.RowKit Go.MapKept
set_option linter.unusedVariables false
set_option linter.unusedSimpArgs false
namespace Go.Proofs.YtgcmbkoejjcjlaaGreatDoor.K
def rSB {α:Type} (B sz:Nat) (R:(Nat→Option (List Value))→List Value→α→Prop) (F:Nat→Option (List Value)) (cs:List Value) (ys:List α):Prop:=rS sz R F cs ys∧ys.length*B≤140737488351232
theorem opensK_sliceB {α:Type} {P:Program} {t e:TypeId} {B sz:Nat} {R:(Nat→Option (List Value))→List Value→α→Prop} (ht:P.underlying t=some (.slice e)) (hs:P.cellsOf t=1) (hby:P.bytesOf e=B) (hB:0<B) (hz:0<sz) (he:OpensK P e sz R) :
  OpensK P t 1 (rSB B sz R):=by
 have h0:=opensK_slice ht hs (by rw [hby]; exact Nat.ble_eq_true_of_le hB) hz he
 refine ⟨hs,fun {H enc w base sp hd fuel cs x} h hwt=>?_,fun h=>h0.one h.1⟩
 obtain ⟨y,hy⟩:=h0.get h hwt
 refine ⟨y,hy,?_⟩
 obtain ⟨v,rows,hcs,hv,_⟩:=hy
 obtain ⟨a',c',hv',_⟩:=hv.form
 rcases DataW.trod_slice ht h with ⟨h1,h2⟩ | ⟨a,len,cap,elems,rest,n,_,h1,h2,hb,hl,hm,hlen,hel,hsp,hns⟩
 ·rw [hcs,hv'] at h1
  simp only [List.cons.injEq,Value.slice.injEq,and_true] at h1
  have:y.length=0:=by omega
  rw [this]; omega
 ·rw [hcs,hv'] at h1
  simp only [List.cons.injEq,Value.slice.injEq,and_true] at h1
  subst h2
  simp only [DataW.weights,ht] at hwt
  have h3:=hwt _ List.mem_cons_self
  simp only [List.length_map,hlen] at h3
  have h4:reachBytes=140737488351232:=by decide
  rw [hby] at h3
  have h5:len*B≤(len+rest.length)*B:=Nat.mul_le_mul_right _ (by omega)
  have h6:y.length=len:=by omega
  rw [h6]; omega
end Go.Proofs.YtgcmbkoejjcjlaaGreatDoor.K
open Go Go.RowKit Go.Proofs.YtgcmbkoejjcjlaaGreatDoor.K Go.Proofs.YtgcmbkoejjcjlaaGreatDoor.T
set_option linter.unusedVariables false
set_option linter.unusedSimpArgs false
namespace Go.Proofs.YtgcmbkoejjcjlaaGreatDoor.A
variable {F F':Nat→Option (List Value)} {M M':Nat→Option zak} {N N':Nat} {K:zae} {E:zat}
abbrev yjr:(Nat→Option (List Value))→List Value→List Int×Int→Prop:=rP (rS 1 (rI .i64)) (rI .i64)
abbrev yn5:(Nat→Option (List Value))→List Value→Int×List (List Int×Int)→Prop:=rP (rI .u32) (rS 2 yjr)
abbrev OpZ:=Int×Int×Int×List Int×List (List Int)×List Int×List (List Int×Int)×List (Int×List (List Int×Int))
abbrev yj9:(Nat→Option (List Value))→List Value→OpZ→Prop:=rP (rI .u8) (rP (rI .u32) (rP (rI .u32) (rP (rSB 8 1 (rI .i64)) (rP (rS 1 (rS 1 (rI .u16))) (rP (rS 1 (rI .i64)) (rP (rS 2 yjr) (rS 2 yn5)))))))
def zsf (y:OpZ):OpP:=⟨y.1,y.2.1,y.2.2.1,y.2.2.2.1,y.2.2.2.2.1,y.2.2.2.2.2.1,y.2.2.2.2.2.2.1,y.2.2.2.2.2.2.2⟩
theorem zmj {α:Type} {R:(Nat→Option (List Value))→List Value→α→Prop} {sz:Nat} {cs:List Value} {y:List α} (h:rS sz R F cs y):∃ v,cs=[v]:=let ⟨v,_,e,_⟩:=h; ⟨v,e⟩
theorem ylb {v:Value} {y:List (Int×List (List Int×Int))} (h:rS 2 yn5 F [v] y):zcb F v y∧y.length≤140737488351232∧∀ e∈y,(0≤e.1∧e.1<4294967296)∧∀ f∈e.2,i64 f.2:=by
 obtain ⟨v',rows,e,hv,hr,hl⟩:=h
 injection e with e _
 subst e
 have hr':zad (fun r e=>zcv F r e∧(0≤e.1∧e.1<4294967296)∧∀ f∈e.2,i64 f.2) 2 rows y:=hr.mono fun r e ⟨c1,c2,ee,⟨ha,hb⟩,hc⟩=>by
  obtain ⟨u,hu⟩:=zmj hc
  rw [hu] at hc
  obtain ⟨h1,h2,h3⟩:=yb4 hc
  exact ⟨⟨u,by rw [ee,ha,hu]; rfl,h1,h2⟩,zu9 hb,fun f hf=>(h3 f hf).2⟩
 exact ⟨⟨rows,hv,hr'.mono fun _ _ h=>h.1⟩,hl,fun e he=>by obtain ⟨r,h⟩:=zl9 hr' e he; exact h.2⟩
theorem ylq {cs:List Value} {y:OpZ} (h:yj9 F cs y):opP F cs (zsf y):=by
 obtain ⟨c1,d1,e1,⟨h1,w1⟩,c2,d2,e2,⟨h2,w2⟩,c3,d3,e3,⟨h3,w3⟩,c4,d4,e4,⟨h4,b4⟩,c5,d5,e5,h5,c6,d6,e6,h6,c7,d7,e7,h7,h8⟩:=h
 obtain ⟨v4,u4⟩:=zmj h4
 obtain ⟨v5,u5⟩:=zmj h5
 obtain ⟨v6,u6⟩:=zmj h6
 obtain ⟨v7,u7⟩:=zmj h7
 obtain ⟨v8,u8⟩:=zmj h8
 rw [u4] at h4; rw [u5] at h5; rw [u6] at h6; rw [u7] at h7; rw [u8] at h8
 have a4:=zmh h4
 have a5:=yje h5
 have a6:=zmh h6
 have a7:=yb4 h7
 have a8:=ylb h8
 refine ⟨v4,v5,v6,v7,v8,?_,a4.1,a5.1,a6.1,a7.1,a8.1,⟨ycy w1,zu9 w2,zu9 w3,by show y.2.2.2.1.length≤_; omega,a5.2.1,fun l hl x hx=>zt2 (a5.2.2 l hl x hx),a6.2.2,fun x hx=>ya3 (a6.2.1 x hx),a7.2.1,fun f hf=>(a7.2.2 f hf).2,a8.2.1,fun e he=>(a8.2.2 e he).1,fun e he=>(a8.2.2 e he).2⟩⟩
 rw [e1,e2,e3,e4,e5,e6,e7,h1,h2,h3,u4,u5,u6,u7,u8]; rfl
theorem ykz {v:Value} {y:List OpZ} (h:rS 8 yj9 F [v] y):zwt F v (y.map zsf)∧(y.map zsf).length≤140737488351232:=by
 obtain ⟨v',rows,e,hv,hr,hl⟩:=h
 injection e with e _
 subst e
 have hr':zad (fun r x=>opP F r (zsf x)) 8 rows y:=hr.mono fun r f h=>ylq h
 exact ⟨⟨rows,by rw [List.length_map]; exact hv,yfj zsf hr'⟩,by rw [List.length_map]; exact hl⟩
theorem PartDoes_true (v0 v1 v2 v3 v4:Value) (a5:Int) {y0:List (Int×List Int)} {y1:List OpZ} {y2 y3 y4:List Int} (W:World) (h0:rS 2 yme (F0 W) [v0] y0) (h1:rS 8 yj9 (F0 W) [v1] y1) (h2:rS 1 (rI .u8) (F0 W) [v2] y2) (h3:rS 1 (rI .u16) (F0 W) [v3] y3) (h4:rS 1 (rI .u16) (F0 W) [v4] y4) (w5:(Lit.int .u32 a5).wf=true) :
  Calls Tryz.prog 9 #[v0,v1,v2,v3,v4,.int .u32 a5] W fun e w'=>e=.returned (.bool true)∧Below W.heap.size W w' :=
 have b:=ykt h0
 have o:=ykz h1
 have c:=zmh h2
 have p:=zmh h3
 have q:=zmh h4
 yg0 (ydy rfl b.1 b.2.1 b.2.2 o.1 o.2 c.1 c.2.2 (fun x hx=>ycy (c.2.1 x hx)) p.1 p.2.2 (fun x hx=>zt2 (p.2.1 x hx)) q.1 q.2.2 (fun x hx=>zt2 (q.2.1 x hx)) (zu9 w5) fun _=>rfl)
end Go.Proofs.YtgcmbkoejjcjlaaGreatDoor.A
