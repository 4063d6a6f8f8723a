import Derived.Test.YtgcmbkoejjcjlaaGreatDoorZ4
set_option maxHeartbeats 4000000
open Go Go.RowKit Go.Proofs.YtgcmbkoejjcjlaaGreatDoor.K Go.Proofs.YtgcmbkoejjcjlaaGreatDoor.T
set_option linter.unusedVariables false
set_option linter.unusedSimpArgs false
namespace Go.Proofs.YtgcmbkoejjcjlaaGreatDoor.A
variable {F F':Nat→Option (List Value)} {M M':Nat→Option zak} {N N':Nat} {K:zae} {E:zat}
def zd1 (l:List Dm) (fs:List Fc):Bool:=decide (fs.length≤200)&&fs.all fun f=>inF l f.1
theorem ymj {b g:Nat} {e1:TypeId} {t1:Nat} {v hv dv:Value} {l:List Dm} {fs:List Fc} (hb:M b=some (.cells e1 [.pointer (some ⟨g,0,none⟩)] t1)) (hg:M g=some (.cells 113 [hv,dv] 2)) (hd:zbl F dv l) (hl:l.length≤140737488351232) (hf:zar F v fs) (hfl:fs.length≤140737488351232)
  (k:∀ (r:Int) N',N≤N'→(Hp.mk F M N').wf→(decide (r≥0) = !fs.all fun f=>inF l f.1)→K (.int .i64 r) ⟨F,M,N'⟩) :
  za2 Tryz.prog (.func (.func 85) #[] #[]) #[v,.func (.func 54) #[] #[.pointer (some ⟨b,0,none⟩)]] K E ⟨F,M,N⟩:=by
 refine za3 mixed Tryz.func85 (by kernel_rfl) (t85 _ E _ _) (fun hw=>?_)
 obtain ⟨rows,hv1,hv2⟩:=hf
 refine zam hv1 ?_
 refine znw (σ:=Nat) (fun i=>.int .i64 (i:Nat)) (fun i h=>∃ N',h=⟨F,M,N'⟩∧N≤N'∧i≤fs.length∧(fs.all fun f=>inF l f.1)=((fs.drop i).all fun f=>inF l f.1)) (fun i=>fs.length - i) 0 rfl
  (fun hw1=>⟨_,za0 hw1,N,rfl,Nat.le_refl _,Nat.zero_le _,rfl⟩) (fun k1 i j h1 hI hw1 next=>?_)
 rw [znx]
 obtain ⟨N1,rfl,hN1,hi,he⟩:=hI
 refine zaf (fun hlt=>?_) (fun hge=>?_)
 ·have h1:i<fs.length:=by omega
  try simp only [sS]
  refine zcr hv1 hv2 (by decide) h1 fun p r _ hR _ _=>ykh hb hg hd hl hR (fun N2 hN2 hw2=>?_)
  rw [List.drop_eq_getElem_cons h1,List.all_cons] at he
  cases hn:inF l fs[i].1
  ·try simp only [sS]
   refine fun hc=>⟨_,za0 hc,fun hw'=>k _ _ (by omega) hw' ?_⟩
   rw [he,hn,decide_eq_true (by omega)]; rfl
  ·try simp only [sS]
   refine zai (by omega) ?_
   refine next (i+1) _ _ (by omega) (fun hw3=>⟨_,za0 hw3,N2,rfl,by omega,by omega,?_⟩)
   rw [he,hn,Bool.true_and]
 ·try simp only [sS]
  refine fun hc=>⟨_,za0 hc,fun hw'=>k _ _ hN1 hw' ?_⟩
  rw [he,List.drop_eq_nil_of_le (by omega)]; rfl
theorem zsg {g:Nat} {v hv dv:Value} {l:List Dm} {fs:List Fc} (hg:M g=some (.cells 113 [hv,dv] 2)) (hd:zbl F dv l) (hl:l.length≤140737488351232) (hf:zar F v fs) (hfl:fs.length≤140737488351232)
  (k:∀ N',N≤N'→(Hp.mk F M N').wf→K (.bool (zd1 l fs)) ⟨F,M,N'⟩) :
  za2 Tryz.prog (.func (.func 27) #[] #[]) #[.pointer (some ⟨g,0,none⟩),v] K E ⟨F,M,N⟩:=by
 refine za3 mixed Tryz.func27 (by kernel_rfl) (t27 _ E _ _) (fun hw=>?_)
 have hm:za7 M N:=hw.m
 have hgN:=hm.lt hg
 have hlv:za9 v=some (.int .i64 (fs.length:Nat)):=by obtain ⟨a,c,h⟩:=hf.form; rw [h]; rfl
 unfold zd1 at k
 refine zal (cs:=[.pointer (some ⟨g,0,none⟩)]) (fun b1 hb1=>?_)
 refine zaa hlv ?_
 refine zfd (fun h1=>?_) (fun h1=>?_)
 ·rw [decide_eq_true (by omega),Bool.true_and] at k
  try simp only [sS]
  refine za3 mixed Tryz.func53 (by kernel_rfl) (t53 _ E _ _) (fun hw=>?_)
  refine ymj (za5 _ _ _) ((za4 _ _ (by omega)).trans hg) hd hl hf hfl (fun r N2 hN2 hw2 hr=>?_)
  cases ha:fs.all fun f=>inF l f.1
  ·rw [ha] at hr k
   refine ydx (by simpa using hr) fun hc=>⟨_,za0 hc,fun hw'=>?_⟩
   try simp only [sS]
   exact fun hc=>⟨⟨F,M,N2⟩,zbp hc (zav (zb6 _) (hm _ hb1)),fun hw'=>k _ (by omega) hw'⟩
  ·rw [ha] at hr k
   refine zpf (by simpa using hr) fun hc=>⟨_,za0 hc,fun hw'=>?_⟩
   try simp only [sS]
   exact fun hc=>⟨⟨F,M,N2⟩,zbp hc (zav (zb6 _) (hm _ hb1)),fun hw'=>k _ (by omega) hw'⟩
 ·rw [decide_eq_false (by omega),Bool.false_and] at k
  try simp only [sS]
  exact fun hc=>⟨⟨F,M,b1+1⟩,zbp hc (zav (zb6 _) (hm _ hb1)),fun hw'=>k _ (by omega) hw'⟩
def zm8 (h:List En) (t:Int) (fs:List Fc):List En:=h.take (zaz h t)++(t,fs)::h.drop (zaz h t)
theorem ygl (h:List En) (t:Int) (fs:List Fc):(zm8 h t fs).length=h.length+1:=by
 have := zi6 h t
 unfold zm8
 rw [List.length_append,List.length_cons,List.length_take,List.length_drop]; omega
theorem ydq {h:List En} {t:Int} {fs:List Fc} (hs:zbw h) (ht:zc4 h t=false):zbw (zm8 h t fs):=by
 have hpl:=zi6 h t
 unfold zm8 zbw
 have hgt:∀ x∈h.drop (zaz h t),t<x.1:=fun x hx=>by
  obtain ⟨j,hj,rfl⟩:=List.mem_iff_getElem.1 hx
  rw [List.getElem_drop]
  have hj2:zaz h t+j<h.length:=by rw [List.length_drop] at hj; omega
  have h1:=zjj (t:=t) hs hj2 (by omega)
  have h2:h[zaz h t+j].1≠t:=fun e=>by
   have h3:zaz h t<h.length:=by omega
   rw [zjp h3] at ht
   have h4:=of_decide_eq_false ht
   have h5:=zjj (t:=t) hs h3 (Nat.le_refl _)
   rcases Nat.eq_zero_or_pos j with h0 | h0
   ·subst h0; exact h4 e
   ·have := List.pairwise_iff_getElem.1 hs (zaz h t) (zaz h t+j) h3 hj2 (by omega)
    omega
  omega
 have hlt:∀ x∈h.take (zaz h t),x.1<t:=fun x hx=>by
  obtain ⟨j,hj,rfl⟩:=List.mem_iff_getElem.1 hx
  rw [List.length_take] at hj
  rw [List.getElem_take]
  exact zkt (by omega) (by omega)
 refine List.pairwise_append.2 ⟨hs.sublist (List.take_sublist _ _),List.pairwise_cons.2 ⟨fun x hx=>hgt x hx,hs.sublist (List.drop_sublist _ _)⟩,fun x hx y hy=>?_⟩
 have h1:=hlt x hx
 rcases List.mem_cons.1 hy with rfl | hy
 ·exact h1
 ·have := hgt y hy; omega
set_option maxRecDepth 10000 in
theorem ycn {B:Nat} {v fv:Value} {rows:List (List Value)} {h:List En} {t:Int} {fs:List Fc} (hv:own M B 74 2 v h.length rows.flatten) (hB:B≤N) (hr:zad (zcv F) 2 rows h) (hs:zbw h) (hl:h.length≤10000000000) (ht:zc4 h t=false) (hf:zar F fv fs) (hfl:fs.length≤1000000) (hk:∀ f∈fs,f.1.length≤10000000000)
  (k:∀ v' F' M' N' rows',zac F F'→own M' B 74 2 v' (zm8 h t fs).length rows'.flatten→zad (zcv F') 2 rows' (zm8 h t fs)→(∀ q,v.ownBlock≠some q→q<N→M' q=M q∧v'.ownBlock≠some q)→N≤N'→za7 M' N'→(Hp.mk F' M' N').wf→K v' ⟨F',M',N'⟩) :
  za2 Tryz.prog (.func (.func 93) #[] #[]) #[v,.int .u32 t,fv] K E ⟨F,M,N⟩:=by
 refine za3 mixed Tryz.func93 (by kernel_rfl) (t93 _ E _ _ _) (fun hw=>?_)
 have hm:za7 M N:=hw.m
 have hpl:=zi6 h t
 refine zu0 hv hr hs (by omega) (fun N1 hN1 hw1=>?_)
 rw [ht]
 try simp only [sS]
 refine yax hf (by omega) hk (fun v2 F2 N2 hw2 hF2 hN2 hf2=>?_)
 have hm2:za7 M N2:=hw2.m
 have he:zcv F2 [.int .u32 t,v2] (t,fs):=⟨v2,rfl,hf2,by simp only; omega⟩
 obtain ⟨a2,c2,e2⟩:=hf2.form
 refine zaa (v:=.agg #[.int .u32 t,v2]) (by rw [e2]; kernel_rfl) ?_
 refine zde (cs:=[.int .u32 t,v2]) (by rw [e2]; kernel_rfl) (fun b3 hb3=>?_)
 have hr2:zad (zcv F2) 2 rows h:=hr.mono fun _ _ h=>h.mono hF2
 have hvb:v.ownBlock≠some b3:=fun e=>by have := hv.lt hm _ e; omega
 refine ynq (i:=zaz h t) (r:=[.int .u32 t,v2]) (hv.box hm (by omega) _) (hm2.new hb3 _) (by omega) hr.all.1 hr.len hr.one (za5 _ _ _) hvb rfl he.one.2 hpl (by omega) (fun v4 M4 N4 g1 g2 g3 g4 g5=>?_)
 refine fun hc=>⟨_,za0 hc,fun hw'=>k v4 F2 M4 N4 _ hF2 (by rw [ygl]; exact g1) ?_ (fun q hq hqN=>?_) (by omega) g4 hw'⟩
 ·have h1:=zau (zad.nil (zcv F2) 2) he.one he
  exact zga (zh7 hr2 (zaz h t)) (by have := zga h1 (zib hr2 (zaz h t)); simpa using this)
 ·obtain ⟨x1,x2⟩:=g2 q hq (by omega)
  exact ⟨x1.trans (za4 _ _ (by omega)),x2⟩
structure zg2 (F:Nat→Option (List Value)) (M:Nat→Option zak) (B g:Nat) (hv dv:Value) (rows:List (List Value)) (l:List Dm) (h:List En):Prop where
 gg:M g=some (.cells 113 [hv,dv] 2)
 gB:B≤g
 oo:own M B 74 2 hv h.length rows.flatten
 rr:zad (zcv F) 2 rows h
 vg:hv.ownBlock≠some g
 dd:zbl F dv l
 rs:zbw h
def zew (l:List Dm) (h:List En) (t:Int) (fs:List Fc):Nat:=if zd1 l fs=false then 1 else if t=0∨zc4 h t=true then 130 else if h.length≥5000 then 3 else 0
def zj6 (l:List Dm) (h:List En) (t:Int) (fs:List Fc):List En:=if zew l h t fs=0 then zm8 h t fs else h
theorem zdu {l:List Dm} {fs:List Fc} (h:zd1 l fs=true):fs.length≤200∧∀ f∈fs,inF l f.1=true:=by
 unfold zd1 at h
 rw [Bool.and_eq_true] at h
 exact ⟨of_decide_eq_true h.1,fun f hf=>List.all_eq_true.1 h.2 f hf⟩
theorem zzl {l:List Dm} {fs:List Fc} (h1:fs.length≤200) (h2:∀ f∈fs,inF l f.1=true):zd1 l fs=true:=by
 unfold zd1
 rw [decide_eq_true h1,List.all_eq_true.2 h2]; rfl
theorem zge {l:List Dm} {k:List Int} (h:inF l k=true):k.length=l.length:=by
 unfold inF at h
 rw [Bool.and_eq_true] at h
 exact of_decide_eq_true h.1
set_option maxRecDepth 10000 in
theorem yhh {B g:Nat} {hv dv fv:Value} {rows:List (List Value)} {l:List Dm} {h:List En} {t:Int} {fs:List Fc} (hC:zg2 F M B g hv dv rows l h) (hB:B≤N) (hdl:l.length≤1000) (hl:h.length≤5000) (ht0:0≤t) (hf:zar F fv fs) (hfl:fs.length≤140737488351232)
  (k:∀ hv' F' M' N' rows',zac F F'→zg2 F' M' B g hv' dv rows' l (zj6 l h t fs)→(∀ q,hv.ownBlock≠some q→q≠g→q<N→M' q=M q∧hv'.ownBlock≠some q)→N≤N'→za7 M' N'→(Hp.mk F' M' N').wf→K (.int .u16 ((zew l h t fs:Nat):Int)) ⟨F',M',N'⟩) :
  za2 Tryz.prog (.func (.func 66) #[] #[]) #[.pointer (some ⟨g,0,none⟩),.int .u32 t,fv] K E ⟨F,M,N⟩:=by
 refine za3 mixed Tryz.func66 (by kernel_rfl) (t66 _ E _ _ _) (fun hw=>?_)
 have hm:za7 M N:=hw.m
 have hlv:za9 hv=some (.int .i64 (h.length:Nat)):=by obtain ⟨a,c,e,_⟩:=hC.oo.form; rw [e]; rfl
 have fin:∀ n:Nat,n≠0→n=zew l h t fs→∀ N',N≤N'→∀ h',h'=(⟨F,M,N'⟩:Hp)→h'.wf→∃ h'',h'.wk h''∧(h''.wf→K (.int .u16 ((n:Nat):Int)) h''):=fun n n0 e N' hN h' e' hc=>by
  subst e'
  refine ⟨_,za0 hc,fun hw'=>?_⟩
  rw [e]
  refine k hv F M N' rows (zac.refl _) ?_ (fun _ h _ _=>⟨rfl,h⟩) hN hw'.m hw'
  unfold zj6; rw [if_neg (by omega)]; exact hC
 try simp only [sS]
 refine ldM (v:=hv) ?_ hC.gg
 refine zu0 hC.oo hC.rr hC.rs (by omega) (fun N1 hN1 hw1=>?_)
 try simp only [sS]
 refine zsg hC.gg hC.dd (by omega) hf hfl (fun N2 hN2 hw2=>?_)
 cases h1:zd1 l fs
 ·try simp only [sS]
  exact fin 1 (by decide) (by unfold zew; rw [if_pos h1]) N2 (by omega) _ rfl
 try simp only [sS]
 have last:(h2:¬ t=0)→zew l h t fs=(if zc4 h t=true then 130 else if h.length≥5000 then 3 else 0):=fun h2=>by
  unfold zew; rw [if_neg (by rw [h1]; decide)]
  by_cases h3:zc4 h t=true
  ·rw [if_pos (.inr h3),if_pos h3]
  ·rw [if_neg (by rintro (q | q); exact h2 q; exact h3 q),if_neg h3]
 refine zba (fun h2=>?_) (fun h2=>?_)
 ·try simp only [sS]
  rw [zk9]
  try simp only [sS]
  exact fin 130 (by decide) (by unfold zew; rw [if_neg (by rw [h1]; decide),if_pos (.inl h2)]) N2 (by omega) _ rfl
 ·try simp only [sS]
  rw [zk9]
  cases h3:zc4 h t
  ·try simp only [sS]
   refine ldM (v:=hv) ?_ hC.gg
   refine zaa hlv ?_
   refine ze1 (fun h4=>?_) (fun h4=>?_)
   ·try simp only [sS]
    exact fin 3 (by decide) (by rw [last h2,if_neg (by rw [h3]; decide),if_pos (by omega)]) N2 (by omega) _ rfl
   ·try simp only [sS]
    try simp only [sS]
    refine ldM (v:=hv) ?_ hC.gg
    obtain ⟨f1,f2⟩:=zdu h1
    refine ycn hC.oo (by omega) hC.rr hC.rs (by omega) h3 hf (by omega) (fun f hf=>by have := zge (f2 f hf); omega) (fun v' F3 M3 N3 rows' hF3 g1 g2 g3 g4 g5 g6=>?_)
    have hgN:=hm.lt hC.gg
    obtain ⟨x1,x2⟩:=g3 g hC.vg (by omega)
    have hg3:M3 g=some (.cells 113 [hv,dv] 2):=x1.trans hC.gg
    obtain ⟨a,c,e,_⟩:=g1.form
    try simp only [sS]
    refine stM (cs':=[v',dv]) ?_ hg3 (by rw [e]; rfl) (by rw [e]; rfl) (by rw [e]; exact List.all_eq_true.1 rfl)
    have e0:zew l h t fs=0:=by rw [last h2,if_neg (by rw [h3]; decide),if_neg (by omega)]
    refine fun hc=>⟨_,za0 hc,fun hw'=>?_⟩
    rw [e0] at k
    refine k v' F3 _ N3 rows' hF3 ?_ (fun q hq hqg hqN=>?_) (by omega) (g5.set (g5.lt hg3) _) hw'
    ·unfold zj6; rw [if_pos e0]
     exact ⟨za5 _ _ _,hC.gB,g1.keep (fun q hq=>za4 _ _ (fun e=>x2 (e ▸ hq))) (Nat.le_refl _),g2,x2,hC.dd.mono hF3,ydq hC.rs h3⟩
    ·obtain ⟨y1,y2⟩:=g3 q hq (by omega)
     exact ⟨(za4 _ _ hqg).trans y1,y2⟩
  ·try simp only [sS]
   exact fin 130 (by decide) (by rw [last h2,if_pos h3]) N2 (by omega) _ rfl
set_option maxRecDepth 10000 in
theorem yny {v:Value} {l:List Dm} (hv:zbl F v l) (hl:l.length≤140737488351232)
  (k1:zbh l=false→∀ N',N≤N'→(Hp.mk F M N').wf→K (.pointer none) ⟨F,M,N'⟩)
  (k2:zbh l=true→∀ g dv F' M' N',zac F F'→zg2 F' M' N g (.slice none 0 0) dv [] l []→(∀ q,q<N→M' q=M q)→N≤N'→za7 M' N'→(Hp.mk F' M' N').wf→K (.pointer (some ⟨g,0,none⟩)) ⟨F',M',N'⟩) :
  za2 Tryz.prog (.func (.func 30) #[] #[]) #[v] K E ⟨F,M,N⟩:=by
 refine za3 mixed Tryz.func30 (by kernel_rfl) (t30 _ E _) (fun hw=>?_)
 have hm:za7 M N:=hw.m
 have hlv:za9 v=some (.int .i64 (l.length:Nat)):=by obtain ⟨a,c,rfl⟩:=hv.form; rfl
 refine zmy hv hl (fun N1 hN1 hw1=>?_)
 cases hok:zbh l
 ·try simp only [sS]
  exact fun hc=>⟨_,za0 hc,fun hw'=>k1 hok _ hN1 hw'⟩
 have hl4:=zhf hok
 try simp only [sS]
 refine zaa (v:=.agg #[.slice none 0 0,.slice none 0 0]) (by kernel_rfl) ?_
 refine zal (cs:=[.slice none 0 0,.slice none 0 0]) (fun g hg=>?_)
 refine zaa hlv ?_
 obtain ⟨drs,hv1,hv2⟩:=hv
 refine zq8 (σ:=Nat) (fun i=>.int .i64 (i:Nat))
  (fun i h=>∃ F' M' N' dv rows,h=⟨F',M',N'⟩∧zac F F'∧g<N'∧(∀ q,q<N→M' q=M q)∧za7 M' N'∧i≤l.length∧M' g=some (.cells 113 [.slice none 0 0,dv] 2)∧own M' (g+1) 88 2 dv i rows.flatten∧zad (zfh F') 2 rows (l.take i)) (fun i=>l.length - i) 0 rfl
  (fun hw2=>⟨_,za0 hw2,F,_,g+1,.slice none 0 0,[],rfl,zac.refl _,Nat.lt_succ_self _,fun q hq=>za4 _ _ (by omega),(hm.up hN1).new hg _,Nat.zero_le _,za5 _ _ _,own.nil,zad.nil _ _⟩) (fun kk i j h1 hI hw2 next=>?_)
 rw [zpz]
 obtain ⟨F1,M1,N2,dv,rows,rfl,hF1,hgN,hM1,hm1,hi,hbox,ho,hr⟩:=hI
 obtain ⟨da,dc,hdf,_⟩:=ho.form
 refine zaf (fun hlt=>?_) (fun hge=>?_)
 ·have i1:i<l.length:=by omega
  try simp only [sS]
  refine zcr (hv1.mono hF1) (hv2.mono fun _ _ h=>h.mono hF1) (by decide) i1 (fun p r _ hR hrl hr1=>?_)
  obtain ⟨kv,hre,hkv,hkl⟩:=hR
  subst hre
  refine zal (fun b1 hb1=>?_)
  refine stM (cs':=[.int .i64 l[i].1,kv]) ?_ (za5 _ _ _) rfl rfl hr1
  rw [zbe]
  have hb2:=za5 M1 b1 (some (.cells 88 [.int .i64 l[i].1,kv] [Value.int .i64 0,Value.slice none 0 0].length))
  have hg2:=(za4 M1 (b:=b1) (k:=g) (some (.cells 88 [.int .i64 l[i].1,kv] [Value.int .i64 0,Value.slice none 0 0].length)) (by omega)).trans hbox
  have hM2:∀ q,q<N→upd M1 b1 (some (.cells 88 [.int .i64 l[i].1,kv] [Value.int .i64 0,Value.slice none 0 0].length)) q=M q:=fun q hq=>(za4 _ _ (by omega)).trans (hM1 q hq)
  have ho2:=ho.box hm1 hb1 (some (.cells 88 [.int .i64 l[i].1,kv] [Value.int .i64 0,Value.slice none 0 0].length))
  have hm2:=hm1.new hb1 (some (.cells 88 [.int .i64 l[i].1,kv] [Value.int .i64 0,Value.slice none 0 0].length))
  generalize upd M1 b1 _=M2 at *
  try simp only [sS]
  refine ldM (v:=dv) ?_ hg2
  try simp only [sS]
  refine ldM (v:=.int .i64 l[i].1) ?_ hb2
  try simp only [sS]
  refine ldM (v:=kv) ?_ hb2
  have hdl:=zok (zkf hok _ (List.getElem_mem i1))
  refine zmg hm2 hkv.sR (by omega) (fun kv' F3 N3 hw3 hF3 hN3 hkv'=>?_)
  refine ⟨zao (zaq hb2) rfl,zao (zaq hg2) rfl,?_⟩
  have h1f:zfh F3 [.int .i64 l[i].1,kv'] l[i]:=⟨kv',rfl,hkv',hkl⟩
  obtain ⟨ak,ck,hkf,hck⟩:=hkv'.form
  refine zaa (v:=.agg #[.int .i64 l[i].1,kv']) (by rw [hkf]; kernel_rfl) ?_
  refine zde (cs:=[.int .i64 l[i].1,kv']) (by rw [hkf]; kernel_rfl) (fun b4 hb4=>?_)
  have hg4:=(za4 M2 (b:=b4) (k:=g) (some (.cells 88 [.int .i64 l[i].1,kv'] [Value.int .i64 l[i].1,kv'].length)) (by omega)).trans hg2
  have hM4:∀ q,q<N→upd M2 b4 (some (.cells 88 [.int .i64 l[i].1,kv'] [Value.int .i64 l[i].1,kv'].length)) q=M q:=fun q hq=>(za4 _ _ (by omega)).trans (hM2 q hq)
  have hm3:za7 M2 N3:=hw3.m
  have ho4:=ho2.box hm3 hb4 (some (.cells 88 [.int .i64 l[i].1,kv'] [Value.int .i64 l[i].1,kv'].length))
  have hm4:=hm3.new hb4 (some (.cells 88 [.int .i64 l[i].1,kv'] [Value.int .i64 l[i].1,kv'].length))
  have hx:=za5 M2 b4 (some (.cells 88 [.int .i64 l[i].1,kv'] [Value.int .i64 l[i].1,kv'].length))
  refine ⟨zao (zaq hg4) rfl,?_⟩
  generalize upd M2 b4 _=M4 at *
  refine ho4.app (m:=1) (news:=[.int .i64 l[i].1,kv']) hm4 (by omega) ⟨rfl,.inr ⟨b4,0,1,_,rfl,Nat.le_refl _,.inr ⟨_,_,hx⟩,rfl⟩⟩ h1f.one.2 (by omega) (by unfold maxLen; omega) (fun dv' M5 N5 g1 g2 g3 g4=>?_)
  have hgd:dv.ownBlock≠some g:=fun e=>by have := (ho4.ge g e).1; omega
  obtain ⟨y1,y2⟩:=g2 g hgd (by omega)
  obtain ⟨a5,c5,e5,_⟩:=g1.form
  try simp only [sS]
  refine stM (cs':=[.slice none 0 0,dv']) ?_ (y1.trans hg4) (by rw [e5]; rfl) (by rw [e5]; rfl) (by rw [e5]; exact List.all_eq_true.1 rfl)
  refine zai (by omega) ?_
  refine next (i+1) _ _ (by omega) (fun hw6=>⟨_,za0 hw6,F3,_,N5,dv',rows++[[.int .i64 l[i].1,kv']],rfl,hF1.trans hF3,by omega,fun q hq=>?_,g4.set (by omega) _,i1,za5 _ _ _,?_,?_⟩)
  ·exact (za4 _ _ (by omega)).trans (((g2 q (fun e=>by have := (ho4.ge q e).1; omega) (by omega)).1).trans (hM4 q hq))
  ·refine own.keep (M:=M5) ?_ (fun q hq=>za4 _ _ (fun e=>y2 (e ▸ hq))) (Nat.le_refl _)
   simpa using g1
  ·rw [List.take_add_one,List.getElem?_eq_getElem i1,Option.toList_some]
   exact zau (hr.mono fun _ _ h=>h.mono hF3) h1f.one h1f
 ·try simp only [sS]
  rw [show i=l.length by omega] at ho
  rw [List.take_of_length_le (by omega)] at hr
  have hne:¬ dv.ownBlock=some g:=fun e=>by have := (ho.ge g e).1; omega
  refine fun hc=>⟨_,zgw (p:=fun q=>dv.ownBlock=some q) hc,fun hw'=>k2 hok g dv _ _ N2 (hF1.trans (zbd hc)) ⟨(zay hne).trans hbox,by omega,own.nil,zad.nil _ _,by simp [Value.ownBlock],⟨rows,ho.frzP (fun q h=>h),hr.mono fun _ _ h=>h.mono (zbd hc)⟩,.nil⟩ (fun q hq=>(zay (fun e=>by have := (ho.ge q e).1; omega)).trans (hM1 q hq)) (by omega) (zcl hm1) hw'⟩
theorem ymc {B n:Nat} {v:Value} {len:Nat} {rows:List (List Value)} {K:zae} (hv:own M B 74 2 v len rows.flatten) (hlen:rows.length=len) (hl:∀ q∈rows,q.length=2) (hn:n≤len) (k:∀ w,own M B 74 2 w n (rows.take n).flatten→K w ⟨F,M,N⟩) :
  pv (slV 2 v none (some (.int .i64 (n:Nat))) none) K ⟨F,M,N⟩:=by
 have hfl:(rows.take n).flatten.length=n*2:=by
  rw [zck _ (fun q hq=>hl q (List.mem_of_mem_take hq)),List.length_take,hlen,Nat.min_eq_left hn]
 rcases hv.2 with ⟨rfl,h0⟩ | ⟨b,c,rest,rfl,h1,h2,h3,h4⟩
 ·have hn0:n=0:=by omega
  subst hn0
  refine zrx 0 0 0 (Nat.le_refl _) (Nat.le_refl _) (Nat.le_refl _) ?_
  exact k _ ⟨by simp,.inl ⟨rfl,rfl⟩⟩
 ·refine zmn n (by omega) ?_
  refine k _ ⟨hfl,.inr ⟨b,c,(rows.drop n).flatten++rest,rfl,by omega,h2,h3,?_⟩⟩
  rw [h4,← List.append_assoc,← List.flatten_append,List.take_append_drop]
def zca (h:List En) (t:Int):Nat:=zaz h t+(if zc4 h t=true then 1 else 0)
def yt8 (h:List En) (t:Int):List Fc:=((h.take (zca h t)).map (·.2)).flatten
theorem ybr (h:List En) (t:Int):zca h t≤h.length:=by
 have := zi6 h t
 unfold zca
 split
 ·rename_i ht
  rcases Nat.lt_or_ge (zaz h t) h.length with h1 | h1
  ·omega
  ·rw [zld (by omega)] at ht; cases ht
 ·omega
def ze3 (h:List En) (i:Nat):List Fc:=((h.take i).map (·.2)).flatten
theorem yfg {h:List En} {i:Nat} (hi:i<h.length):ze3 h (i+1)=ze3 h i++h[i].2:=by
 unfold ze3
 rw [List.take_add_one,List.getElem?_eq_getElem hi,Option.toList_some,List.map_append,List.flatten_append]; simp
theorem yc8 (h:List En) (i:Nat):(ze3 h i).length≤((h.map (·.2)).flatten).length:=by
 have e:h.map (·.2)=(h.take i).map (·.2)++(h.drop i).map (·.2):=by rw [← List.map_append,List.take_append_drop]
 rw [e,List.flatten_append,List.length_append]
 unfold ze3; omega
set_option maxRecDepth 10000 in
theorem yi2 {B g:Nat} {hv dv:Value} {cs:List Value} {rows:List (List Value)} {l:List Dm} {h:List En} {t:Int} {m lo hi:List Int} (hC:zg2 F M B g hv dv rows l h) (hdl:l.length≤140737488351232) (hl:h.length≤5000) (hT:((h.map (·.2)).flatten).length≤1000000) (hk:∀ e∈h,∀ f∈e.2,okK f.1) (hq:zfa F cs m lo hi) (hmi:∀ x∈m,i64 x) (hok:∀ r∈tab ((ze3 h (zca h t)).map fr1),okK r.1)
  (k:∀ v' F' N',(Hp.mk F' M N').wf→zac F F'→N≤N'→zbt F' v' (zft l (tab ((ze3 h (zca h t)).map fr1)) m lo hi)→K (.tuple #[v',.int .u16 ((ze9 l (tab ((ze3 h (zca h t)).map fr1)) m lo hi:Nat):Int)]) ⟨F',M,N'⟩) :
  za2 Tryz.prog (.func (.func 42) #[] #[]) #[.pointer (some ⟨g,0,none⟩),.agg cs.toArray,.int .u32 t] K E ⟨F,M,N⟩:=by
 refine za3 mixed Tryz.func42 (by kernel_rfl) (t42 _ E _ _ _) (fun hw=>?_)
 have hm:za7 M N:=hw.m
 have hq':=hq
 obtain ⟨a,b,c,rfl,ha,hb,hc,hml,hlol,hhil⟩:=hq'
 have hgN:=hm.lt hC.gg
 have hup:=ybr h t
 refine zal (cs:=[a,b,c]) (fun b1 hb1=>?_)
 have hbox:=za5 M b1 (some (.cells 55 [a,b,c] 3))
 have hg1:=(za4 M (b:=b1) (k:=g) (some (.cells 55 [a,b,c] 3)) (by omega)).trans hC.gg
 have ho1:=hC.oo.box hm hb1 (some (.cells 55 [a,b,c] 3))
 have hM1:∀ q,q<N→upd M b1 (some (.cells 55 [a,b,c] 3)) q=M q:=fun q hq=>za4 _ _ (by omega)
 have go:∀ x:Value,x=.int .i64 (zca h t:Nat)→∀ N1,b1<N1→za7 (upd M b1 (some (.cells 55 [a,b,c] 3))) N1→∀ X:(Value→Hp→Prop)→Hp→Prop,True:=fun _ _ _ _ _ _=>trivial
 clear go
 try simp only [sS]
 refine ldM (v:=hv) ?_ hg1
 refine zu0 ho1 hC.rr hC.rs (by omega) (fun N1 hN1 hw1=>?_)
 have hm1:za7 (upd M b1 (some (.cells 55 [a,b,c] 3))) N1:=hw1.m
 have hb1N:b1<N1:=hm1.lt hbox
 generalize upd M b1 _=M1 at *
 obtain ⟨n,hn⟩:∃ n,n=zca h t:=⟨_,rfl⟩
 have hn2:zca h t=zaz h t+(if zc4 h t=true then 1 else 0):=rfl
 cases hth:zc4 h t
 rotate_left
 rw [hth,if_pos rfl] at hn2
 try simp only [sS]
 refine zai (by omega) ?_
 rw [← hn2]
 rw [zx8]
 rotate_left
 rw [hth,if_neg (by decide),Nat.add_zero] at hn2
 try simp only [sS]
 rw [← hn2]
 rw [zx8]
 all_goals
  clear hn2
  rw [← hn] at hok k hup ⊢
  clear hn
  try simp only [sS]
  refine ldM (v:=hv) ?_ hg1
  refine ymc ho1 hC.rr.all.1 hC.rr.len hup (fun w how=>?_)
  obtain ⟨wa,wc,hwf,_⟩:=how.form
  refine zaa (v:=.int .i64 (n:Nat)) (by rw [hwf]; rfl) ?_
  refine zo3 (σ:=Nat×Value) (fun s=>s.2) (fun s=>.int .i64 (s.1:Nat))
   (fun s h'=>∃ M' N' frs,h'=⟨F,M',N'⟩∧N1≤N'∧(∀ q,q<N1→M' q=M1 q)∧za7 M' N'∧s.1≤n∧own M' N1 90 2 s.2 (ze3 h s.1).length frs.flatten∧zad (zc1 F) 2 frs (ze3 h s.1)) (fun s=>n - s.1) (0,.slice none 0 0) rfl rfl
   (fun hw2=>⟨_,za0 hw2,M1,N1,[],rfl,Nat.le_refl _,fun _ _=>rfl,hm1,Nat.zero_le _,own.nil,zad.nil _ _⟩) (fun kk s j h1 hI hw2 next=>?_)
  obtain ⟨M2,N2,frs,rfl,hN2,hM2,hm2,hi2,hoa,hra⟩:=hI
  have how2:own M2 B 74 2 w n (rows.take n).flatten:=how.keep (fun q e=>hM2 q (how.lt hm1 q e)) (Nat.le_refl _)
  refine zaf (fun hlt=>?_) (fun hge=>?_)
  ·have i1:s.1<n:=by omega
   have i2:s.1<h.length:=by omega
   try simp only [sS]
   have htk:(h.take n).length=n:=by rw [List.length_take]; omega
   refine zk5 (l:=h.take n) (by rw [htk]; exact how2) (zh7 hC.rr n) (by decide) (by omega) fun p r _ hR _ hr1=>?_
   rw [List.getElem_take] at hR
   obtain ⟨fv,rfl,hfv,hfl⟩:=hR
   refine zal (fun b4 hb4=>?_)
   refine stM (cs':=[.int .u32 h[s.1].1,fv]) ?_ (za5 _ _ _) rfl rfl hr1
   rw [zbe]
   try simp only [sS]
   refine ldM (v:=fv) ?_
   obtain ⟨frows,hf1,hf2⟩:=hfv
   have e:=yfg i2
   have hle:=yc8 h (s.1+1)
   rw [e,List.length_append] at hle
   refine (hoa.box hm2 hb4 _).app (hm2.new hb4 _) (by omega) hf1.sR hf2.f1 (by omega) (by unfold maxLen; omega) (fun w' M3 N3 h4 h5 h6 h7=>?_)
   refine zai (by omega) ?_
   refine next (s.1+1,w') _ _ (by simp only; omega) (fun hw4=>⟨_,za0 hw4,M3,N3,frs++frows,rfl,by omega,fun q hq=>?_,h7,i1,?_,?_⟩)
   ·exact ((h5 q (fun e=>by have := (hoa.ge q e).1; omega) (by omega)).1).trans ((za4 _ _ (by omega)).trans (hM2 q hq))
   ·simp only
    rw [e,List.length_append,List.flatten_append]; exact h4
   ·simp only
    rw [e]; exact zga hra hf2
  ·try simp only [sS]
   rw [zy7]
   rw [show s.1=n by omega] at hoa hra
   have hgq:=(hM2 g (by omega)).trans hg1
   have hbq:=(hM2 b1 hb1N).trans hbox
   try simp only [sS]
   refine ldM (v:=dv) ?_ hgq
   refine zas (vs:=[a,b,c]) ?_ hbq
   refine zej (fun hc'=>⟨_,zgw (p:=fun q=>s.2.ownBlock=some q) hc',?_⟩)
   have hs9:=zbd (p:=fun q=>s.2.ownBlock=some q) hc'
   have hfa:zar (frzP F M2 (fun q=>s.2.ownBlock=some q)) s.2 (ze3 h n):=⟨frs,hoa.frzP (fun q h=>h),hra.mono fun _ _ h=>h.mono hs9⟩
   have hnb:∀ q,q<N1→¬ s.2.ownBlock=some q:=fun q hq e=>by have := (hoa.ge q e).1; omega
   have hg9:=(zay (M:=M2) (p:=fun q=>¬ s.2.ownBlock=some q) (hnb g (by omega))).trans hgq
   have hb9:=(zay (M:=M2) (p:=fun q=>¬ s.2.ownBlock=some q) (hnb b1 hb1N)).trans hbq
   have hM9:∀ q,q<N→zbj M2 (fun q=>¬ s.2.ownBlock=some q) q=M q:=fun q hq=>(zay (hnb q (by omega))).trans ((hM2 q (by omega)).trans (hM1 q hq))
   generalize frzP F M2 _=F9 at *
   generalize zbj M2 _=M9 at *
   have hal:=yc8 h n
   refine ylp hfa (by omega) (fun f hf=>?_) (fun vt F10 N10 hw10 hF10 hN10 ht=>?_)
   ·obtain ⟨x,hx,hfx⟩:=List.mem_flatten.1 hf
    obtain ⟨e,he,rfl⟩:=List.mem_map.1 hx
    exact hk e (List.mem_of_mem_take he) f hfx
   refine ⟨zfx (zaq hb9) (by exact Nat.le_of_ble_eq_true rfl) rfl,zao (zaq hg9) rfl,?_⟩
   have F0A:=hs9.trans hF10
   have htl:=zkk ((ze3 h n).map fr1)
   rw [List.length_map] at htl
   refine yo6 (hC.dd.mono F0A) hdl ht (by omega) (hq.mono F0A) hmi (fun r hr=>(hok r hr).2) (fun _ r hr=>(hok r hr).1) (fun v11 F11 N11 hw11 hF11 hN11 h11=>?_)
   try simp only [sS]
   exact fun hc=>⟨_,zb7 hm hM9 hc,fun hw'=>k _ _ _ hw' ((F0A.trans hF11).trans (zag hc)) (by omega) (h11.mono (zag hc))⟩
def inR (a b:Int) (f:Fc):Bool:=decide (0<f.1.length∧a≤f.1.getD 0 0∧f.1.getD 0 0<b)
def atT:List En→Int→List Fc
 | [],_=>[]
 | e::h,t=>if e.1=t then e.2 else atT h t
theorem zw6:∀ {h:List En} {t:Int},(∀ e∈h,e.1≠t)→atT h t=[]
 | [],_,_=>rfl
 | e::h,t,hn=>by
  unfold atT
  rw [if_neg (hn e List.mem_cons_self)]
  exact zw6 fun x hx=>hn x (List.mem_cons_of_mem _ hx)
theorem zor:zbw []:=List.Pairwise.nil
theorem zf9 {e:En} {h:List En}:zbw (e::h)↔(∀ x∈h,e.1<x.1)∧zbw h:=List.pairwise_cons
def withR:List En→Int→List Fc→List En
 | [],t,fs=>[(t,fs)]
 | e::h,t,fs=>if e.1<t then e::withR h t fs else if e.1=t then (t,e.2++fs)::h else (t,fs)::e::h
theorem zx9:∀ {h:List En} {t:Int} {fs:List Fc} {x:En},x∈withR h t fs→x.1=t∨x∈h
 | [],t,fs,x,hx=>by simp [withR] at hx; exact .inl (by rw [hx])
 | e::h,t,fs,x,hx=>by
  unfold withR at hx
  split at hx
  ·rcases List.mem_cons.1 hx with rfl | hx
   ·exact .inr List.mem_cons_self
   ·exact (zx9 hx).imp id (List.mem_cons_of_mem _)
  ·split at hx
   ·rcases List.mem_cons.1 hx with rfl | hx
    ·exact .inl rfl
    ·exact .inr (List.mem_cons_of_mem _ hx)
   ·rcases List.mem_cons.1 hx with rfl | hx
    ·exact .inl rfl
    ·exact .inr hx
theorem zlu:∀ {h:List En} {t:Int} {fs:List Fc},zbw h→zbw (withR h t fs)
 | [],t,fs,_=>zf9.2 ⟨by simp,zor⟩
 | e::h,t,fs,hs=>by
  obtain ⟨h1,h2⟩:=zf9.1 hs
  unfold withR
  split
  ·refine zf9.2 ⟨fun x hx=>?_,zlu h2⟩
   rcases zx9 hx with hx | hx
   ·omega
   ·exact h1 x hx
  ·split
   ·rename_i he
    exact zf9.2 ⟨fun x hx=>by have := h1 x hx; simp only; omega,h2⟩
   ·refine zf9.2 ⟨fun x hx=>?_,hs⟩
    rcases List.mem_cons.1 hx with rfl | hx
    ·simp only; omega
    ·have := h1 x hx; simp only; omega
theorem yac:∀ {h:List En} {t:Int} {fs:List Fc} (s:Int),zbw h→atT (withR h t fs) s=if s=t then atT h t++fs else atT h s
 | [],t,fs,s,_=>by
  simp only [withR,atT]
  by_cases h:s=t
  ·rw [if_pos h.symm,if_pos h]; rfl
  ·rw [if_neg (fun e=>h e.symm),if_neg h]
 | e::h,t,fs,s,hs=>by
  obtain ⟨h1,h2⟩:=zf9.1 hs
  unfold withR
  split
  ·rename_i hlt
   simp only [atT]
   rw [yac s h2,if_neg (by omega:¬ e.1=t)]
   by_cases hes:e.1=s
   ·rw [if_pos hes,if_neg (by omega),if_pos hes]
   ·rw [if_neg hes]
    by_cases hst:s=t
    ·rw [if_pos hst,if_pos hst]
    ·rw [if_neg hst,if_neg hst,if_neg hes]
  ·split
   ·rename_i he
    simp only [atT]
    by_cases hst:s=t
    ·rw [if_pos hst.symm,if_pos hst,if_pos he]
    ·rw [if_neg (fun q=>hst q.symm),if_neg hst,if_neg (by omega)]
   ·rename_i h3 h4
    have ho:atT (e::h) t=[]:=zw6 fun x hx=>by
     rcases List.mem_cons.1 hx with rfl | hx
     ·exact h4
     ·have := h1 x hx; omega
    rw [ho]
    by_cases hst:s=t
    ·subst hst; simp [atT]
    ·rw [if_neg hst]
     show (if t=s then fs else atT (e::h) s)=_
     rw [if_neg (fun q=>hst q.symm)]
theorem zll:∀ (h:List En) (t:Int) (fs:List Fc),(withR h t fs).length≤h.length+1
 | [],t,fs=>by simp [withR]
 | e::h,t,fs=>by
  unfold withR
  split
  ·have := zll h t fs; simp only [List.length_cons]; omega
  ·split<;>simp
def zg3 (h:List En) (t:Int):List Fc:=if zc4 h t=true then (h.getD (zaz h t) (0,[])).2 else []
def zlo (h:List En) (t:Int) (fs:List Fc):List En:=h.take (zaz h t)++(t,zg3 h t++fs)::h.drop (zca h t)
theorem znp (e:En) (h:List En) (t:Int):zaz (e::h) t=if e.1<t then zaz h t+1 else 0:=rfl
theorem zut (e:En) (h:List En) (t:Int):zc4 (e::h) t=if e.1<t then zc4 h t else decide (e.1=t):=by
 unfold zc4
 rw [znp]
 by_cases h1:e.1<t
 ·rw [if_pos h1,if_pos h1,List.getElem?_cons_succ]
 ·rw [if_neg h1,if_neg h1]; rfl
theorem zxx (e:En) (h:List En) (t:Int):zca (e::h) t=if e.1<t then zca h t+1 else if e.1=t then 1 else 0:=by
 unfold zca
 rw [znp,zut]
 split
 ·omega
 ·by_cases h:e.1=t<;>simp [h]
theorem zjl:∀ (h:List En) (t:Int) (fs:List Fc),zlo h t fs=withR h t fs
 | [],t,fs=>by simp [zlo,withR,zaz,zg3,zc4,zca]
 | e::h,t,fs=>by
  have ih:=zjl h t fs
  unfold zlo zg3 at ih ⊢
  unfold withR
  rw [znp,zut,zxx]
  by_cases h1:e.1<t
  ·rw [if_pos h1,if_pos h1,if_pos h1,if_pos h1,← ih]
   simp
  ·rw [if_neg h1,if_neg h1,if_neg h1,if_neg h1]
   by_cases h2:e.1=t
   ·simp [h2]
   ·simp [h2]
theorem zp4 {h:List En} {t:Int} {fs:List Fc} (ht:zc4 h t=false):zlo h t fs=zm8 h t fs:=by
 unfold zlo zg3 zca zm8
 rw [ht]; simp
theorem yf9 {h:List En} {t:Int} {fs:List Fc} (ht:zc4 h t=true) (hi:zaz h t<h.length):zlo h t fs=h.set (zaz h t) (t,h[zaz h t].2++fs):=by
 unfold zlo zg3 zca
 rw [ht,if_pos rfl,if_pos rfl,zb0 hi,List.set_eq_take_append_cons_drop,if_pos hi]
theorem zrr {h:List En} {t:Int} (ht:zc4 h t=true):zaz h t<h.length:=by
 rcases Nat.lt_or_ge (zaz h t) h.length with h1 | h1
 ·exact h1
 ·rw [zld (by omega)] at ht; cases ht
theorem yar {f:En→Option En} (hf:∀ e x,f e=some x→x.1=e.1) {h:List En} (hs:zbw h):zbw (h.filterMap f) :=
 List.Pairwise.filterMap f (fun a a' hr b hb b' hb'=>by rw [hf a b hb,hf a' b' hb']; exact hr) hs
theorem yep {f:En→Option En} {h:List En} {x:En} (hx:x∈h.filterMap f):∃ e∈h,f e=some x:=List.mem_filterMap.1 hx
def zin (a b:Int) (e:En):Option En:=if 0<(e.2.filter (inR a b)).length then some (e.1,e.2.filter (inR a b)) else none
def zfl (a b:Int) (h:List En):List En:=h.filterMap (zin a b)
def zct (a b:Int) (f:Fc):Bool:=!inR a b f
def zhh (a b:Int) (e:En):Option En:=if 0<(e.2.filter (zct a b)).length∨e.2.length=0 then some (e.1,e.2.filter (zct a b)) else none
def zb1 (a b:Int) (h:List En):List En:=h.filterMap (zhh a b)
theorem ybq (a b:Int) (e:En):(zin a b e=none∧e.2.filter (inR a b)=[])∨zin a b e=some (e.1,e.2.filter (inR a b)):=by
 unfold zin
 by_cases h:0<(e.2.filter (inR a b)).length
 ·rw [if_pos h]; exact .inr rfl
 ·rw [if_neg h]; exact .inl ⟨rfl,List.eq_nil_of_length_eq_zero (by omega)⟩
theorem zzv (a b:Int) (e:En):(zhh a b e=none∧e.2.filter (zct a b)=[])∨zhh a b e=some (e.1,e.2.filter (zct a b)):=by
 unfold zhh
 by_cases h:0<(e.2.filter (zct a b)).length∨e.2.length=0
 ·rw [if_pos h]; exact .inr rfl
 ·rw [if_neg h]; exact .inl ⟨rfl,List.eq_nil_of_length_eq_zero (by omega)⟩
theorem zpq {f:En→Option En} {g:List Fc→List Fc} (hf:∀ e,(f e=none∧g e.2=[])∨f e=some (e.1,g e.2)) (e x:En) (h:f e=some x):x=(e.1,g e.2):=by
 rcases hf e with ⟨h1,_⟩ | h1
 ·rw [h1] at h; cases h
 ·rw [h1] at h; cases h; rfl
theorem ye2 {a b:Int} {h:List En} (hs:zbw h):zbw (zfl a b h):=yar (fun e x hx=>by rw [zpq (ybq a b) e x hx]) hs
theorem ybm {a b:Int} {h:List En} (hs:zbw h):zbw (zb1 a b h):=yar (fun e x hx=>by rw [zpq (zzv a b) e x hx]) hs
theorem zra {a b:Int} {h:List En} {x:En} (hx:x∈zfl a b h):∃ e∈h,x=(e.1,e.2.filter (inR a b))∧x.2≠[]:=by
 obtain ⟨e,he,hf⟩:=yep hx
 refine ⟨e,he,zpq (ybq a b) e x hf,fun h0=>?_⟩
 unfold zin at hf
 split at hf
 ·cases hf; simp only at h0; rename_i h1; rw [h0] at h1; simp at h1
 ·cases hf
theorem zoo {a b:Int} {h:List En} {x:En} (hx:x∈zb1 a b h):∃ e∈h,x=(e.1,e.2.filter (zct a b)):=by
 obtain ⟨e,he,hf⟩:=yep hx
 exact ⟨e,he,zpq (zzv a b) e x hf⟩
def zg7 (h:List En) (e:En):List En:=if 0<e.2.length then withR h e.1 e.2 else h
def zbk (h es:List En):List En:=es.foldl zg7 h
theorem ykm {h:List En} {e:En} (hs:zbw h) (s:Int):atT (zg7 h e) s=if s=e.1 then atT h s++e.2 else atT h s:=by
 unfold zg7
 split
 ·rw [yac s hs]
  by_cases hse:s=e.1
  ·rw [if_pos hse,if_pos hse,hse]
  ·rw [if_neg hse,if_neg hse]
 ·rename_i h0
  rw [List.eq_nil_of_length_eq_zero (by omega:e.2.length=0)]
  split<;>simp
theorem zuv {h:List En} {e:En} (hs:zbw h):zbw (zg7 h e):=by
 unfold zg7; split
 ·exact zlu hs
 ·exact hs
theorem zh5:∀ {es h:List En},zbw h→zbw (zbk h es)
 | [],h,hs=>hs
 | e::es,h,hs=>zh5 (es:=es) (zuv hs)
theorem zxd:∀ {es h:List En} (s:Int),zbw h→zbw es→atT (zbk h es) s=atT h s++atT es s
 | [],h,s,_,_=>by simp [zbk,atT]
 | e::es,h,s,hs,he=>by
  obtain ⟨h1,h2⟩:=zf9.1 he
  have := zxd (es:=es) s (zuv (e:=e) hs) h2
  show atT (zbk (zg7 h e) es) s=_
  rw [this,ykm hs]
  simp only [atT]
  by_cases hse:s=e.1
  ·rw [if_pos hse,if_pos hse.symm,zw6 (h:=es) fun x hx=>by have := h1 x hx; omega,List.append_nil]
  ·rw [if_neg hse,if_neg (fun q=>hse q.symm)]
theorem znv:∀ (es h:List En),(zbk h es).length≤h.length+es.length
 | [],h=>by simp [zbk]
 | e::es,h=>by
  have h1:=znv es (zg7 h e)
  have h2:(zg7 h e).length≤h.length+1:=by
   unfold zg7; split
   ·exact zll _ _ _
   ·omega
  show (zbk (zg7 h e) es).length≤_
  simp only [List.length_cons]; omega
def zdz (l:List Dm) (a b:Int):Int→List En→Bool
 | _,[]=>true
 | last,e::es=>decide (last<e.1)&&zd1 l e.2&&(e.2.all (inR a b)&&zdz l a b e.1 es)
def zgm (a b:Int) (h es:List En):List En:=zbk (zb1 a b h) es
def zj5 (h:List En):Bool:=h.any fun e=>decide (200<e.2.length)
def ze2 (l:List Dm) (a b:Int) (h es:List En):Nat:=if zdz l a b 0 es=false then 1 else if 5000<(zgm a b h es).length∨zj5 (zgm a b h es)=true then 3 else 0
def zhi (l:List Dm) (a b:Int) (h es:List En):List En:=if ze2 l a b h es=0 then zgm a b h es else h
theorem zql {l:List Dm} {a b last:Int} {e:En} {es:List En} (h:zdz l a b last (e::es)=true):last<e.1∧zd1 l e.2=true∧(∀ f∈e.2,inR a b f=true)∧zdz l a b e.1 es=true:=by
 unfold zdz at h
 rw [Bool.and_eq_true,Bool.and_eq_true,Bool.and_eq_true] at h
 exact ⟨of_decide_eq_true h.1.1,h.1.2,List.all_eq_true.1 h.2.1,h.2.2⟩
theorem zkb {l:List Dm} {a b:Int}:∀ {es:List En} {last:Int},zdz l a b last es=true→zbw es∧∀ e∈es,last<e.1∧zd1 l e.2=true∧∀ f∈e.2,inR a b f=true
 | [],_,_=>⟨zor,by simp⟩
 | e::es,last,h=>by
  obtain ⟨h1,h2,h3,h4⟩:=zql h
  obtain ⟨g1,g2⟩:=zkb h4
  refine ⟨zf9.2 ⟨fun x hx=>(g2 x hx).1,g1⟩,fun x hx=>?_⟩
  rcases List.mem_cons.1 hx with rfl | hx
  ·exact ⟨h1,h2,h3⟩
  ·obtain ⟨a1,a2,a3⟩:=g2 x hx
   exact ⟨by omega,a2,a3⟩
structure okH (l:List Dm) (n m:Nat) (h:List En):Prop where
 rs:zbw h
 ti:∀ e∈h,0<e.1
 fi:∀ e∈h,∀ f∈e.2,inF l f.1=true
 le:h.length≤n
 fl:∀ e∈h,e.2.length≤m
theorem okH.nil (l:List Dm) (n m:Nat):okH l n m []:=⟨zor,by simp,by simp,Nat.zero_le _,by simp⟩
theorem okH.up {l:List Dm} {n m n' m':Nat} {h:List En} (k:okH l n m h) (h1:n≤n') (h2:m≤m'):okH l n' m' h:=⟨k.rs,k.ti,k.fi,by have := k.le; omega,fun e he=>by have := k.fl e he; omega⟩
theorem zk6 {P:En→Prop} {t:Int} {fs:List Fc} (h0:P (t,fs)) (ha:∀ e:En,e.1=t→P e→P (t,e.2++fs)):∀ {h:List En},(∀ e∈h,P e)→∀ e∈withR h t fs,P e
 | [],_,e,he=>by simp [withR] at he; rw [he]; exact h0
 | d::h,hp,e,he=>by
  unfold withR at he
  split at he
  ·rcases List.mem_cons.1 he with rfl | he
   ·exact hp _ List.mem_cons_self
   ·exact zk6 h0 ha (fun x hx=>hp x (List.mem_cons_of_mem _ hx)) e he
  ·split at he
   ·rename_i hd
    rcases List.mem_cons.1 he with rfl | he
    ·exact ha d hd (hp d List.mem_cons_self)
    ·exact hp e (List.mem_cons_of_mem _ he)
   ·rcases List.mem_cons.1 he with rfl | he
    ·exact h0
    ·exact hp e he
theorem okH.withR {l:List Dm} {n m k:Nat} {h:List En} (o:okH l n m h) {t:Int} {fs:List Fc} (ht:0<t) (hf:∀ f∈fs,inF l f.1=true) (hk:fs.length≤k):okH l (n+1) (m+k) (A.withR h t fs):=by
 refine ⟨zlu o.rs,?_,?_,by have := zll h t fs; have := o.le; omega,?_⟩
 ·exact zk6 (P:=fun e=>0<e.1) ht (fun _ _ _=>ht) o.ti
 ·refine zk6 (P:=fun e=>∀ f∈e.2,inF l f.1=true) hf (fun e _ he f hx=>?_) o.fi
  rcases List.mem_append.1 hx with hx | hx
  ·exact he f hx
  ·exact hf f hx
 ·intro e he
  have key:∀ {h:List En},(∀ e∈h,e.2.length≤m)→∀ e∈A.withR h t fs,e.2.length≤m+k:=by
   intro h
   induction h with
   | nil=>intro _ e he; simp [A.withR] at he; rw [he]; simp only; omega
   | cons d h ih=>
    intro hp e he
    unfold A.withR at he
    split at he
    ·rcases List.mem_cons.1 he with rfl | he
     ·have := hp _ List.mem_cons_self; omega
     ·exact ih (fun x hx=>hp x (List.mem_cons_of_mem _ hx)) e he
    ·split at he
     ·rcases List.mem_cons.1 he with rfl | he
      ·have := hp d List.mem_cons_self; simp only [List.length_append]; omega
      ·have := hp e (List.mem_cons_of_mem _ he); omega
     ·rcases List.mem_cons.1 he with rfl | he
      ·simp only; omega
      ·have := hp e he; omega
  exact key o.fl e he
theorem yca {l:List Dm} {h:List En} {t:Int} {fs:List Fc} (e:zew l h t fs=0):zd1 l fs=true∧t≠0∧zc4 h t=false∧h.length<5000:=by
 unfold zew at e
 split at e
 ·omega
 ·rename_i h1
  split at e
  ·omega
  ·rename_i h2
   split at e
   ·omega
   ·refine ⟨by simpa using h1,fun q=>h2 (.inl q),?_,by omega⟩
    cases h3:zc4 h t
    ·rfl
    ·exact absurd (.inr h3) h2
theorem ycj {l:List Dm} {h:List En} {t:Int} {fs:List Fc} (e:zew l h t fs=0):zj6 l h t fs=withR h t fs:=by
 unfold zj6
 rw [if_pos e,← zp4 (yca e).2.2.1,zjl]
theorem yfx {h:List En} {t:Int} {fs:List Fc} (hs:zbw h) (ht:zc4 h t=false) {m:Nat} (hm:∀ e∈h,e.2.length≤m) (hk:fs.length≤m):∀ e∈withR h t fs,e.2.length≤m:=by
 intro e he
 rw [← zjl,zp4 ht] at he
 unfold zm8 at he
 rcases List.mem_append.1 he with he | he
 ·exact hm e (List.mem_of_mem_take he)
 ·rcases List.mem_cons.1 he with rfl | he
  ·exact hk
  ·exact hm e (List.mem_of_mem_drop he)
theorem okH.add {l:List Dm} {h:List En} (o:okH l 5000 200 h) {t:Int} (ht:0≤t) (fs:List Fc):okH l 5000 200 (zj6 l h t fs):=by
 by_cases e:zew l h t fs=0
 ·obtain ⟨h1,h2,h3,h4⟩:=yca e
  obtain ⟨f1,f2⟩:=zdu h1
  have w:=o.withR (t:=t) (by omega) f2 f1
  rw [ycj e]
  exact ⟨w.rs,w.ti,w.fi,by have := zll h t fs; omega,yfx o.rs h3 o.fl f1⟩
 ·unfold zj6; rw [if_neg e]; exact o
theorem okH.rest {l:List Dm} {n m:Nat} {h:List En} (o:okH l n m h) (a b:Int):okH l n m (zb1 a b h):=by
 refine ⟨ybm o.rs,fun x hx=>?_,fun x hx=>?_,?_,fun x hx=>?_⟩
 ·obtain ⟨e,he,rfl⟩:=zoo hx; exact o.ti e he
 ·obtain ⟨e,he,rfl⟩:=zoo hx; exact fun f hf=>o.fi e he f (List.mem_filter.1 hf).1
 ·have := List.length_filterMap_le (zhh a b) h; have := o.le; unfold zb1; omega
 ·obtain ⟨e,he,rfl⟩:=zoo hx
  have := o.fl e he
  have := List.length_filter_le (zct a b) e.2
  simp only; omega
theorem okH.ent {l:List Dm} {n m:Nat} {h:List En} (o:okH l n m h) (a b:Int):okH l n m (zfl a b h):=by
 refine ⟨ye2 o.rs,fun x hx=>?_,fun x hx=>?_,?_,fun x hx=>?_⟩
 ·obtain ⟨e,he,rfl,_⟩:=zra hx; exact o.ti e he
 ·obtain ⟨e,he,rfl,_⟩:=zra hx; exact fun f hf=>o.fi e he f (List.mem_filter.1 hf).1
 ·have := List.length_filterMap_le (zin a b) h; have := o.le; unfold zfl; omega
 ·obtain ⟨e,he,rfl,_⟩:=zra hx
  have := o.fl e he
  have := List.length_filter_le (inR a b) e.2
  simp only; omega
theorem zxb {l:List Dm}:∀ {es h:List En},(∀ e∈h,0<e.1∧∀ f∈e.2,inF l f.1=true)→(∀ e∈es,0<e.1∧∀ f∈e.2,inF l f.1=true)→∀ e∈zbk h es,0<e.1∧∀ f∈e.2,inF l f.1=true
 | [],h,h1,_=>h1
 | d::es,h,h1,h2=>by
  obtain ⟨d1,d2⟩:=h2 d List.mem_cons_self
  refine zxb (es:=es) (h:=zg7 h d) ?_ fun x hx=>h2 x (List.mem_cons_of_mem _ hx)
  unfold zg7
  split
  ·refine zk6 (P:=fun e=>0<e.1∧∀ f∈e.2,inF l f.1=true) ⟨d1,d2⟩ (fun e _ he=>⟨d1,fun f hx=>?_⟩) h1
   rcases List.mem_append.1 hx with hx | hx
   ·exact he.2 f hx
   ·exact d2 f hx
  ·exact h1
theorem ye1 {l:List Dm} {a b:Int} {h es:List En} (e:ze2 l a b h es=0):zdz l a b 0 es=true∧(zgm a b h es).length≤5000∧∀ x∈zgm a b h es,x.2.length≤200:=by
 unfold ze2 at e
 split at e
 ·omega
 ·rename_i h1
  split at e
  ·omega
  ·rename_i h2
   refine ⟨by simpa using h1,by omega,fun x hx=>?_⟩
   rcases Nat.lt_or_ge 200 x.2.length with h3 | h3
   ·exact absurd (.inr (List.any_eq_true.2 ⟨x,hx,decide_eq_true h3⟩)) h2
   ·exact h3
theorem okH.repl {l:List Dm} {h:List En} (o:okH l 5000 200 h) (a b:Int) (es:List En):okH l 5000 200 (zhi l a b h es):=by
 unfold zhi
 by_cases e:ze2 l a b h es=0
 ·rw [if_pos e]
  obtain ⟨h1,h2,h3⟩:=ye1 e
  obtain ⟨g1,g2⟩:=zkb h1
  have hr:=o.rest a b
  have hf:=zxb (l:=l) (h:=zb1 a b h) (es:=es) (fun e he=>⟨hr.ti e he,hr.fi e he⟩) (fun e he=>⟨(g2 e he).1,(zdu (g2 e he).2.1).2⟩)
  exact ⟨zh5 hr.rs,fun e he=>(hf e he).1,fun e he=>(hf e he).2,h2,h3⟩
 ·rw [if_neg e]; exact o
def zhn (h:List En):List Fc:=(h.map (·.2)).flatten
def zgc (h:List En) (t:Int):List Fc:=zhn (h.filter fun e=>decide (e.1≤t))
theorem zqr:∀ {h:List En} (t:Int),zbw h→h.take (zca h t)=h.filter fun e=>decide (e.1≤t)
 | [],t,_=>by simp
 | e::h,t,hs=>by
  obtain ⟨h1,h2⟩:=zf9.1 hs
  rw [zxx]
  have out:t≤e.1→(h.filter fun e=>decide (e.1≤t))=[]:=fun hle=>List.filter_eq_nil_iff.2 fun x hx=>by have := h1 x hx; simp; omega
  by_cases hl:e.1<t
  ·rw [if_pos hl,List.take_succ_cons,zqr t h2,List.filter_cons_of_pos (by simp; omega)]
  ·rw [if_neg hl]
   by_cases he:e.1=t
   ·rw [if_pos he,List.filter_cons_of_pos (by simp; omega),out (by omega)]; simp
   ·rw [if_neg he,List.filter_cons_of_neg (by simp; omega),out (by omega)]; simp
theorem zlm {h:List En} (hs:zbw h) (t:Int):ze3 h (zca h t)=zgc h t:=by
 unfold ze3 zgc zhn
 rw [zqr t hs]
theorem zom (e:En) (h:List En):zhn (e::h)=e.2++zhn h:=rfl
theorem yeg:∀ {h:List En} {e:En},zbw h→e∈h→atT h e.1=e.2
 | [],_,_,he=>by simp at he
 | d::h,e,hs,he=>by
  obtain ⟨h1,h2⟩:=zf9.1 hs
  unfold atT
  rcases List.mem_cons.1 he with rfl | he
  ·rw [if_pos rfl]
  ·have := h1 e he
   rw [if_neg (by omega)]; exact yeg h2 he
theorem zwk {m:Nat}:∀ {h:List En} (s:Int),(∀ e∈h,e.2.length≤m)→(atT h s).length≤m
 | [],s,_=>by simp [atT]
 | d::h,s,hp=>by
  unfold atT
  split
  ·exact hp d List.mem_cons_self
  ·exact zwk s fun x hx=>hp x (List.mem_cons_of_mem _ hx)
theorem zxe {n k:Nat} {es h:List En} (hs:zbw h) (he:zbw es) (h1:∀ e∈h,e.2.length≤n) (h2:∀ e∈es,e.2.length≤k):∀ e∈zbk h es,e.2.length≤n+k:=fun e hx=>by
 have h3:=yeg (zh5 (es:=es) hs) hx
 rw [zxd _ hs he] at h3
 have h4:=congrArg List.length h3
 rw [List.length_append] at h4
 have h5:=zwk e.1 h1
 have h6:=zwk e.1 h2
 omega
theorem zmz {l:List Dm} {a b T:Int}:∀ {es:List En} {last:Int},zdz l a b last es=true→last<T→(∀ e∈es,e.1<T)→(es.length:Int)+last<T
 | [],last,_,h1,_=>by simp; exact h1
 | e::es,last,h,h1,h2=>by
  obtain ⟨g1,_,_,g4⟩:=zql h
  have := zmz g4 (h2 e List.mem_cons_self) fun x hx=>h2 x (List.mem_cons_of_mem _ hx)
  rw [List.length_cons]; omega
section
variable {h:Hp}
theorem yli {b o off:Nat} (k:K (.pointer (some ⟨b,o+off,none⟩)) h):pv (faV off (.pointer (some ⟨b,o,none⟩))) K h:=⟨_,rfl,k⟩
end
theorem zt7 {α:Type} (l:List (List α)) {i:Nat} (h:i<l.length):(l.take (i+1)).flatten=(l.take i).flatten++l[i]:=by
 rw [List.take_add_one,List.getElem?_eq_getElem h,Option.toList_some,List.flatten_append]; simp
theorem yk3 {n:Nat} (hm:za7 M N) (hn:n≤1000000000000) (k:∀ v' M' N',own M' N 90 2 v' 0 []→(∀ q,q<N→M' q=M q)→N≤N'→za7 M' N'→(Hp.mk F M' N').wf→K v' ⟨F,M',N'⟩) :
  za2 Tryz.prog (.func (.func 152) #[] #[]) #[.slice none 0 0,.int .i64 (n:Nat)] K E ⟨F,M,N⟩:=by
 refine za3 mixed Tryz.func152 (by kernel_rfl) (yr7 _ E _ _) (fun hw=>?_)
 refine zh2 (by omega) ?_
 try simp only [sS]
 rw [yhw]
 try simp only [sS]
 refine zgn (a:=0) (b:=0) (by omega) (by omega) ?_
 refine zgn (a:=n) (b:=0) (by omega) (by omega) ?_
 rw [Nat.sub_zero]
 refine zbu (fun h0=>?_) (fun h0=>?_)
 ·try simp only [sS]
  refine zrx 0 0 0 (Nat.le_refl _) (Nat.le_refl _) (Nat.le_refl _) ?_
  refine ⟨none,0,0,[],n,.i64,rfl,rfl,⟨by simp,.inl ⟨_,_,rfl,rfl⟩⟩,Nat.le_refl _,by omega,by omega,by simp [maxLen]; omega,fun b c hb0 hc hcm=>?_⟩
  have hb:N≤b:=hb0
  try simp only [sS]
  refine zmn 0 (Nat.zero_le _) ?_
  try simp only [sS]
  rw [zuz]
  refine fun hc'=>⟨_,za0 hc',fun hw'=>k _ _ _ ⟨by simp,.inr ⟨b,c,_,rfl,Nat.zero_le _,hcm,hb,za5 _ _ _⟩⟩ (fun q hq=>za4 _ _ (by omega)) (Nat.le_succ_of_le hb) (hm.new hb _) hw'⟩
 ·try simp only [sS]
  rw [zuz]
  exact fun hc'=>⟨_,za0 hc',fun hw'=>k _ _ _ own.nil (fun _ _=>rfl) (Nat.le_refl _) hm hw'⟩
def zmt (F:Nat→Option (List Value)) (v:Value) (ts:List (List Fc)):Prop:=∃ rows,sF F 1 v ts.length rows.flatten∧zad (fun r t=>∃ u,r=[u]∧zar F u t∧t.length≤140737488351232) 1 rows ts
theorem zmt.mono {v:Value} {ts:List (List Fc)} (h:zmt F v ts) (hF:zac F F'):zmt F' v ts:=let ⟨rows,h1,h2⟩:=h; ⟨rows,h1.mono hF,h2.mono fun _ _ ⟨u,e,h,l⟩=>⟨u,e,h.mono hF,l⟩⟩
theorem ybp {v:Value} {ts:List (List Fc)} {K:Value→zae} (hv:zmt F v ts) {i:Nat} (hi:i<ts.length) (k:∀ p u,zar F u ts[i]→ts[i].length≤140737488351232→K p u ⟨F,M,N⟩):pv (iaV none 1 v (.int .i64 (i:Nat))) (fun p=>ld false 1 p (K p)) ⟨F,M,N⟩:=by
 obtain ⟨rows,h1,h2⟩:=hv
 obtain ⟨b,o,c,cs,r,rfl,hF,_,⟨u,rfl,hu,hul⟩,hl,_,hle,ht,hj⟩:=zix h1 h2 (by decide) hi
 exact zbz hi (zfj (zao (zdi hF) (hj 0 (by decide))) (k _ _ hu hul))
theorem yec {v:Value} {ts:List (List Fc)} (hv:zmt F v ts) (hl:ts.flatten.length≤1000000000) (htl:ts.length≤1000000000) (k:∀ v' F' N',(Hp.mk F' M N').wf→zac F F'→N≤N'→zar F' v' ts.flatten→K v' ⟨F',M,N'⟩) :
  za2 Tryz.prog (.func (.func 118) #[] #[]) #[v] K E ⟨F,M,N⟩:=by
 refine za3 mixed Tryz.func118 (by kernel_rfl) (ypk _ E _) (fun hw=>?_)
 have hm:za7 M N:=hw.m
 have hlv:za9 v=some (.int .i64 (ts.length:Nat)):=by obtain ⟨rows,h1,_⟩:=hv; obtain ⟨a,c,rfl,_⟩:=h1.form; rfl
 have hfl:∀ i,i≤ts.length→(ts.take i).flatten.length≤ts.flatten.length:=fun i hi=>by
  have h:=congrArg List.flatten (List.take_append_drop i ts)
  rw [List.flatten_append] at h
  have := congrArg List.length h
  rw [List.length_append] at this
  omega
 try simp only [hlv]
 try simp only [sS]
 refine zr4 (σ:=Nat) (fun i=>.int .i64 ((ts.take i).flatten.length:Nat)) (fun i=>.int .i64 (i:Nat)) (fun i h=>h=⟨F,M,N⟩∧i≤ts.length) (fun i=>ts.length - i) 0 rfl rfl
  (fun hw1=>⟨_,za0 hw1,rfl,Nat.zero_le _⟩) (fun k1 i j h1 hI hw1 next=>?_)
 rw [zrj]
 obtain ⟨rfl,hi⟩:=hI
 refine zaf (fun hlt=>?_) (fun hge=>?_)
 ·have h1:i<ts.length:=by omega
  try simp only [sS]
  refine ybp hv h1 fun p u hu hul=>?_
  obtain ⟨a,c,rfl⟩:=hu.form
  have h2:=hfl (i+1) h1
  have e:=zt7 ts h1
  rw [e,List.length_append] at h2
  try simp only [sS]
  refine znc (by omega) (zh2 (by omega) ?_)
  try simp only [sS]
  rw [zm6]
  refine zai (by omega) ?_
  rw [← List.length_append,← e]
  exact next (i+1) _ _ (by omega) (fun hw2=>⟨_,za0 hw2,rfl,h1⟩)
 ·try simp only [sS]
  rw [List.take_of_length_le (by omega)]
  refine yk3 hm (by omega) (fun u M1 N1 ho hM1 hN1 hm1 hw1=>?_)
  try simp only [hlv]
  try simp only [sS]
  refine zng (σ:=Nat×Value) (fun s=>s.2) (fun s=>.int .i64 (s.1:Nat))
   (fun s h=>∃ M' N' rows,h=⟨F,M',N'⟩∧N≤N'∧(∀ q,q<N→M' q=M q)∧za7 M' N'∧s.1≤ts.length∧own M' N 90 2 s.2 (ts.take s.1).flatten.length rows.flatten∧zad (zc1 F) 2 rows (ts.take s.1).flatten) (fun s=>ts.length - s.1) (0,u) rfl rfl
   (fun hw2=>⟨_,za0 hw2,M1,N1,[],rfl,hN1,hM1,hm1,Nat.zero_le _,ho,zad.nil _ _⟩) (fun k1 s j h1 hI hw2 next=>?_)
  rw [zn7]
  obtain ⟨M2,N2,rows,rfl,hN2,hM2,hm2,hi,ho2,hr2⟩:=hI
  refine zaf (fun hlt=>?_) (fun hge=>?_)
  ·have h1:s.1<ts.length:=by omega
   try simp only [sS]
   refine ybp hv h1 fun p w hwt hwl=>?_
   obtain ⟨rows3,hw3,hr3⟩:=hwt
   have h2:=hfl (s.1+1) h1
   have e:=zt7 ts h1
   rw [e,List.length_append] at h2
   refine ho2.app hm2 hN2 hw3.sR hr3.f1 (by omega) (by unfold maxLen; omega) (fun w' M3 N3 h4 h5 h6 h7=>?_)
   refine zai (by omega) ?_
   refine next (s.1+1,w') _ _ (by simp only; omega) (fun hw4=>⟨_,za0 hw4,M3,N3,rows++rows3,rfl,by omega,fun q hq=>?_,h7,h1,?_,?_⟩)
   ·have q1:s.2.ownBlock≠some q:=fun e=>by have := (ho2.ge q e).1; omega
    exact ((h5 q q1 (by omega)).1).trans (hM2 q hq)
   ·simp only
    rw [e,List.length_append,List.flatten_append]; exact h4
   ·simp only
    rw [e]; exact zga hr2 hr3
  ·try simp only [sS]
   rw [List.take_of_length_le (by omega)] at ho2 hr2
   exact fun hc=>⟨_,zb7 hm hM2 hc,fun hw'=>k _ _ _ hw' (zag hc) hN2 (zk4 hc ho2 hr2)⟩
theorem yn2 {α:Type} {R:List Value→α→Prop} {B sz off:Nat} {e:TypeId} {v:Value} {l:List α} {rows:List (List Value)} {K:Value→Value→zae} (hv:own M B e sz v l.length rows.flatten) (hr:zad R sz rows l) (ho:off<sz) {i:Nat} (hi:i<l.length)
  (k:∀ b c r x,v=.slice (some ⟨b,0,none⟩) l.length c→(∃ cs tot,M b=some (.cells e cs tot)∧cs[i*sz+off]?=some x)→rows[i]?=some r→R r l[i]→r.length=sz→r[off]?=some x→K (.pointer (some ⟨b,0+i*sz,none⟩)) (.pointer (some ⟨b,0+i*sz+off,none⟩)) x ⟨F,M,N⟩):pv (iaV none sz v (.int .i64 (i:Nat))) (fun p=>pv (faV off p) fun q=>ld false 1 q (K p q)) ⟨F,M,N⟩:=by
 rcases hv.2 with ⟨rfl,h0⟩ | ⟨b,c,rest,rfl,h1,h2,h3,h4⟩
 ·omega
 obtain ⟨r,hri,hR,hdt,hle,hrl⟩:=hr.get (List.getElem?_eq_getElem hi)
 have hx:r[off]?=some (r[off]'(by omega)):=List.getElem?_eq_getElem _
 have hcx:(rows.flatten++rest)[i*sz+off]?=some (r[off]'(by omega)):=by
  rw [List.getElem?_append_left (by omega),← hx,← hdt,List.getElem?_take,if_pos ho,List.getElem?_drop]
 refine zbz hi (yli (zfj (zao (zaq h4) (by rw [Nat.zero_add]; exact hcx)) ?_))
 exact k b c r _ rfl ⟨_,_,h4,hcx⟩ hri hR hrl hx
theorem zqk {sz:Nat}:∀ (rows:List (List Value)) (i off:Nat) (x:Value),(∀ r∈rows,r.length=sz)→off<sz→(hi:i<rows.length)→rows.flatten.set (i*sz+off) x=(rows.set i (rows[i].set off x)).flatten
 | [],i,off,x,_,_,hi=>by simp at hi
 | r::rows,0,off,x,hl,ho,_=>by
  have := hl r List.mem_cons_self
  simp only [List.flatten_cons,Nat.zero_mul,Nat.zero_add,List.set_cons_zero,List.getElem_cons_zero]
  rw [List.set_append_left _ _ (by omega)]
 | r::rows,i+1,off,x,hl,ho,hi=>by
  have h1:=hl r List.mem_cons_self
  have ih:=zqk rows i off x (fun q hq=>hl q (List.mem_cons_of_mem _ hq)) ho (by simpa using hi)
  simp only [List.flatten_cons,List.set_cons_succ,List.getElem_cons_succ]
  rw [List.set_append_right _ _ (by rw [Nat.succ_mul]; omega),← ih,h1]
  congr 2
  rw [Nat.succ_mul]; omega
theorem zxq {α:Type} {R:List Value→α→Prop} {sz:Nat} {rows:List (List Value)} {l:List α} (h:zad R sz rows l) {r:List Value} {x:α} (h1:r.length=sz∧∀ c∈r,c.oneCell'=true) (hR:R r x) (i:Nat):zad R sz (rows.set i r) (l.set i x):=by
 refine ⟨fun q hq=>?_,fun q hq=>?_,by rw [List.length_set,List.length_set]; exact h.all.1,fun j a b ha hb=>?_⟩
 ·rcases List.mem_or_eq_of_mem_set hq with hq | rfl
  ·exact h.len q hq
  ·exact h1.1
 ·rcases List.mem_or_eq_of_mem_set hq with hq | rfl
  ·exact h.one q hq
  ·exact h1.2
 ·rw [List.getElem?_set] at ha hb
  by_cases hij:i=j
  ·rw [if_pos hij] at ha hb
   split at ha
   ·split at hb
    ·cases ha; cases hb; exact hR
    ·cases hb
   ·cases ha
  ·rw [if_neg hij] at ha hb
   exact h.all.2 j a b ha hb
theorem ymz {α:Type} {R:List Value→α→Prop} {B sz off:Nat} {e:TypeId} {v:Value} {l:List α} {rows:List (List Value)} {K:Value→Value→zae} {u:Value} {y:α} (hv:own M B e sz v l.length rows.flatten) (hr:zad R sz rows l) (ho:off<sz) {i:Nat} (hi:i<l.length) (hu:u.cells = #[u]) (hu1:u.oneCell'=true) (hR:∀ r,rows[i]?=some r→R (r.set off u) y)
  (k:∀ p q M' rows',own M' B e sz v (l.set i y).length rows'.flatten→zad R sz rows' (l.set i y)→(∀ q,v.ownBlock≠some q→M' q=M q)→(∀ n,za7 M n→za7 M' n)→K p q undef ⟨F,M',N⟩):pv (iaV none sz v (.int .i64 (i:Nat))) (fun p=>pv (faV off p) fun q=>st 1 q u (K p q)) ⟨F,M,N⟩:=by
 rcases hv.2 with ⟨rfl,h0⟩ | ⟨b,c,rest,rfl,h1,h2,h3,h4⟩
 ·omega
 obtain ⟨r,hri,hRr,hdt,hle,hrl⟩:=hr.get (List.getElem?_eq_getElem hi)
 have hri':=hri
 obtain ⟨hil,hre⟩:=List.getElem?_eq_some_iff.1 hri
 have hrl1:=hr.one r (List.mem_of_getElem? hri)
 refine zbz hi (yli ?_)
 have hlen:0+i*sz+off<(rows.flatten++rest).length:=by rw [List.length_append]; omega
 have hsp:zbs (rows.flatten++rest) (0+i*sz+off) u.cells.toList=(rows.set i (r.set off u)).flatten++rest:=by
  rw [hu,show (#[u]:Array Value).toList=[u] from rfl,ziv hlen,List.set_append_left _ _ (by omega),Nat.zero_add,zqk rows i off u hr.len ho hil,hre]
 refine ya6 h4 (by rw [hu]; rfl) (by rw [hu]; intro x hx; rw [List.mem_singleton.1 hx]; exact hu1) (by omega) hsp ?_
 refine k _ _ _ (rows.set i (r.set off u)) ⟨?_,.inr ⟨b,c,rest,by rw [List.length_set],by rw [List.length_set]; exact h1,h2,h3,za5 _ _ _⟩⟩ (zxq hr ⟨by rw [List.length_set]; exact hrl,fun x hx=>?_⟩ (hR r hri) i) (fun q hq=>za4 _ _ (fun e=>hq (by rw [e]; rfl))) (fun n hn=>hn.set (hn.lt h4) _)
 ·rw [List.length_set,zck _ (fun q hq=>?_),List.length_set,hr.all.1]
  rcases List.mem_or_eq_of_mem_set hq with hq | rfl
  ·exact hr.len q hq
  ·rw [List.length_set]; exact hrl
 ·rcases List.mem_or_eq_of_mem_set hx with hx | rfl
  ·exact hrl1 x hx
  ·exact hu1
def isW (F:Nat→Option (List Value)) (w:Value) (a b:Int):Prop:=∃ c1 c2,w=.func (.func 78) #[] #[.pointer (some ⟨c1,0,none⟩),.pointer (some ⟨c2,0,none⟩)]∧F c1=some [.int .i64 a]∧F c2=some [.int .i64 b]
theorem isW.mono {w:Value} {a b:Int} (h:isW F w a b) (hF:zac F F'):isW F' w a b:=let ⟨c1,c2,h1,h2,h3⟩:=h; ⟨c1,c2,h1,hF _ _ h2,hF _ _ h3⟩
theorem zo1 {a b:Int} (k:∀ w F' N',(Hp.mk F' M N').wf→zac F F'→N≤N'→isW F' w a b→K w ⟨F',M,N'⟩) :
  za2 Tryz.prog (.func (.func 46) #[] #[]) #[.int .i64 a,.int .i64 b] K E ⟨F,M,N⟩:=by
 refine za3 mixed Tryz.func46 (by kernel_rfl) (t46 _ E _ _) (fun hw=>?_)
 have hm:za7 M N:=hw.m
 refine zal (cs:=[.int .i64 a]) (fun b1 hb1=>?_)
 refine zal (cs:=[.int .i64 b]) (fun b2 hb2=>?_)
 refine fun hc=>⟨_,zb7 hm (fun q hq=>(za4 _ _ (by omega)).trans (za4 _ _ (by omega))) hc,fun hw'=>k _ _ _ hw' (zag hc) (by omega) ⟨b1,b2,rfl,?_,?_⟩⟩
 ·exact zgs (by omega) ((za4 _ _ (by omega)).trans (za5 _ _ _))
 ·exact zgs (by omega) (za5 _ _ _)
theorem ldF {sz b o:Nat} {cs:List Value} {v:Value} (k:K v ⟨F,M,N⟩) (hF:F b=some cs) (hv:cs[o]?=some v:=by rfl):ld false sz (.pointer (some ⟨b,o,none⟩)) K ⟨F,M,N⟩:=zfj (zao (zdi hF) hv) k
theorem yn8 {w:Value} {a b:Int} {cs:List Value} {f:Fc} (hW:isW F w a b) (hf:zc1 F cs f) (k:∀ N',N≤N'→(Hp.mk F M N').wf→K (.bool (inR a b f)) ⟨F,M,N'⟩) :
  za2 Tryz.prog w #[.agg cs.toArray] K E ⟨F,M,N⟩:=by
 obtain ⟨c1,c2,rfl,hc1,hc2⟩:=hW
 obtain ⟨kv,rfl,hkv,hkl⟩:=hf
 refine za3 mixed Tryz.func78 (by kernel_rfl) (t78 _ E _ _ _) (fun hw=>?_)
 have hm:za7 M N:=hw.m
 have fin:∀ b1,N≤b1→∀ r:Bool,r=inR a b f→∀ h',h'=(⟨F,upd M b1 (some (.cells 90 [kv,.int .i64 f.2] 2)),b1+1⟩:Hp)→h'.wf→∃ h'',h'.wk h''∧(h''.wf→K (.bool r) h''):=fun b1 hb1 r e h' e' hc=>by
  subst e'
  refine ⟨⟨F,M,b1+1⟩,zbp hc (zav (zb6 _) (hm _ hb1)),fun hw'=>?_⟩
  rw [e]; exact k _ (by omega) hw'
 refine zal (cs:=[kv,.int .i64 f.2]) (fun b1 hb1=>?_)
 have hb:=za5 M b1 (some (.cells 90 [kv,.int .i64 f.2] 2))
 try simp only [sS]
 refine ldM (v:=kv) ?_ hb
 refine zam hkv ?_
 refine zbu (fun h0=>?_) (fun h0=>?_)
 ·have hl:0<f.1.length:=by omega
  try simp only [sS]
  refine ldM (v:=kv) ?_ hb
  try simp only [sS]
  refine zax (i:=0) hkv hl fun p=>?_
  try simp only [sS]
  refine ldF (v:=.int .i64 a) ?_ hc1
  try simp only [sS]
  have e0:f.1.getD 0 0=f.1[0]:=zb0 hl 0
  refine ze1 (fun h1=>?_) (fun h1=>?_)
  ·try simp only [sS]
   refine ldM (v:=kv) ?_ hb
   try simp only [sS]
   refine zax (i:=0) hkv hl fun p=>?_
   try simp only [sS]
   refine ldF (v:=.int .i64 b) ?_ hc2
   try simp only [sS]
   refine zaf (fun h2=>?_) (fun h2=>?_)
   ·try simp only [sS]
    exact fin b1 hb1 true (by unfold inR; rw [decide_eq_true ⟨hl,by omega,by omega⟩]) _ rfl
   ·try simp only [sS]
    exact fin b1 hb1 false (by unfold inR; rw [decide_eq_false (by omega)]) _ rfl
  ·try simp only [sS]
   exact fin b1 hb1 false (by unfold inR; rw [decide_eq_false (by omega)]) _ rfl
 ·try simp only [sS]
  exact fin b1 hb1 false (by unfold inR; rw [decide_eq_false (by omega)]) _ rfl
def ofK (a b:Int) (want:Bool) (f:Fc):Bool:=inR a b f == want
theorem yon {x y:Bool}:za1 .bool .neq (.bool x) (.bool y)=some (.bool !(x == y)):=rfl
theorem ygi {b1 b2:Nat} {w:Value} {a b:Int} {want:Bool} {cs:List Value} {f:Fc} (h1:F b1=some [w]) (h2:F b2=some [.bool want]) (hW:isW F w a b) (hf:zc1 F cs f) (k:∀ N',N≤N'→(Hp.mk F M N').wf→K (.bool (!ofK a b want f)) ⟨F,M,N'⟩) :
  za2 Tryz.prog (.func (.func 77) #[] #[.pointer (some ⟨b1,0,none⟩),.pointer (some ⟨b2,0,none⟩)]) #[.agg cs.toArray] K E ⟨F,M,N⟩:=by
 have hf':=hf
 obtain ⟨kv,rfl,hkv,hkl⟩:=hf'
 refine za3 mixed Tryz.func77 (by kernel_rfl) (t77 _ E _ _ _) (fun hw=>?_)
 have hm:za7 M N:=hw.m
 refine zal (cs:=[kv,.int .i64 f.2]) (fun b3 hb3=>?_)
 refine ldF (v:=w) ?_ h1
 refine zas (vs:=[kv,.int .i64 f.2]) ?_
 refine ldF (v:=.bool want) ?_ h2
 refine yn8 hW hf (fun N2 hN2 hw2=>?_)
 refine ⟨zao (zdi h2) rfl,?_⟩
 refine zaa yon ?_
 exact fun hc=>⟨⟨F,M,N2⟩,zbp hc (zav (zb6 _) (hm _ hb3)),fun hw'=>k _ (by omega) hw'⟩
theorem znz {sz:Nat}:∀ (rows:List (List Value)) (i:Nat),(∀ r∈rows,r.length=sz)→rows.flatten.take (i*sz)=(rows.take i).flatten
 | [],i,_=>by simp
 | x::rows,0,_=>by simp
 | x::rows,i+1,h=>by
  have hx:=h x List.mem_cons_self
  have ih:=znz rows i fun r hr=>h r (List.mem_cons_of_mem _ hr)
  rw [List.flatten_cons,List.take_succ_cons,List.flatten_cons,List.take_append,List.take_of_length_le (by rw [Nat.succ_mul]; omega),← ih]
  congr 2
  rw [Nat.succ_mul]; omega
theorem ye6 {sz:Nat} {rows:List (List Value)} {rest r:List Value} (hl:∀ q∈rows,q.length=sz) {i:Nat} (hi:i<rows.length) (hr:r.length=sz):zbs (rows.flatten++rest) (i*sz) r=(rows.set i r).flatten++rest:=by
 have hA:(rows.take i).flatten.length=i*sz:=by rw [zck _ (fun q hq=>hl q (List.mem_of_mem_take hq)),List.length_take,Nat.min_eq_left (by omega)]
 have e:rows=rows.take i++rows[i]::rows.drop (i+1):=by rw [← List.drop_eq_getElem_cons hi,List.take_append_drop]
 have h:=zie (rows.take i).flatten rows[i] r ((rows.drop (i+1)).flatten++rest) (by rw [hl _ (List.getElem_mem hi),hr])
 rw [hA] at h
 have e1:rows.flatten++rest=(rows.take i).flatten++rows[i]++((rows.drop (i+1)).flatten++rest):=by
  have e2:=congrArg List.flatten e
  rw [List.flatten_append,List.flatten_cons] at e2
  rw [e2]; simp [List.append_assoc]
 rw [e1,h,List.set_eq_take_append_cons_drop,if_pos hi]
 simp [List.flatten_append,List.append_assoc]
theorem zxk {α:Type} {R:List Value→α→Prop} {B sz:Nat} {e:TypeId} {v:Value} {l:List α} {rows:List (List Value)} {K:Value→zae} {r:List Value} {y:α} (hv:own M B e sz v l.length rows.flatten) (hr:zad R sz rows l) {i:Nat} (hi:i<l.length) (hl:r.length=sz) (h1:∀ c∈r,c.oneCell'=true) (hR:R r y)
  (k:∀ p M',own M' B e sz v (l.set i y).length (rows.set i r).flatten→zad R sz (rows.set i r) (l.set i y)→(∀ q,v.ownBlock≠some q→M' q=M q)→(∀ n,za7 M n→za7 M' n)→K p undef ⟨F,M',N⟩):pv (iaV none sz v (.int .i64 (i:Nat))) (fun p=>st sz p (.agg r.toArray) (K p)) ⟨F,M,N⟩:=by
 rcases hv.2 with ⟨rfl,h0⟩ | ⟨b,c,rest,rfl,g1,g2,g3,g4⟩
 ·omega
 have hlen:=hr.all.1
 have hfl:=hr.flen
 have hle:i*sz+sz≤l.length*sz:=by rw [← Nat.succ_mul]; exact Nat.mul_le_mul_right _ hi
 refine zbz hi ?_
 have hsp:zbs (rows.flatten++rest) (0+i*sz) (Value.agg r.toArray).cells.toList=(rows.set i r).flatten++rest:=by
  rw [Nat.zero_add]
  exact ye6 hr.len (by omega) hl
 refine ya6 g4 (by simpa [Value.cells] using hl) (by simpa [Value.cells] using h1) (by rw [List.length_append]; omega) hsp ?_
 have hrs:=zxq hr (r:=r) (x:=y) ⟨hl,h1⟩ hR i
 refine k _ _ ⟨by rw [hrs.flen],.inr ⟨b,c,rest,by rw [List.length_set],by rw [List.length_set]; exact g1,g2,g3,za5 _ _ _⟩⟩ hrs (fun q hq=>za4 _ _ (fun e=>hq (by rw [e]; rfl))) (fun n hn=>hn.set (hn.lt g4) _)
theorem ymp {B:Nat} {v d:Value} {l:List Fc} {rows:List (List Value)} {p:Fc→Bool} (hv:own M B 90 2 v l.length rows.flatten) (hr:zad (zc1 F) 2 rows l) (hl:l.length≤1000000000)
  (hd:∀ {K:zae} (M1:Nat→Option zak) (N1:Nat) (cs:List Value) (f:Fc),zc1 F cs f→(∀ N',N1≤N'→(Hp.mk F M1 N').wf→K (.bool (!p f)) ⟨F,M1,N'⟩)→za2 Tryz.prog d #[.agg cs.toArray] K E ⟨F,M1,N1⟩)
  (k1:∀ i (hi:i<l.length),(∀ f∈l.take i,p f=true)→p l[i]=false→∀ N',N≤N'→(Hp.mk F M N').wf→K (.int .i64 (i:Nat)) ⟨F,M,N'⟩)
  (k2:(∀ f∈l,p f=true)→∀ N',N≤N'→(Hp.mk F M N').wf→K (.int .i64 (-1)) ⟨F,M,N'⟩) :
  za2 Tryz.prog (.func (.func 85) #[] #[]) #[v,d] K E ⟨F,M,N⟩:=by
 refine za3 mixed Tryz.func85 (by kernel_rfl) (t85 _ E _ _) (fun hw=>?_)
 have hlv:za9 v=some (.int .i64 (l.length:Nat)):=by obtain ⟨a,c,e,_⟩:=hv.form; rw [e]; rfl
 refine zaa hlv ?_
 refine znw (σ:=Nat) (fun i=>.int .i64 (i:Nat)) (fun i h=>∃ N',h=⟨F,M,N'⟩∧N≤N'∧i≤l.length∧∀ f∈l.take i,p f=true) (fun i=>l.length - i) 0 rfl
  (fun hw1=>⟨_,za0 hw1,N,rfl,Nat.le_refl _,Nat.zero_le _,by simp⟩) (fun kk i j h1 hI hw1 next=>?_)
 rw [znx]
 obtain ⟨N1,rfl,hN1,hi,he⟩:=hI
 refine zaf (fun hlt=>?_) (fun hge=>?_)
 ·have i1:i<l.length:=by omega
  try simp only [sS]
  refine zk5 hv hr (by decide) i1 fun q r _ hR _ _=>hd _ _ _ _ hR (fun N2 hN2 hw2=>?_)
  cases hp:p l[i]
  ·refine zdd ?_
   exact fun hc=>⟨_,za0 hc,fun hw'=>k1 i i1 he hp _ (by omega) hw'⟩
  ·refine zc8 ?_
   refine zai (by omega) ?_
   refine next (i+1) _ _ (by omega) (fun hw3=>⟨_,za0 hw3,N2,rfl,by omega,i1,fun f hf=>?_⟩)
   rw [List.take_add_one,List.getElem?_eq_getElem i1,Option.toList_some] at hf
   rcases List.mem_append.1 hf with hf | hf
   ·exact he f hf
   ·rw [List.mem_singleton.1 hf]; exact hp
 ·try simp only [sS]
  refine fun hc=>⟨_,za0 hc,fun hw'=>k2 (fun f hf=>he f ?_) _ hN1 hw'⟩
  rw [List.take_of_length_le (by omega)]; exact hf
theorem zo0 {α:Type} (l:List α) (i:Nat) (x:α) (hi:i<l.length):(l.set i x).take (i+1)=l.take i++[x]:=by
 rw [List.take_add_one,List.getElem?_set_self hi,Option.toList_some,List.take_set_of_le (Nat.le_refl _)]
set_option maxRecDepth 10000 in
set_option maxHeartbeats 2000000 in
theorem ymu {B:Nat} {v d:Value} {l:List Fc} {rows:List (List Value)} {p:Fc→Bool} (hv:own M B 90 2 v l.length rows.flatten) (hr:zad (zc1 F) 2 rows l) (hl:l.length≤1000000000) (hB:B≤N)
  (hd:∀ {K:zae} (M1:Nat→Option zak) (N1:Nat) (cs:List Value) (f:Fc),zc1 F cs f→(∀ N',N1≤N'→(Hp.mk F M1 N').wf→K (.bool (!p f)) ⟨F,M1,N'⟩)→za2 Tryz.prog d #[.agg cs.toArray] K E ⟨F,M1,N1⟩)
  (k:∀ v' M' N' rows',own M' B 90 2 v' (l.filter p).length rows'.flatten→zad (zc1 F) 2 rows' (l.filter p)→(∀ x,v.ownBlock≠some x→x<N→M' x=M x∧v'.ownBlock≠some x)→N≤N'→za7 M' N'→(Hp.mk F M' N').wf→∃ h',(Hp.mk F M' N').wk h'∧(h'.wf→K v' h')) :
  za2 Tryz.prog (.func (.func 75) #[] #[]) #[v,d] K E ⟨F,M,N⟩:=by
 refine za3 mixed Tryz.func75 (by kernel_rfl) (t75 _ E _ _) (fun hw=>?_)
 have hm:za7 M N:=hw.m
 have hlv:za9 v=some (.int .i64 (l.length:Nat)):=by obtain ⟨a,c,e,_⟩:=hv.form; rw [e]; rfl
 refine ymp hv hr hl hd (fun i hi he hpi N1 hN1 hw1=>?_) (fun he N1 hN1 hw1=>?_)
 rotate_left
 ·refine zi3 rfl ?_
  try simp only [sS]
  have e:l.filter p=l:=List.filter_eq_self.2 he
  rw [e] at k
  exact fun hc=>k v M N1 rows hv hr (fun x hx _=>⟨rfl,hx⟩) hN1 (hm.up hN1) hc
 refine zhl (by omega) ?_
 try simp only [sS]
 refine zai (by omega) ?_
 refine zqa (σ:=Nat×Nat) (fun s=>.int .i64 (s.1:Nat)) (fun s=>.int .i64 (s.2:Nat))
  (fun s h=>∃ M' N' rows' l',h=⟨F,M',N'⟩∧N≤N'∧own M' B 90 2 v l'.length rows'.flatten∧zad (zc1 F) 2 rows' l'∧l'.length=l.length∧s.1<s.2∧s.2≤l.length∧l'.take s.1=(l.take s.2).filter p∧l'.drop s.2=l.drop s.2∧(∀ x,v.ownBlock≠some x→x<N→M' x=M x)∧za7 M' N') (fun s=>l.length - s.2) (i,i+1) rfl rfl
  (fun hw2=>⟨_,za0 hw2,M,N1,rows,l,rfl,hN1,hv,hr,rfl,Nat.lt_succ_self _,hi,?_,rfl,fun _ _ _=>rfl,hm.up hN1⟩) (fun kk s j h1 hI hw2 next=>?_)
 ·simp only
  rw [List.take_add_one,List.getElem?_eq_getElem hi,Option.toList_some,List.filter_append,List.filter_eq_self.2 he]
  simp [hpi]
 rw [zq5]
 obtain ⟨M2,N2,rows2,l2,rfl,hN2,ho,hr2,hl2,hs,hs2,ht,hdr,hM2,hm2⟩:=hI
 refine zaa hlv ?_
 refine zaf (fun hlt=>?_) (fun hge=>?_)
 ·have j1:s.2<l.length:=by omega
  have j2:s.2<l2.length:=by omega
  have ej:l2[s.2]=l[s.2]:=by
   have h:=congrArg (fun x:List Fc=>x[0]?) hdr
   simp only [List.getElem?_drop,Nat.add_zero,List.getElem?_eq_getElem j1,List.getElem?_eq_getElem j2] at h
   exact Option.some.inj h
  have hdr':l2.drop (s.2+1)=l.drop (s.2+1):=by rw [← List.drop_drop,← List.drop_drop,hdr]
  try simp only [sS]
  refine zk5 ho hr2 (by decide) j2 fun q r _ hR hrl hr1=>?_
  rw [ej] at hR
  have hR':=hR
  obtain ⟨kv,hre,hkv,hkl⟩:=hR
  subst hre
  refine zal (fun b5 hb5=>?_)
  refine stM (cs':=[kv,.int .i64 l[s.2].2]) ?_ (za5 _ _ _) rfl rfl hr1
  rw [zbe]
  refine zas (vs:=[kv,.int .i64 l[s.2].2]) ?_
  refine hd _ _ _ _ hR' (fun N3 hN3 hw3=>?_)
  have hvb:∀ x,v.ownBlock=some x→x≠b5:=fun x hx e=>by have := ho.lt hm2 x hx; omega
  have hbox:=za5 M2 b5 (some (.cells 90 [kv,.int .i64 l[s.2].2] [Value.slice none 0 0,Value.int .i64 0].length))
  have ho3:=ho.box hm2 hb5 (some (.cells 90 [kv,.int .i64 l[s.2].2] [Value.slice none 0 0,Value.int .i64 0].length))
  have hm3:za7 (upd M2 b5 (some (.cells 90 [kv,.int .i64 l[s.2].2] [Value.slice none 0 0,Value.int .i64 0].length))) N3:=hw3.m
  have hM3:∀ x,v.ownBlock≠some x→x<N→upd M2 b5 (some (.cells 90 [kv,.int .i64 l[s.2].2] [Value.slice none 0 0,Value.int .i64 0].length)) x=M x:=fun x hx hxN=>(za4 _ _ (by omega)).trans (hM2 x hx hxN)
  generalize upd M2 b5 _=M3 at *
  cases hp:p l[s.2]
  ·rw [Bool.not_false]
   try simp only [sS]
   rw [zic]
   refine zai (by omega) ?_
   refine next (s.1,s.2+1) _ _ (by simp only; omega) (fun hw4=>⟨_,za0 hw4,M3,N3,rows2,l2,rfl,by omega,ho3,hr2,hl2,by simp only; omega,j1,?_,hdr',hM3,hm3⟩)
   simp only
   rw [ht,List.take_add_one,List.getElem?_eq_getElem j1,Option.toList_some,List.filter_append]
   simp [hp]
  ·rw [Bool.not_true]
   try simp only [sS]
   refine zas (vs:=[kv,.int .i64 l[s.2].2]) ?_ hbox
   have i1:s.1<l2.length:=by omega
   refine zxk (y:=l[s.2]) ho3 hr2 i1 rfl hr1 hR' fun q M4 g1 g2 g3 g4=>?_
   refine zai (by omega) ?_
   rw [zic]
   refine zai (by omega) ?_
   refine next (s.1+1,s.2+1) _ _ (by simp only; omega) (fun hw4=>⟨_,za0 hw4,M4,N3,_,_,rfl,by omega,g1,g2,by rw [List.length_set]; exact hl2,by simp only; omega,j1,?_,?_,fun x hx hxN=>(g3 x hx).trans (hM3 x hx hxN),g4 _ hm3⟩)
   ·simp only
    rw [zo0 _ _ _ i1,ht,List.take_add_one,List.getElem?_eq_getElem j1,Option.toList_some,List.filter_append]
    simp [hp]
   ·simp only
    rw [List.drop_set_of_lt (by omega)]
    exact hdr'
 ·try simp only [sS]
  have es:s.2=l.length:=by omega
  rw [es,List.take_length] at ht
  have i1:s.1<l.length:=by omega
  have hlen2:=hr2.all.1
  have hfl2:=hr2.flen
  have hn:(l.filter p).length=s.1:=by rw [← ht,List.length_take]; omega
  rcases ho.2 with ⟨hv0,h0⟩ | ⟨b,c,rest,hvf,g1,g2,g3,g4⟩
  ·omega
  rw [hvf,hl2]
  refine zgu s.1 (by omega) (by omega) ?_
  rw [if_neg (by omega)]
  refine .inr ⟨b,0+s.1*2,l.length - s.1,c - s.1,_,_,_,rfl,by omega,g4,by exact List.all_eq_true.1 rfl,by rw [List.length_append,hfl2]; omega,?_⟩
  refine zmn s.1 (by omega) ?_
  obtain ⟨Z,hcs⟩:∃ Z,zbs (rows2.flatten++rest) (0+s.1*2) (List.replicate (l.length - s.1) [Value.slice none 0 0,Value.int .i64 0]).flatten=(rows2.take s.1).flatten++Z:=⟨_,by
   unfold zbs
   rw [Nat.zero_add,List.take_append_of_le_length (by rw [hfl2]; omega),znz rows2 s.1 hr2.len,List.append_assoc]⟩
  have hrt:=zh7 hr2 s.1
  rw [ht] at hrt
  refine fun hc=>k _ _ N2 (rows2.take s.1) ⟨by rw [hrt.flen],.inr ⟨b,c,Z,by rw [hn],by omega,g2,g3,?_⟩⟩ hrt (fun x hx hxN=>⟨?_,fun e=>hx (by rw [hvf]; exact e)⟩) hN2 (hm2.set (hm2.lt g4) _) hc
  ·rw [← hcs]; exact za5 _ _ _
  ·have hxb:x≠b:=fun e=>hx (by rw [hvf,e]; rfl)
   exact (za4 _ _ hxb).trans (hM2 x hx hxN)
theorem zrt {v w:Value} {l:List Fc} {a b:Int} {want:Bool} (hv:zar F v l) (hW:isW F w a b) (hl:l.length≤1000000000) (hk:∀ f∈l,f.1.length≤10000000000)
  (k:∀ v' F' N',(Hp.mk F' M N').wf→zac F F'→N≤N'→zar F' v' (l.filter (ofK a b want))→K v' ⟨F',M,N'⟩) :
  za2 Tryz.prog (.func (.func 45) #[] #[]) #[v,w,.bool want] K E ⟨F,M,N⟩:=by
 refine za3 mixed Tryz.func45 (by kernel_rfl) (t45 _ E _ _ _) (fun hw=>?_)
 have hm:za7 M N:=hw.m
 have hW':=hW
 obtain ⟨c1,c2,hwf,_,_⟩:=hW'
 refine zal (cs:=[w]) (fun b1 hb1=>?_) (by rw [hwf]; rfl)
 refine zal (cs:=[.bool want]) (fun b2 hb2=>?_)
 generalize hM2:upd (upd M b1 _) b2 _=M2
 have g1:∃ e,M2 b1=some (.cells e [w] 1):=⟨_,by rw [← hM2]; exact (za4 _ _ (by omega)).trans (za5 _ _ _)⟩
 have g2:∃ e,M2 b2=some (.cells e [.bool want] 1):=⟨_,by rw [← hM2]; exact za5 _ _ _⟩
 have hM2':∀ q,q<N→M2 q=M q:=fun q hq=>by rw [← hM2]; exact (za4 _ _ (by omega)).trans (za4 _ _ (by omega))
 clear hM2
 obtain ⟨ty1,g1⟩:=g1
 obtain ⟨ty2,g2⟩:=g2
 refine zej (fun hc=>⟨_,zb7 hm hM2' hc,?_⟩)
 have hs:=zag (N:=N) hc
 have f1:=zgs (F:=F) (N:=N) (b:=b1) (by omega) g1
 have f2:=zgs (F:=F) (N:=N) (b:=b2) (by omega) g2
 generalize zdh F M2 N=F1 at *
 clear hc g1 g2 hM2' M2
 refine yjd (hv.mono hs) hl hk (fun v2 F2 M2 N2 rows hF2 hN2 ho hr hM2 hm2 hw2=>?_)
 refine ymu (p:=ofK a b want) ho hr hl (by omega) (fun M1 N1 cs f hf kk=>ygi (hF2 _ _ f1) (hF2 _ _ f2) (hW.mono (hs.trans hF2)) hf kk) (fun v3 M3 N3 rows3 ho3 hr3 hM3 hN3 hm3 hc3=>⟨_,za0 hc3,fun hw3=>?_⟩)
 have hX:∀ q,q<N→M3 q=M q:=fun q hq=>((hM3 q (fun e=>by have := (ho.ge q e).1; omega) (by omega)).1).trans (hM2 q (by omega))
 have ho3':own M3 N 90 2 v3 (l.filter (ofK a b want)).length rows3.flatten:=ho3.keep (fun _ _=>rfl) (by omega)
 exact fun hc=>⟨_,zb7 hm hX hc,fun hw'=>k _ _ _ hw' ((hs.trans hF2).trans (zag hc)) (by omega) (zk4 hc ho3' hr3)⟩
def zcb (F:Nat→Option (List Value)) (v:Value) (h:List En):Prop:=∃ rows,sF F 2 v h.length rows.flatten∧zad (zcv F) 2 rows h
theorem zcb.mono {v:Value} {t:List En} (h:zcb F v t) (hF:zac F F'):zcb F' v t:=let ⟨rows,h1,h2⟩:=h; ⟨rows,h1.mono hF,h2.mono fun _ _ hr=>hr.mono hF⟩
theorem zcb.form {v:Value} {t:List En} (h:zcb F v t):∃ a c,v=.slice a t.length c:=let ⟨rows,h1,_⟩:=h; let ⟨a,c,h2,_⟩:=h1.form; ⟨a,c,h2⟩
theorem zcb.nil {c:Nat}:zcb F (.slice none 0 c) []:=⟨[],sF.nil _ _ _,zad.nil _ _⟩
theorem zod {v:Value} {t:List En} {rows:List (List Value)} (hc:(Hp.mk F M' N').wf) (ho:own M' N 74 2 v t.length rows.flatten) (hr:zad (zcv F) 2 rows t):zcb (zdh F M' N) v t :=
 ⟨rows,ho.rd.frz hc (fun b hb=>.inl (ho.ge b hb).1),hr.mono fun _ _ h=>h.mono (zag hc)⟩
theorem yj3 (a b:Int):ofK a b true=inR a b:=by funext f; unfold ofK; cases inR a b f<;>rfl
theorem zxs (a b:Int):ofK a b false=zct a b:=by funext f; unfold ofK zct; cases inR a b f<;>rfl
theorem zpn (f:En→Option En) (h:List En) {i:Nat} (hi:i<h.length):(h.take (i+1)).filterMap f=(h.take i).filterMap f++(f h[i]).toList:=by
 rw [List.take_add_one,List.getElem?_eq_getElem hi,Option.toList_some,List.filterMap_append]
 cases hf:f h[i]<;>simp [hf]
theorem zvd (f:En→Option En) (h:List En) (i:Nat):((h.take i).filterMap f).length≤i:=by
 have := List.length_filterMap_le f (h.take i)
 rw [List.length_take] at this; omega
theorem okH.keys {l:List Dm} {n m:Nat} {h:List En} (o:okH l n m h) (hl:l.length≤1000) {e:En} (he:e∈h):∀ f∈e.2,f.1.length≤10000000000:=fun f hf=>by
 have := zge (o.fi e he f hf); omega
set_option maxRecDepth 10000 in
theorem ye7 {B g:Nat} {hv dv:Value} {rows:List (List Value)} {l:List Dm} {h:List En} {a b:Int} (hC:zg2 F M B g hv dv rows l h) (o:okH l 5000 200 h) (hdl:l.length≤1000)
  (k:∀ v' F' N',(Hp.mk F' M N').wf→zac F F'→N≤N'→zcb F' v' (zfl a b h)→K v' ⟨F',M,N'⟩) :
  za2 Tryz.prog (.func (.func 24) #[] #[]) #[.pointer (some ⟨g,0,none⟩),.int .i64 a,.int .i64 b] K E ⟨F,M,N⟩:=by
 refine za3 mixed Tryz.func24 (by kernel_rfl) (t24 _ E _ _ _) (fun hw=>?_)
 have hm:za7 M N:=hw.m
 have hgN:=hm.lt hC.gg
 have hol:=o.le
 have hlv:za9 hv=some (.int .i64 (h.length:Nat)):=by obtain ⟨x,c,e,_⟩:=hC.oo.form; rw [e]; rfl
 try simp only [sS]
 refine ldM (v:=hv) ?_ hC.gg
 refine zaa hlv ?_
 refine zuj (σ:=Nat×Value) (fun s=>s.2) (fun s=>.int .i64 (s.1:Nat))
  (fun s h'=>∃ F' M' N' rows',h'=⟨F',M',N'⟩∧zac F F'∧N≤N'∧(∀ q,q<N→M' q=M q)∧za7 M' N'∧s.1≤h.length∧own M' N 74 2 s.2 (zfl a b (h.take s.1)).length rows'.flatten∧zad (zcv F') 2 rows' (zfl a b (h.take s.1))) (fun s=>h.length - s.1) (0,.slice none 0 0) rfl rfl
  (fun hw2=>⟨_,za0 hw2,F,M,N,[],rfl,zac.refl _,Nat.le_refl _,fun _ _=>rfl,hm,Nat.zero_le _,own.nil,zad.nil _ _⟩) (fun kk s j h1 hI hw2 next=>?_)
 rw [ztd]
 obtain ⟨F1,M1,N1,rows1,rfl,hF1,hN1,hM1,hm1,hi,ho,hr⟩:=hI
 refine zaf (fun hlt=>?_) (fun hge=>?_)
 ·have i1:s.1<h.length:=by omega
  have e1:=zpn (zin a b) h i1
  have hle:(zfl a b (h.take s.1)).length≤s.1:=zvd (zin a b) h s.1
  try simp only [sS]
  have hoo1:own M1 B 74 2 hv h.length rows.flatten:=hC.oo.keep (fun q hq=>hM1 q (hC.oo.lt hm q hq)) (Nat.le_refl _)
  refine zk5 hoo1 hC.rr (by decide) i1 fun p r _ hR _ hr1=>?_
  obtain ⟨fv,rfl,hfv,hfl⟩:=hR
  have hfm:=o.fl _ (List.getElem_mem i1)
  refine zal (fun b4 hb4=>?_)
  refine stM (cs':=[.int .u32 h[s.1].1,fv]) ?_ (za5 _ _ _) rfl rfl hr1
  rw [zbe]
  have hbox:=za5 M1 b4 (some (.cells 74 [.int .u32 h[s.1].1,fv] [Value.int .u32 0,Value.slice none 0 0].length))
  have ho2:=ho.box hm1 hb4 (some (.cells 74 [.int .u32 h[s.1].1,fv] [Value.int .u32 0,Value.slice none 0 0].length))
  have hm2:=hm1.new hb4 (some (.cells 74 [.int .u32 h[s.1].1,fv] [Value.int .u32 0,Value.slice none 0 0].length))
  have hM2:∀ q,q<N→upd M1 b4 (some (.cells 74 [.int .u32 h[s.1].1,fv] [Value.int .u32 0,Value.slice none 0 0].length)) q=M q:=fun q hq=>(za4 _ _ (by omega)).trans (hM1 q hq)
  generalize upd M1 b4 _=M2 at *
  try simp only [sS]
  refine ldM (v:=fv) ?_ hbox
  refine zo1 (fun w F3 N3 hw3 hF3 hN3 hW=>?_)
  refine ⟨zao (zaq hbox) rfl,?_⟩
  refine zrt (hfv.mono (hF1.trans hF3)) hW (by omega) (o.keys hdl (List.getElem_mem i1)) (fun v4 F4 N4 hw4 hF4 hN4 hf4=>?_)
  rw [yj3] at hf4
  obtain ⟨frows,hf4a,hf4b⟩:=hf4
  refine zam hf4a ?_
  have hF4':=(hF1.trans hF3).trans hF4
  refine zbu (fun h0=>?_) (fun h0=>?_)
  ·try simp only [sS]
   refine ldM (v:=.int .u32 h[s.1].1) ?_ hbox
   obtain ⟨a5,c5,e5,_⟩:=hf4a.form
   have hflen:(h[s.1].2.filter (inR a b)).length≤200:=by have := List.length_filter_le (inR a b) h[s.1].2; omega
   have he4:zcv F4 [.int .u32 h[s.1].1,v4] (h[s.1].1,h[s.1].2.filter (inR a b)):=⟨v4,rfl,⟨frows,hf4a,hf4b⟩,by simp only; omega⟩
   refine zaa (v:=.agg #[.int .u32 h[s.1].1,v4]) (by rw [e5]; kernel_rfl) ?_
   refine zcq (new:=[.int .u32 h[s.1].1,v4]) ho2 hw4.m (by omega) (by rw [e5]; kernel_rfl) rfl he4.one.2 (by omega) (by unfold maxLen; omega) (fun p v' M5 N5 g1 g2 g3 g4=>?_)
   rw [zif]
   refine zai (by omega) ?_
   have e2:zfl a b (h.take (s.1+1))=zfl a b (h.take s.1)++[(h[s.1].1,h[s.1].2.filter (inR a b))]:=by
    unfold zfl
    rw [e1]
    unfold zin
    rw [if_pos (by omega)]; rfl
   refine next (s.1+1,v') _ _ (by simp only; omega) (fun hw5=>⟨_,za0 hw5,F4,M5,N5,rows1++[[.int .u32 h[s.1].1,v4]],rfl,hF4',by omega,fun q hq=>?_,g4,i1,?_,?_⟩)
   ·exact ((g2 q (fun e=>by have := (ho2.ge q e).1; omega) (by omega)).1).trans (hM2 q hq)
   ·simp only
    rw [e2,List.length_append,List.length_singleton]
    exact (by simpa using g1:own M5 N 74 2 v' _ (rows1++[[.int .u32 h[s.1].1,v4]]).flatten)
   ·simp only
    rw [e2]
    exact zau (hr.mono fun _ _ h=>h.mono (hF3.trans hF4)) he4.one he4
  ·try simp only [sS]
   rw [zif]
   refine zai (by omega) ?_
   have e2:zfl a b (h.take (s.1+1))=zfl a b (h.take s.1):=by
    unfold zfl
    rw [e1]
    unfold zin
    rw [if_neg (by omega)]; simp
   refine next (s.1+1,s.2) _ _ (by simp only; omega) (fun hw5=>⟨_,za0 hw5,F4,M2,N4,rows1,rfl,hF4',by omega,hM2,hw4.m,i1,?_,?_⟩)
   ·simp only
    rw [e2]; exact ho2
   ·simp only
    rw [e2]; exact hr.mono fun _ _ h=>h.mono (hF3.trans hF4)
 ·try simp only [sS]
  rw [List.take_of_length_le (by omega)] at ho hr
  exact fun hc=>⟨_,zb7 hm hM1 hc,fun hw'=>k _ _ _ hw' (hF1.trans (zag hc)) hN1 (zod hc ho hr)⟩
theorem zxl (l:List Dm) (a b last:Int) (e:En) (es:List En):zdz l a b last (e::es)=(decide (last<e.1)&&zd1 l e.2&&(e.2.all (inR a b)&&zdz l a b e.1 es)):=rfl
theorem zur (l:List Dm) (a b last:Int):zdz l a b last []=true:=rfl
theorem yc2 {a b:Int} {l:List Fc}:(l.filter (zct a b)).length=0↔l.all (inR a b)=true:=by
 rw [List.length_eq_zero_iff,List.filter_eq_nil_iff,List.all_eq_true]
 constructor
 ·intro h f hf
  have := h f hf
  unfold zct at this
  cases hi:inR a b f
  ·rw [hi] at this; simp at this
  ·rfl
 ·intro h f hf
  unfold zct
  rw [h f hf]; decide
set_option maxRecDepth 10000 in
theorem yh9 {B g:Nat} {hv dv ev w:Value} {rows:List (List Value)} {l:List Dm} {h es:List En} {a b:Int} (hC:zg2 F M B g hv dv rows l h) (hdl:l.length≤1000) (hes:zcb F ev es) (hel:es.length≤140737488351232) (hW:isW F w a b)
  (k:∀ F' N',(Hp.mk F' M N').wf→zac F F'→N≤N'→K (.bool (zdz l a b 0 es)) ⟨F',M,N'⟩) :
  za2 Tryz.prog (.func (.func 94) #[] #[]) #[.pointer (some ⟨g,0,none⟩),w,ev] K E ⟨F,M,N⟩:=by
 refine za3 mixed Tryz.func94 (by kernel_rfl) (t94 _ E _ _ _) (fun hw=>?_)
 have hm:za7 M N:=hw.m
 have hgN:=hm.lt hC.gg
 obtain ⟨erows,he1,he2⟩:=hes
 refine zam he1 ?_
 refine ztx (σ:=Nat×Int) (fun s=>.int .u32 s.2) (fun s=>.int .i64 (s.1:Nat))
  (fun s h'=>∃ F' N',h'=⟨F',M,N'⟩∧zac F F'∧N≤N'∧s.1≤es.length∧zdz l a b 0 es=zdz l a b s.2 (es.drop s.1)) (fun s=>es.length - s.1) (0,0) rfl rfl
  (fun hw2=>⟨_,za0 hw2,F,N,rfl,zac.refl _,Nat.le_refl _,Nat.zero_le _,rfl⟩) (fun kk s j h1 hI hw2 next=>?_)
 rw [zt1]
 obtain ⟨F1,N1,rfl,hF1,hN1,hi,hrt⟩:=hI
 refine zaf (fun hlt=>?_) (fun hge=>?_)
 ·have i1:s.1<es.length:=by omega
  rw [List.drop_eq_getElem_cons i1,zxl] at hrt
  have hm1:za7 M N1:=hw2.m
  try simp only [sS]
  refine zcr (he1.mono hF1) (he2.mono fun _ _ h=>h.mono hF1) (by decide) i1 (fun p r _ hR hrl hr1=>?_)
  obtain ⟨fv,hre,hfv,hfl⟩:=hR
  subst hre
  refine zal (fun b4 hb4=>?_)
  refine stM (cs':=[.int .u32 es[s.1].1,fv]) ?_ (za5 _ _ _) rfl rfl hr1
  rw [zbe]
  have hbox:=za5 M b4 (some (.cells 74 [.int .u32 es[s.1].1,fv] [Value.int .u32 0,Value.slice none 0 0].length))
  have hg2:=(za4 M (b:=b4) (k:=g) (some (.cells 74 [.int .u32 es[s.1].1,fv] [Value.int .u32 0,Value.slice none 0 0].length)) (by omega)).trans hC.gg
  have hsub:∀ {F':Nat→Option (List Value)} {n:Nat},(Hp.mk F' (upd M b4 (some (.cells 74 [.int .u32 es[s.1].1,fv] [Value.int .u32 0,Value.slice none 0 0].length))) n).wf→(Hp.mk F' (upd M b4 (some (.cells 74 [.int .u32 es[s.1].1,fv] [Value.int .u32 0,Value.slice none 0 0].length))) n).wk ⟨F',M,n⟩:=fun hc=>zbp hc (zav (zb6 _) (hm1 _ hb4))
  generalize upd M b4 _=M2 at *
  try simp only [sS]
  refine ldM (v:=.int .u32 es[s.1].1) ?_ hbox
  refine zfd (fun h2=>?_) (fun h2=>?_)
  ·try simp only [sS]
   rw [decide_eq_false (by omega),Bool.false_and,Bool.false_and] at hrt
   exact fun hc=>⟨_,hsub hc,fun hw'=>by have := k _ _ hw' hF1 (by omega); rw [hrt] at this; exact this⟩
  rw [decide_eq_true (by omega),Bool.true_and] at hrt
  try simp only [sS]
  refine ldM (v:=fv) ?_ hbox
  try simp only [sS]
  refine zsg hg2 (hC.dd.mono hF1) (by omega) hfv hfl (fun N3 hN3 hw3=>?_)
  cases hfit:zd1 l es[s.1].2
  ·rw [hfit,Bool.false_and] at hrt
   try simp only [sS]
   exact fun hc=>⟨_,hsub hc,fun hw'=>by have := k _ _ hw' hF1 (by omega); rw [hrt] at this; exact this⟩
  rw [hfit,Bool.true_and] at hrt
  obtain ⟨f1,f2⟩:=zdu hfit
  try simp only [sS]
  refine ldM (v:=fv) ?_ hbox
  try simp only [sS]
  refine zrt hfv (hW.mono hF1) (by omega) (fun f hf=>by have := zge (f2 f hf); omega) (fun v4 F4 N4 hw4 hF4 hN4 hf4=>?_)
  rw [zxs] at hf4
  obtain ⟨frows,hf4a,hf4b⟩:=hf4
  try simp only [sS]
  refine zam hf4a ?_
  refine zbu (fun h0=>?_) (fun h0=>?_)
  ·try simp only [sS]
   have hall:es[s.1].2.all (inR a b)=false:=by
    cases hc:es[s.1].2.all (inR a b)
    ·rfl
    ·have := yc2.2 hc; omega
   rw [hall,Bool.false_and] at hrt
   exact fun hc=>⟨_,hsub hc,fun hw'=>by have := k _ _ hw' (hF1.trans hF4) (by omega); rw [hrt] at this; exact this⟩
  ·try simp only [sS]
   rw [yc2.1 (by omega),Bool.true_and] at hrt
   refine ldM (v:=.int .u32 es[s.1].1) ?_ hbox
   refine zai (by omega) ?_
   exact next (s.1+1,es[s.1].1) _ _ (by simp only; omega) (fun hw5=>⟨_,hsub hw5,F4,N4,rfl,hF1.trans hF4,by omega,i1,hrt⟩)
 ·try simp only [sS]
  rw [List.drop_eq_nil_of_le (by omega),zur] at hrt
  exact fun hc=>⟨_,za0 hc,fun hw'=>by have := k _ _ hw' hF1 hN1; rw [hrt] at this; exact this⟩
theorem yjs {v:Value} {l:List Int} {h:Hp} (hv:zjv h 1 v l.length (bts l)) (k:K (.string ⟨(l.map (fun n=>UInt8.ofNat (Int.toNat n))).toArray⟩) h):bs v K h:=⟨_,⟨_,l,hv,rfl⟩,k⟩
theorem yo0 {e:EqK} {s:ByteArray} {h:Hp} (k:K (.bool true) h):pv (za1 e .eql (.string s) (.string s)) K h:=⟨.bool true,by simp [za1,yd2],k⟩
theorem ylv (l m:List Int):bts (l++m)=bts l++bts m:=by simp [bts]
def ydt (x:Int) (k:Nat):Int:=IntKind.u8.wrap (x.fdiv (2 ^ (min (8*k) 64)))
def zp7 (x:Int) (size i:Nat):List Int:=(List.range i).map fun j=>ydt x (size - 1 - j)
def zgx (x:Int) (size:Nat):List Int:=zp7 x size size
theorem yiv (x:Int) (size i:Nat):(zp7 x size i).length=i:=by simp [zp7]
theorem zbm (x:Int) (size:Nat):(zgx x size).length=size:=yiv _ _ _
theorem yg4 (x:Int) (size i:Nat):zp7 x size (i+1)=zp7 x size i++[ydt x (size - 1 - i)]:=by simp [zp7,List.range_succ]
def ygx (F:Nat→Option (List Value)) (M:Nat→Option zak) (N B n:Nat) (v:Value) (cs:List Value) (out:List Int) (K:zae):Prop :=
 ∀ v' M' N',own M' B 5 1 v' (n+out.length) (cs++bts out)→fr M M' N v v'→N≤N'→za7 M' N'→(Hp.mk F M' N').wf→K v' ⟨F,M',N'⟩
theorem ynj {x:Int} {k:Nat} {h:Hp} (kk:K (.int .u64 (x.fdiv (2 ^ (min k 64)))) h):pv (za1 .none .shr (.int .u64 x) (.int .u64 (k:Nat))) K h :=
 ⟨_,by
  have e:za1 .none .shr (.int .u64 x) (.int .u64 (k:Nat))=zp6 .shr .u64 x (k:Nat):=rfl
  rw [e]; unfold zp6; rw [if_neg (by omega)]; simp only [Int.toNat_natCast]; rfl,kk⟩
set_option maxRecDepth 10000 in
theorem zpl {B n size:Nat} {v:Value} {cs:List Value} {x:Int} (h:own M B 5 1 v n cs) (hB:B≤N) (hs:size≤8) (hn:n≤1000000000000) (k:ygx F M N B n v cs (zgx x size) K) :
  za2 Tryz.prog (.func (.func 113) #[] #[]) #[v,.int .u64 x,.int .i64 (size:Nat)] K E ⟨F,M,N⟩:=by
 refine za3 mixed Tryz.func113 (by kernel_rfl) (yss _ E _ _ _) (fun hw=>?_)
 have hm:za7 M N:=hw.m
 refine zjz (by omega) (by omega) ?_
 refine zw0 (σ:=Nat×Value) (fun s=>s.2) (fun s=>.int .i64 ((size:Int) - 1 - (s.1:Nat)))
  (fun s h'=>∃ M' N',h'=⟨F,M',N'⟩∧N≤N'∧za7 M' N'∧s.1≤size∧own M' B 5 1 s.2 (n+s.1) (cs++bts (zp7 x size s.1))∧fr M M' N v s.2) (fun s=>size - s.1) (0,v) rfl (by simp)
  (fun hw2=>⟨_,za0 hw2,M,N,rfl,Nat.le_refl _,hm,Nat.zero_le _,by simpa [zp7,bts] using h,fr.refl⟩) (fun kk s j h1 hI hw2 next=>?_)
 rw [zwl]
 obtain ⟨M1,N1,rfl,hN1,hm1,hi,ho,hfr⟩:=hI
 refine ze1 (fun hlt=>?_) (fun hge=>?_)
 ·have i1:s.1<size:=by omega
  have e7:(size:Int) - 1 - (s.1:Nat)=((size - 1 - s.1:Nat):Int):=by omega
  rw [e7]
  try simp only [sS]
  refine yfe (by omega) (ymw (a:=8) (by omega) (ynj ?_))
  refine zaa (v:=.int .u8 (ydt x (size - 1 - s.1))) rfl ?_
  refine zcq (new:=[.int .u8 (ydt x (size - 1 - s.1))]) ho hm1 (by omega) (by kernel_rfl) rfl (List.all_eq_true.1 rfl) (by omega) (by unfold maxLen; omega) (fun p v' M5 N5 g1 g2 g3 g4=>?_)
  refine zjz (by omega) (by omega) ?_
  have e8:((size - 1 - s.1:Nat):Int) - 1=(size:Int) - 1 - ((s.1+1:Nat):Int):=by omega
  rw [e8]
  refine next (s.1+1,v') _ _ (by simp only; omega) (fun hw5=>⟨_,za0 hw5,M5,N5,rfl,by omega,g4,i1,?_,hfr.trans g2 hN1⟩)
  simp only
  rw [yg4,ylv,← List.append_assoc,← Nat.add_assoc]
  exact g1
 ·try simp only [sS]
  have es:s.1=size:=by omega
  rw [es] at ho
  refine fun hc=>⟨_,za0 hc,fun hw'=>k s.2 M1 N1 ?_ hfr hN1 hm1 hw'⟩
  rw [zbm]; exact ho
def zh6 (x:Int):Int:=IntKind.u64.wrap x
theorem zmq {x:Int} {k:IntKind} {h:Hp} (kk:K (.int .u64 (zh6 x)) h):pv (cvV .u64 (.int k x)) K h:=⟨_,rfl,kk⟩
def zkr (l:List Int):List Int:=l.flatMap fun x=>zgx (zh6 x) 4
def zj4 (f:Fc):List Int:=zgx (zh6 (f.1.length:Nat)) 1++(zkr f.1++zgx (zh6 f.2) 8)
def zl8 (l:List Fc):List Int:=zgx (zh6 (l.length:Nat)) 4++l.flatMap zj4
def zjq (e:En):List Int:=zgx (zh6 e.1) 4++zl8 e.2
def zjw (l:List En):List Int:=zgx (zh6 (l.length:Nat)) 4++l.flatMap zjq
theorem znu (l:List Int):(zkr l).length=l.length*4:=by
 induction l with
 | nil=>rfl
 | cons x l ih=>
  unfold zkr at ih ⊢
  rw [List.flatMap_cons,List.length_append,ih,zbm,List.length_cons]; omega
theorem zkx {α:Type} (f:α→List Int) (l:List α) {i:Nat} (hi:i<l.length):(l.take (i+1)).flatMap f=(l.take i).flatMap f++f l[i]:=by
 rw [List.take_add_one,List.getElem?_eq_getElem hi,Option.toList_some,List.flatMap_append]; simp
theorem zti {α:Type} (f:α→List Int) (l:List α) (i:Nat):((l.take i).flatMap f).length≤(l.flatMap f).length:=by
 conv=>rhs; rw [← List.take_append_drop i l]
 rw [List.flatMap_append,List.length_append]; omega
theorem zl5 {B n a:Nat} {v:Value} {cs:List Value} {x y:List Int} (h:own M B 5 1 v (n+x.length+a) (cs++bts x++bts y)) (ha:a=y.length):own M B 5 1 v (n+(x++y).length) (cs++bts (x++y)):=by
 rw [ylv,← List.append_assoc,List.length_append,← Nat.add_assoc,← ha]; exact h
set_option maxRecDepth 10000 in
theorem ykn {B n:Nat} {v fv:Value} {cs:List Value} {l:List Fc} (h:own M B 5 1 v n cs) (hB:B≤N) (hf:zar F fv l) (hl:l.length≤1000000) (hn:n+(zl8 l).length≤1000000000000) (k:ygx F M N B n v cs (zl8 l) K) :
  za2 Tryz.prog (.func (.func 114) #[] #[]) #[v,fv] K E ⟨F,M,N⟩:=by
 refine za3 mixed Tryz.func114 (by kernel_rfl) (ysv _ E _ _) (fun hw=>?_)
 have hm:za7 M N:=hw.m
 obtain ⟨rows,hf1,hf2⟩:=hf
 unfold zl8 at hn
 rw [List.length_append,zbm] at hn
 refine zam hf1 (zmq ?_)
 refine zpl (size:=4) h hB (by omega) (by omega) (fun v1 M1 N1 ho1 hfr1 hN1 hm1 hw1=>?_)
 rw [zbm] at ho1
 refine zru (σ:=Nat×Value) (fun s=>s.2) (fun s=>.int .i64 (s.1:Nat))
  (fun s h'=>∃ M' N',h'=⟨F,M',N'⟩∧N≤N'∧za7 M' N'∧s.1≤l.length∧own M' B 5 1 s.2 (n+(zgx (zh6 (l.length:Nat)) 4++(l.take s.1).flatMap zj4).length) (cs++bts (zgx (zh6 (l.length:Nat)) 4++(l.take s.1).flatMap zj4))∧fr M M' N v s.2) (fun s=>l.length - s.1) (0,v1) rfl rfl
  (fun hw2=>⟨_,za0 hw2,M1,N1,rfl,hN1,hm1,Nat.zero_le _,by simpa [zbm] using ho1,hfr1⟩) (fun kk s j h1 hI hw2 next=>?_)
 rw [zrz]
 obtain ⟨M2,N2,rfl,hN2,hm2,hi,ho,hfr⟩:=hI
 refine zam hf1 ?_
 refine zaf (fun hlt=>?_) (fun hge=>?_)
 ·have i1:s.1<l.length:=by omega
  have et:=zkx zj4 l i1
  have hle:=zti zj4 l (s.1+1)
  rw [et,List.length_append] at hle
  have hfl:(zj4 l[s.1]).length=1+l[s.1].1.length*4+8:=by unfold zj4; rw [List.length_append,List.length_append,zbm,zbm,znu]; omega
  obtain ⟨pre,hpre⟩:∃ p,p=zgx (zh6 (l.length:Nat)) 4++(l.take s.1).flatMap zj4:=⟨_,rfl⟩
  have hpl:pre.length+(zj4 l[s.1]).length≤4+(l.flatMap zj4).length:=by rw [hpre,List.length_append,zbm]; omega
  rw [← hpre] at ho
  try simp only [sS]
  refine zbb hf1 hf2 (by decide) i1 (off:=0) (by decide) fun p q r x hR _ hx=>?_
  obtain ⟨kv,rfl,hkv,hkl⟩:=hR
  have hx':x=kv:=by simpa using hx.symm
  subst hx'
  refine zam hkv (zmq ?_)
  refine zpl (size:=1) ho (by omega) (by omega) (by omega) (fun v3 M3 N3 ho3 hfr3 hN3 hm3 hw3=>?_)
  rw [zbm] at ho3
  refine zia (σ:=Nat×Value) (fun t=>t.2) (fun t=>.int .i64 (t.1:Nat))
   (fun t h'=>∃ M' N',h'=⟨F,M',N'⟩∧N≤N'∧za7 M' N'∧t.1≤l[s.1].1.length∧own M' B 5 1 t.2 (n+(pre++(zgx (zh6 (l[s.1].1.length:Nat)) 1++zkr (l[s.1].1.take t.1))).length) (cs++bts (pre++(zgx (zh6 (l[s.1].1.length:Nat)) 1++zkr (l[s.1].1.take t.1))))∧fr M M' N v t.2) (fun t=>l[s.1].1.length - t.1) (0,v3) rfl rfl
   (fun hw4=>⟨_,za0 hw4,M3,N3,rfl,by omega,hm3,Nat.zero_le _,?_,hfr.trans hfr3 hN2⟩) (fun kk2 t j2 h2 hI2 hw4 next2=>?_)
  ·have e0:zkr (l[s.1].1.take 0)=[]:=by simp [zkr]
   simp only
   rw [e0,List.append_nil]
   exact zl5 ho3 (by rw [zbm])
  rw [zi4]
  obtain ⟨M4,N4,rfl,hN4,hm4,hi4,ho4,hfr4⟩:=hI2
  have htl:(zkr (l[s.1].1.take t.1)).length≤l[s.1].1.length*4:=by rw [znu,List.length_take]; exact Nat.mul_le_mul_right _ (by omega)
  have hqb:(pre++(zgx (zh6 (l[s.1].1.length:Nat)) 1++zkr (l[s.1].1.take t.1))).length≤4+(l.flatMap zj4).length:=by
   rw [List.length_append,List.length_append,zbm]; omega
  try simp only [sS]
  refine zbb hf1 hf2 (by decide) i1 (off:=0) (by decide) fun p q r x hR _ hx=>?_
  obtain ⟨kv,rfl,hkv,hkl⟩:=hR
  have hx':x=kv:=by simpa using hx.symm
  subst hx'
  refine zam hkv ?_
  refine zaf (fun hlt2=>?_) (fun hge2=>?_)
  ·have k1:t.1<l[s.1].1.length:=by omega
   try simp only [sS]
   refine zbb hf1 hf2 (by decide) i1 (off:=0) (by decide) fun p q r y hR _ hy=>?_
   obtain ⟨kv,rfl,hkv,hkl⟩:=hR
   have hy':y=kv:=by simpa using hy.symm
   subst hy'
   refine zax hkv k1 fun p=>zmq ?_
   refine zpl (size:=4) ho4 (by omega) (by omega) (by omega) (fun v5 M5 N5 ho5 hfr5 hN5 hm5 hw5=>?_)
   rw [zbm] at ho5
   refine zai (by omega) ?_
   have ek:zkr (l[s.1].1.take (t.1+1))=zkr (l[s.1].1.take t.1)++zgx (zh6 l[s.1].1[t.1]) 4:=zkx _ _ k1
   refine next2 (t.1+1,v5) _ _ (by simp only; omega) (fun hw6=>⟨_,za0 hw6,M5,N5,rfl,by omega,hm5,k1,?_,hfr4.trans hfr5 hN4⟩)
   simp only
   rw [ek,← List.append_assoc,← List.append_assoc,List.append_assoc pre]
   exact zl5 ho5 (by rw [zbm])
  ·try simp only [sS]
   rw [List.take_of_length_le (by omega)] at ho4
   refine zbb hf1 hf2 (by decide) i1 (off:=1) (by decide) fun p q r y hR _ hy=>?_
   obtain ⟨kv,rfl,hkv,hkl⟩:=hR
   have hy':y=.int .i64 l[s.1].2:=by simpa using hy.symm
   subst hy'
   refine zmq ?_
   refine zpl (size:=8) ho4 (by omega) (by omega) (by rw [List.length_append,List.length_append,zbm,znu]; omega) (fun v5 M5 N5 ho5 hfr5 hN5 hm5 hw5=>?_)
   rw [zbm] at ho5
   refine zai (by omega) ?_
   refine next (s.1+1,v5) _ _ (by simp only; omega) (fun hw6=>⟨_,za0 hw6,M5,N5,rfl,by omega,hm5,i1,?_,hfr4.trans hfr5 hN4⟩)
   simp only
   rw [et,← List.append_assoc,← hpre]
   have := zl5 ho5 (by rw [zbm])
   rw [List.append_assoc pre,List.append_assoc] at this
   exact this
 ·try simp only [sS]
  rw [List.take_of_length_le (by omega)] at ho
  exact fun hc=>⟨_,za0 hc,fun hw'=>k s.2 M2 N2 ho hfr hN2 hm2 hw'⟩
set_option maxRecDepth 10000 in
theorem ycp {B n:Nat} {v ev:Value} {cs:List Value} {l:List En} (h:own M B 5 1 v n cs) (hB:B≤N) (he:zcb F ev l) (hl:l.length≤1000000) (hfl:∀ e∈l,e.2.length≤1000000) (hn:n+(zjw l).length≤1000000000000) (k:ygx F M N B n v cs (zjw l) K) :
  za2 Tryz.prog (.func (.func 88) #[] #[]) #[v,ev] K E ⟨F,M,N⟩:=by
 refine za3 mixed Tryz.func88 (by kernel_rfl) (t88 _ E _ _) (fun hw=>?_)
 have hm:za7 M N:=hw.m
 obtain ⟨rows,hf1,hf2⟩:=he
 unfold zjw at hn
 rw [List.length_append,zbm] at hn
 refine zam hf1 (zmq ?_)
 refine zpl (size:=4) h hB (by omega) (by omega) (fun v1 M1 N1 ho1 hfr1 hN1 hm1 hw1=>?_)
 rw [zbm] at ho1
 refine ztr (σ:=Nat×Value) (fun s=>s.2) (fun s=>.int .i64 (s.1:Nat))
  (fun s h'=>∃ M' N',h'=⟨F,M',N'⟩∧N≤N'∧za7 M' N'∧s.1≤l.length∧own M' B 5 1 s.2 (n+(zgx (zh6 (l.length:Nat)) 4++(l.take s.1).flatMap zjq).length) (cs++bts (zgx (zh6 (l.length:Nat)) 4++(l.take s.1).flatMap zjq))∧fr M M' N v s.2) (fun s=>l.length - s.1) (0,v1) rfl rfl
  (fun hw2=>⟨_,za0 hw2,M1,N1,rfl,hN1,hm1,Nat.zero_le _,by simpa [zbm] using ho1,hfr1⟩) (fun kk s j h1 hI hw2 next=>?_)
 rw [zuf]
 obtain ⟨M2,N2,rfl,hN2,hm2,hi,ho,hfr⟩:=hI
 refine zam hf1 ?_
 refine zaf (fun hlt=>?_) (fun hge=>?_)
 ·have i1:s.1<l.length:=by omega
  have et:=zkx zjq l i1
  have hle:=zti zjq l (s.1+1)
  rw [et,List.length_append] at hle
  have hel:(zjq l[s.1]).length=4+(zl8 l[s.1].2).length:=by unfold zjq; rw [List.length_append,zbm]
  obtain ⟨pre,hpre⟩:∃ p,p=zgx (zh6 (l.length:Nat)) 4++(l.take s.1).flatMap zjq:=⟨_,rfl⟩
  have hpl:pre.length+(zjq l[s.1]).length≤4+(l.flatMap zjq).length:=by rw [hpre,List.length_append,zbm]; omega
  rw [← hpre] at ho
  try simp only [sS]
  refine zbb hf1 hf2 (by decide) i1 (off:=0) (by decide) fun p q r x hR _ hx=>?_
  obtain ⟨fv,rfl,hfv,hfvl⟩:=hR
  have hx':x=.int .u32 l[s.1].1:=by simpa using hx.symm
  subst hx'
  refine zmq ?_
  refine zpl (size:=4) ho (by omega) (by omega) (by omega) (fun v3 M3 N3 ho3 hfr3 hN3 hm3 hw3=>?_)
  rw [zbm] at ho3
  refine zbb hf1 hf2 (by decide) i1 (off:=1) (by decide) fun p q r x hR _ hx=>?_
  obtain ⟨fv,rfl,hfv,hfvl⟩:=hR
  have hx':x=fv:=by simpa using hx.symm
  subst hx'
  have ho3':=zl5 ho3 (by rw [zbm])
  refine ykn ho3' (by omega) hfv (hfl _ (List.getElem_mem i1)) (by rw [List.length_append,zbm]; omega) (fun v5 M5 N5 ho5 hfr5 hN5 hm5 hw5=>?_)
  refine zai (by omega) ?_
  refine next (s.1+1,v5) _ _ (by simp only; omega) (fun hw6=>⟨_,za0 hw6,M5,N5,rfl,by omega,hm5,i1,?_,(hfr.trans hfr3 hN2).trans hfr5 (by omega)⟩)
  simp only
  rw [et,← List.append_assoc,← hpre]
  have := zl5 ho5 rfl
  rw [List.append_assoc pre] at this
  exact this
 ·try simp only [sS]
  rw [List.take_of_length_le (by omega)] at ho
  exact fun hc=>⟨_,za0 hc,fun hw'=>k s.2 M2 N2 ho hfr hN2 hm2 hw'⟩
theorem ykx {u v:Value} {l:List En} (hu:zcb F u l) (hv:zcb F v l) (hl:l.length≤1000000) (hfl:∀ e∈l,e.2.length≤1000000) (hn:(zjw l).length≤100000000000) (k:∀ N',N≤N'→(Hp.mk F M N').wf→K (.bool true) ⟨F,M,N'⟩) :
  za2 Tryz.prog (.func (.func 58) #[] #[]) #[u,v] K E ⟨F,M,N⟩:=by
 refine za3 mixed Tryz.func58 (by kernel_rfl) (t58 _ E _ _) (fun hw=>?_)
 have hm:za7 M N:=hw.m
 refine ycp (B:=N) own.nil (Nat.le_refl _) hu hl hfl (by omega) (fun v1 M1 N1 ho1 hfr1 hN1 hm1 hw1=>?_)
 rw [Nat.zero_add,List.nil_append] at ho1
 refine yjs ho1.rd.read ?_
 refine ycp (B:=N) own.nil (by omega) hv hl hfl (by omega) (fun v2 M2 N2 ho2 hfr2 hN2 hm2 hw2=>?_)
 rw [Nat.zero_add,List.nil_append] at ho2
 have ho1':own M2 N 5 1 v1 (zjw l).length (bts (zjw l)):=ho1.keep (fun q hq=>(hfr2 q (by simp [Value.ownBlock]) (ho1.lt hm1 q hq)).1) (Nat.le_refl _)
 refine ⟨⟨_,zjw l,ho1'.rd.read,rfl⟩,?_⟩
 refine yjs ho2.rd.read (yo0 ?_)
 exact fun hc=>⟨_,zbp hc (fun q c hq=>by rw [(hfr2 q (by simp [Value.ownBlock]) (by have := hm.lt hq; omega)).1,(hfr1 q (by simp [Value.ownBlock]) (hm.lt hq)).1]; exact hq),fun hw'=>k _ (by omega) hw'⟩
theorem yew {l:List Dm} {m:List Int} {i:Nat} (h1:i<l.length) (h:inP l m i=false):inF l m=false:=by
 unfold inF; rw [zcs h1 h,Bool.and_false]
theorem ynd {v u:Value} {l:List Dm} {m:List Int} (hv:zbl F v l) (hu:sF F 1 u m.length (ic m)) (hl:l.length≤140737488351232) (k:∀ N',N≤N'→(Hp.mk F M N').wf→K (.bool (inF l m)) ⟨F,M,N'⟩) :
  za2 Tryz.prog (.func (.func 56) #[] #[]) #[v,u] K E ⟨F,M,N⟩:=by
 refine za3 mixed Tryz.func56 (by kernel_rfl) (t56 _ E _ _) (fun hw=>?_)
 have hlv:za9 v=some (.int .i64 (l.length:Nat)):=by obtain ⟨a,c,e⟩:=hv.form; rw [e]; rfl
 have hlu:za9 u=some (.int .i64 (m.length:Nat)):=by obtain ⟨a,c,e,_⟩:=hu.form; rw [e]; rfl
 refine zy5 (σ:=Nat) (fun i=>.int .i64 (i:Nat)) (fun i h=>h=⟨F,M,N⟩∧i≤l.length∧i≤m.length∧(List.range i).all (inP l m)=true) (fun i=>l.length - i) 0 rfl
  (fun hw1=>⟨_,za0 hw1,rfl,Nat.zero_le _,Nat.zero_le _,rfl⟩) (fun k1 i j h1 hI hw1 next=>?_)
 rw [zy3]
 obtain ⟨rfl,hi,him,he⟩:=hI
 refine zaa hlv ?_
 have stop:i=l.length∨i=m.length→∀ h',h'=(⟨F,M,N⟩:Hp)→h'.wf→∃ h'',h'.wk h''∧(h''.wf→K (.bool (decide ((l.length:Int)=(m.length:Int)))) h''):=fun ho h' e' hc=>by
  subst e'
  refine ⟨_,za0 hc,fun hw'=>?_⟩
  have := k N (Nat.le_refl _) hw'
  by_cases hq:l.length=m.length
  ·rw [show inF l m=true by unfold inF; rw [decide_eq_true hq.symm,show l.length=i by omega,he]; rfl] at this
   rw [decide_eq_true (by omega)]; exact this
  ·rw [show inF l m=false by unfold inF; rw [decide_eq_false (fun e=>hq e.symm)]; rfl] at this
   rw [decide_eq_false (by omega)]; exact this
 have eql:∀ {X:zae} {h:Hp},X (.bool (decide ((l.length:Int)=(m.length:Int)))) h→pv (za1 .none .eql (.int .i64 (l.length:Nat)) (.int .i64 (m.length:Nat))) X h:=fun {X h} kx=>
  zba (fun e=>by rw [decide_eq_true e] at kx; exact kx) (fun e=>by rw [decide_eq_false e] at kx; exact kx)
 refine zaf (fun hlt=>?_) (fun hge=>?_)
 ·have i1:i<l.length:=by omega
  try simp only [sS]
  refine zaa hlu ?_
  refine zaf (fun hlt2=>?_) (fun hge2=>?_)
  ·have i2:i<m.length:=by omega
   have hp:inP l m i=decide (0≤m[i]∧m[i]<l[i].1):=by unfold inP; rw [zb0 i1,zb0 i2]
   try simp only [sS]
   refine zax hu i2 fun p=>?_
   refine zaf (fun h3=>?_) (fun h3=>?_)
   ·try simp only [sS]
    refine fun hc=>⟨_,za0 hc,fun hw'=>?_⟩
    have := k N (Nat.le_refl _) hw'
    rw [yew i1 (by rw [hp,decide_eq_false (by omega)])] at this
    exact this
   ·try simp only [sS]
    refine zax hu i2 fun p=>?_
    refine zwn hv i1 fun p q=>?_
    refine ze1 (fun h4=>?_) (fun h4=>?_)
    ·try simp only [sS]
     refine fun hc=>⟨_,za0 hc,fun hw'=>?_⟩
     have := k N (Nat.le_refl _) hw'
     rw [yew i1 (by rw [hp,decide_eq_false (by omega)])] at this
     exact this
    ·try simp only [sS]
     refine zai (by omega) ?_
     exact next (i+1) _ _ (by omega) (fun hw3=>⟨_,za0 hw3,rfl,i1,i2,zf4 he (by rw [hp,decide_eq_true (by omega)])⟩)
  ·try simp only [sS]
   refine zaa hlv (zaa hlu (eql ?_))
   exact stop (.inr (by omega)) _ rfl
 ·try simp only [sS]
  refine zaa hlv (zaa hlu (eql ?_))
  exact stop (.inl (by omega)) _ rfl
structure ziq (F:Nat→Option (List Value)) (M:Nat→Option zak) (g:Nat) (dv lv:Value) (l:List Dm) (h:List En):Prop where
 gg:M g=some (.cells 126 [dv,lv] 2)
 dd:zbl F dv l
 ll:zcb F lv h
theorem ziq.keep {g:Nat} {dv lv:Value} {l:List Dm} {h:List En} (hC:ziq F M g dv lv l h) (hF:zac F F') (hM:M' g=M g):ziq F' M' g dv lv l h:=⟨hM.trans hC.gg,hC.dd.mono hF,hC.ll.mono hF⟩
theorem yh7 {l:List Dm} {fs:List Fc} {i:Nat} (h1:i<fs.length) (h:inF l fs[i].1=false):zd1 l fs=false:=by
 unfold zd1
 rw [show (fs.all fun f=>inF l f.1)=false from List.all_eq_false.2 ⟨fs[i],List.getElem_mem h1,by rw [h]; decide⟩,Bool.and_false]
theorem zpr {g:Nat} {v dv lv:Value} {l:List Dm} {fs:List Fc} (hg:M g=some (.cells 126 [dv,lv] 2)) (hd:zbl F dv l) (hl:l.length≤140737488351232) (hf:zar F v fs) (hfl:fs.length≤140737488351232)
  (k:∀ N',N≤N'→(Hp.mk F M N').wf→K (.bool (zd1 l fs)) ⟨F,M,N'⟩) :
  za2 Tryz.prog (.func (.func 28) #[] #[]) #[.pointer (some ⟨g,0,none⟩),v] K E ⟨F,M,N⟩:=by
 refine za3 mixed Tryz.func28 (by kernel_rfl) (t28 _ E _ _) (fun hw=>?_)
 obtain ⟨rows,hv1,hv2⟩:=hf
 refine zyd (σ:=Nat) (fun i=>.int .i64 (i:Nat)) (fun i h=>∃ N',h=⟨F,M,N'⟩∧N≤N'∧i≤fs.length∧∀ f∈fs.take i,inF l f.1=true) (fun i=>fs.length - i) 0 rfl
  (fun hw1=>⟨_,za0 hw1,N,rfl,Nat.le_refl _,Nat.zero_le _,by simp⟩) (fun k1 i j h1 hI hw1 next=>?_)
 rw [zy4]
 obtain ⟨N1,rfl,hN1,hi,he⟩:=hI
 refine zam hv1 ?_
 refine zaf (fun hlt=>?_) (fun hge=>?_)
 ·have i1:i<fs.length:=by omega
  try simp only [sS]
  refine ldM (v:=dv) ?_ hg
  refine zbb hv1 hv2 (by decide) i1 (off:=0) (by decide) fun p q r x hR _ hx=>?_
  obtain ⟨kv,rfl,hkv,hkl⟩:=hR
  have hx':x=kv:=by simpa using hx.symm
  subst hx'
  refine ynd hd hkv hl (fun N2 hN2 hw2=>?_)
  cases hp:inF l fs[i].1
  ·try simp only [sS]
   refine fun hc=>⟨_,za0 hc,fun hw'=>?_⟩
   have := k N2 (by omega) hw'
   rw [yh7 i1 hp] at this; exact this
  ·try simp only [sS]
   refine zai (by omega) ?_
   refine next (i+1) _ _ (by omega) (fun hw3=>⟨_,za0 hw3,N2,rfl,by omega,i1,fun f hf=>?_⟩)
   rw [List.take_add_one,List.getElem?_eq_getElem i1,Option.toList_some] at hf
   rcases List.mem_append.1 hf with hf | hf
   ·exact he f hf
   ·rw [List.mem_singleton.1 hf]; exact hp
 ·try simp only [sS]
  rw [List.take_of_length_le (by omega)] at he
  refine zam hv1 ?_
  refine zfd (fun h2=>?_) (fun h2=>?_)
  ·refine fun hc=>⟨_,za0 hc,fun hw'=>?_⟩
   have := k N1 hN1 hw'
   rw [zzl (by omega) he] at this; exact this
  ·refine fun hc=>⟨_,za0 hc,fun hw'=>?_⟩
   have := k N1 hN1 hw'
   rw [show zd1 l fs=false by unfold zd1; rw [decide_eq_false (by omega)]; rfl] at this; exact this
set_option maxRecDepth 10000 in
theorem ych {v:Value} {l:List Fc} (hv:zar F v l) (hl:l.length≤1000000000) (hk:∀ f∈l,f.1.length≤10000000000)
  (k:za7 M N→∀ v' F' M' N' rows,zac F F'→N≤N'→own M' N 90 2 v' l.length rows.flatten→zad (zc1 F') 2 rows l→(∀ q,q<N→M' q=M q)→za7 M' N'→(Hp.mk F' M' N').wf→∃ h',(Hp.mk F' M' N').wk h'∧(h'.wf→K v' h')) :
  za2 Tryz.prog (.func (.func 50) #[] #[]) #[v] K E ⟨F,M,N⟩:=by
 refine za3 mixed Tryz.func50 (by kernel_rfl) (t50 _ E _) (fun hw=>?_)
 have hm:za7 M N:=hw.m
 obtain ⟨rows,hv1,hv2⟩:=hv
 refine ztb (σ:=Nat×Value) (fun s=>s.2) (fun s=>.int .i64 (s.1:Nat))
  (fun s h=>∃ F' M' N' rows,h=⟨F',M',N'⟩∧zac F F'∧N≤N'∧(∀ q,q<N→M' q=M q)∧za7 M' N'∧s.1≤l.length∧own M' N 90 2 s.2 s.1 rows.flatten∧zad (zc1 F') 2 rows (l.take s.1)) (fun s=>l.length - s.1) (0,.slice none 0 0) rfl rfl
  (fun hw1=>⟨_,za0 hw1,F,M,N,[],rfl,zac.refl _,Nat.le_refl _,fun _ _=>rfl,hm,Nat.zero_le _,own.nil,zad.nil _ _⟩) (fun k1 s j h1 hI hw1 next=>?_)
 rw [zst]
 obtain ⟨F1,M1,N1,rows1,rfl,hF1,hN1,hM1,hm1,hi,ho,hr⟩:=hI
 refine zam hv1 ?_
 refine zaf (fun hlt=>?_) (fun hge=>?_)
 ·have i1:s.1<l.length:=by omega
  have hkl':=hk _ (List.getElem_mem i1)
  try simp only [sS]
  refine zbb (hv1.mono hF1) (hv2.mono fun _ _ h=>h.mono hF1) (by decide) i1 (off:=0) (by decide) fun p q r x hR _ hx=>?_
  obtain ⟨kv,rfl,hkv,hkl⟩:=hR
  have hx':x=kv:=by simpa using hx.symm
  subst hx'
  refine (own.nil (B:=N1)).app (n:=0) (m:=l[s.1].1.length) (cs:=[]) hm1 (Nat.le_refl _) hkv.sR (zg5 _) (by omega) (by unfold maxLen; omega) (fun kv2 M2 N2 ok1 hfr hN2 hm2=>?_)
  rw [Nat.zero_add,List.nil_append] at ok1
  refine zbb (hv1.mono hF1) (hv2.mono fun _ _ h=>h.mono hF1) (by decide) i1 (off:=1) (by decide) fun p q r y hR _ hy=>?_
  obtain ⟨kv3,rfl,hkv3,hkl3⟩:=hR
  have hy':y=.int .i64 l[s.1].2:=by simpa using hy.symm
  subst hy'
  obtain ⟨ka,kc,hkf,_⟩:=ok1.form
  have ho2:own M2 N 90 2 s.2 s.1 rows1.flatten:=ho.keep (fun q hq=>(hfr q (by simp [Value.ownBlock]) (ho.lt hm1 q hq)).1) (Nat.le_refl _)
  have hM2:∀ q,q<N→M2 q=M q:=fun q hq=>((hfr q (by simp [Value.ownBlock]) (by omega)).1).trans (hM1 q hq)
  refine zaa (v:=.agg #[kv2,.int .i64 l[s.1].2]) (by rw [hkf]; kernel_rfl) ?_
  refine zcq (new:=[kv2,.int .i64 l[s.1].2]) ho2 hm2 (by omega) (by rw [hkf]; kernel_rfl) rfl (by rw [hkf]; exact List.all_eq_true.1 rfl) (by omega) (by unfold maxLen; omega) (fun p v' M4 N4 h4 h5 h6 h7=>?_)
  refine zai (by omega) ?_
  have hne:∀ q,kv2.ownBlock=some q→s.2.ownBlock≠some q:=fun q hq e=>by have := (ok1.ge q hq).1; have := ho.lt hm1 q e; omega
  obtain ⟨ok4,hne4⟩:=ok1.far h5 hm2 hne
  refine next (s.1+1,v') _ _ (by simp only; omega) (fun hw5=>⟨_,zgw (p:=fun q=>kv2.ownBlock=some q) hw5,_,_,N4,rows1++[[kv2,.int .i64 l[s.1].2]],rfl,hF1.trans (zbd hw5),by omega,fun q hq=>?_,zcl h7,i1,?_,?_⟩)
  ·have q1:¬ kv2.ownBlock=some q:=fun e=>by have := (ok1.ge q e).1; omega
   have q2:s.2.ownBlock≠some q:=fun e=>by have := (ho.ge q e).1; omega
   exact (zay q1).trans (((h5 q q2 (by omega)).1).trans (hM2 q hq))
  ·refine own.keep (M:=M4) ?_ (fun q hq=>zay (fun e=>hne4 q e hq)) (Nat.le_refl _)
   simpa using h4
  ·simp only
   rw [List.take_add_one,List.getElem?_eq_getElem i1,Option.toList_some]
   have h1f:zc1 (frzP F1 M4 (fun q=>kv2.ownBlock=some q)) [kv2,.int .i64 l[s.1].2] l[s.1]:=⟨kv2,rfl,ok4.frzP (fun q h=>h),hkl⟩
   exact zau (hr.mono fun _ _ h=>h.mono (zbd hw5)) h1f.one h1f
 ·try simp only [sS]
  rw [show s.1=l.length by omega] at ho
  rw [List.take_of_length_le (by omega)] at hr
  exact fun hc=>k hm s.2 F1 M1 N1 rows1 hF1 hN1 ho hr hM1 hm1 hc
theorem zwr {v:Value} {l:List Fc} (hv:zar F v l) (hl:l.length≤1000000000) (hk:∀ f∈l,f.1.length≤10000000000)
  (k:∀ v' F' N',(Hp.mk F' M N').wf→zac F F'→N≤N'→zar F' v' l→K v' ⟨F',M,N'⟩) :
  za2 Tryz.prog (.func (.func 50) #[] #[]) #[v] K E ⟨F,M,N⟩ :=
 ych hv hl hk (fun hm v' F' M' N' rows hF hN ho hr hM _ hc=>⟨_,zb7 hm hM hc,fun hw'=>k _ _ _ hw' (hF.trans (zag hc)) hN (zk4 hc ho hr)⟩)
theorem yk6 {v:Value} {l:List Fc} (hv:zar F v l) (hl:l.length≤1000000000) (hk:∀ f∈l,f.1.length≤10000000000)
  (k:∀ v' F' M' N' rows,zac F F'→N≤N'→own M' N 90 2 v' l.length rows.flatten→zad (zc1 F') 2 rows l→(∀ q,q<N→M' q=M q)→za7 M' N'→(Hp.mk F' M' N').wf→K v' ⟨F',M',N'⟩) :
  za2 Tryz.prog (.func (.func 50) #[] #[]) #[v] K E ⟨F,M,N⟩ :=
 ych hv hl hk (fun _ v' F' M' N' rows hF hN ho hr hM hm' hc=>⟨_,za0 hc,fun hw'=>k v' F' M' N' rows hF hN ho hr hM hm' hw'⟩)
set_option maxRecDepth 10000 in
theorem znk {N0 b2 i u:Nat} {x7 x0 fv ov:Value} {rows1 orows rows:List (List Value)} {h:List En} {old fs:List Fc} {t:Int} (hN0:N0≤N) (hm:za7 M N) (hb:M b2=some (.cells 74 [.int .u32 t,ov] 2)) (hbN:N0≤b2)
  (ho:own M N0 74 2 x7 i rows1.flatten) (ho1:∀ c∈rows1.flatten,c.oneCell'=true) (hof:own M N0 90 2 ov old.length orows.flatten) (hor:zad (zc1 F) 2 orows old) (hv1:sF F 2 x0 h.length rows.flatten) (hv2:zad (zcv F) 2 rows h) (hu:u≤h.length) (hi:i≤100000000000) (hl:h.length≤100000000000)
  (hf:zar F fv fs) (hfl:fs.length≤1000000) (hk:∀ f∈fs,f.1.length≤10000000000) (hol:old.length≤1000000) (d1:x7.ownBlock≠some b2) (d2:ov.ownBlock≠some b2) (d3:∀ q,x7.ownBlock=some q→ov.ownBlock≠some q)
  (k:∀ v' F' M' N' fv3 frows,zac F F'→N≤N'→own M' N0 74 2 v' (i+1+(h.drop u).length) (rows1.flatten++[.int .u32 t,fv3]++(rows.drop u).flatten)→own M' N0 90 2 fv3 (old++fs).length frows.flatten→zad (zc1 F') 2 frows (old++fs)→(∀ q,q<N0→M' q=M q)→za7 M' N'→K v' ⟨F',M',N'⟩) :
  (pv (faV 1 (.pointer (some ⟨b2,0,none⟩))) fun t1=>ld false 1 t1 fun t2=>za2 Tryz.prog (.func (.func 50) #[] #[]) #[fv] (fun t3 h4=>(ldV h4 false 1 t1 t2)∧(zbf 90 2 32 t2 t3 fun t5=>pv (faV 1 (.pointer (some ⟨b2,0,none⟩))) fun t6=>st 1 t6 t5 fun _=>ld true 2 (.pointer (some ⟨b2,0,none⟩)) fun t7=>nws 74 1 (bsC #[(.int .u32 0),(.slice none 0 0)] 2 1 #[(0,t7)]) fun t8=>zbf 74 2 32 x7 t8 fun t9=>pv (slV 2 x0 (some (.int .i64 (u:Nat))) none none) fun t10=>zbf 74 2 32 t9 t10 fun t11=>K t11) h4) E) ⟨F,M,N⟩:=by
 try simp only [sS]
 refine ldM (v:=ov) ?_ hb
 refine zwr hf (by omega) hk (fun v3 F3 N3 hw3 hF3 hN3 hf3=>?_)
 refine ⟨zao (zaq hb) rfl,?_⟩
 have hm3:za7 M N3:=hw3.m
 obtain ⟨frows,hf3a,hf3b⟩:=hf3
 refine hof.app hm3 (by omega) hf3a.sR hf3b.f1 (by omega) (by unfold maxLen; omega) (fun v5 M5 N5 g1 g2 g3 g4=>?_)
 have hbN3:b2<N3:=hm3.lt hb
 have hb5:=(g2 b2 d2 hbN3).1.trans hb
 have d2':=(g2 b2 d2 hbN3).2
 obtain ⟨ho5,d3'⟩:=ho.far g2 hm3 (fun q hq=>d3 q hq)
 obtain ⟨a5,c5,e5,_⟩:=g1.form
 have hfr5:zad (zc1 F3) 2 (orows++frows) (old++fs):=zga (hor.mono fun _ _ h=>h.mono hF3) hf3b
 have g1':own M5 N0 90 2 v5 (old++fs).length (orows++frows).flatten:=by rw [List.length_append,List.flatten_append]; exact g1
 try simp only [sS]
 refine stM (cs':=[.int .u32 t,v5]) ?_ hb5 (by rw [e5]; rfl) (by rw [e5]; rfl) (by rw [e5]; exact List.all_eq_true.1 rfl)
 refine zas (vs:=[.int .u32 t,v5]) ?_
 have ho6:own (upd M5 b2 (some (.cells 74 [.int .u32 t,v5] 2))) N0 74 2 x7 i rows1.flatten:=ho5.keep (fun q hq=>za4 _ _ (fun e=>d1 (by rw [← e]; exact hq))) (Nat.le_refl _)
 have hof6:own (upd M5 b2 (some (.cells 74 [.int .u32 t,v5] 2))) N0 90 2 v5 (old++fs).length (orows++frows).flatten:=g1'.keep (fun q hq=>za4 _ _ (fun e=>d2' (by rw [← e]; exact hq))) (Nat.le_refl _)
 have hm6:za7 (upd M5 b2 (some (.cells 74 [.int .u32 t,v5] 2))) N5:=g4.set (by omega) _
 have hM6:∀ q,q<N0→upd M5 b2 (some (.cells 74 [.int .u32 t,v5] 2)) q=M q:=fun q hq=>(za4 _ _ (by omega)).trans ((g2 q (fun e=>by have := (hof.ge q e).1; omega) (by omega)).1)
 generalize upd M5 b2 _=M6 at *
 refine zcq (new:=[.int .u32 t,v5]) ho6 hm6 (by omega) (by rw [e5]; kernel_rfl) rfl (by rw [e5]; exact List.all_eq_true.1 rfl) (by omega) (by unfold maxLen; omega) (fun p v7 M7 N7 k1 k2 k3 k4=>?_)
 have d4:∀ q,v5.ownBlock=some q→x7.ownBlock≠some q:=fun q hq e=>d3' q e hq
 obtain ⟨hof7,d5⟩:=hof6.far k2 hm6 d4
 refine yju (hv1.mono hF3) (hv2.mono fun _ _ h=>h.mono hF3) hu (fun v8 hv8=>?_)
 refine k1.app (m:=(h.drop u).length) k4 (by omega) hv8.sR (zib hv2 u).f1 (by rw [List.length_drop]; omega) (by rw [List.length_drop]; unfold maxLen; omega) (fun v9 M9 N9 j1 j2 j3 j4=>?_)
 obtain ⟨hof9,_⟩:=hof7.far j2 k4 d5
 refine k v9 F3 M9 N9 v5 (orows++frows) hF3 (by omega) j1 hof9 hfr5 (fun q hq=>?_) j4
 have q7:x7.ownBlock≠some q:=fun e=>by have := (ho6.ge q e).1; omega
 obtain ⟨z1,z2⟩:=k2 q q7 (by omega)
 rw [(j2 q z2 (by omega)).1,z1,hM6 q hq]
set_option maxRecDepth 10000 in
set_option maxHeartbeats 2000000 in
theorem ybw {lv fv:Value} {h:List En} {t:Int} {fs:List Fc} (hv:zcb F lv h) (hs:zbw h) (hl:h.length≤10000000000) (hm':∀ e∈h,e.2.length≤1000000) (hmk:∀ e∈h,∀ f∈e.2,f.1.length≤10000000000) (hf:zar F fv fs) (hfl:fs.length≤1000000) (hk:∀ f∈fs,f.1.length≤10000000000)
  (k:∀ v' F' N',(Hp.mk F' M N').wf→zac F F'→N≤N'→zcb F' v' (withR h t fs)→K v' ⟨F',M,N'⟩) :
  za2 Tryz.prog (.func (.func 84) #[] #[]) #[lv,.int .u32 t,fv] K E ⟨F,M,N⟩:=by
 refine za3 mixed Tryz.func84 (by kernel_rfl) (t84 _ E _ _ _) (fun hw=>?_)
 have hm:za7 M N:=hw.m
 obtain ⟨rows,hv1,hv2⟩:=hv
 have hpl:=zi6 h t
 have hul:=ybr h t
 refine zum (σ:=Nat×Value) (fun s=>s.2) (fun s=>.int .i64 (s.1:Nat))
  (fun s h'=>∃ M' N' rows',h'=⟨F,M',N'⟩∧N≤N'∧(∀ q,q<N→M' q=M q)∧za7 M' N'∧s.1≤zaz h t∧own M' N 74 2 s.2 s.1 rows'.flatten∧zad (zcv F) 2 rows' (h.take s.1)) (fun s=>h.length - s.1) (0,.slice none 0 0) rfl rfl
  (fun hw1=>⟨_,za0 hw1,M,N,[],rfl,Nat.le_refl _,fun _ _=>rfl,hm,Nat.zero_le _,own.nil,zad.nil _ _⟩) (fun k1 s j h1 hI hw1 next=>?_)
 rw [zsr]
 obtain ⟨M1,N1,rows1,rfl,hN1,hM1,hm1,hi,ho,hr⟩:=hI
 refine zam hv1 ?_
 by_cases hst:s.1<h.length∧∀ hx:s.1<h.length,h[s.1].1<t
 ·obtain ⟨i1,hx⟩:=hst
  have hx':=hx i1
  have hip:s.1<zaz h t:=by
   rcases Nat.lt_or_ge s.1 (zaz h t) with h2 | h2
   ·exact h2
   ·have := zjj hs i1 h2; omega
  refine zh0 (by omega) ?_
  try simp only [sS]
  refine zbb hv1 hv2 (by decide) i1 (off:=0) (by decide) fun p q r x hR _ hx=>?_
  obtain ⟨ev,rfl,hev,hevl⟩:=hR
  have hxe:x=.int .u32 h[s.1].1:=by simpa using hx.symm
  subst hxe
  refine zh0 (by omega) ?_
  try simp only [sS]
  refine zcr hv1 hv2 (by decide) i1 (fun p r _ hR hrl hr1=>?_)
  have hR':=hR
  obtain ⟨ev,hre,hev,hevl⟩:=hR
  subst hre
  obtain ⟨ea,ec,eev⟩:=hev.form
  refine zcq (new:=[.int .u32 h[s.1].1,ev]) ho hm1 (by omega) (by rw [eev]; kernel_rfl) rfl hr1 (by omega) (by unfold maxLen; omega) (fun p v' M4 N4 h4 h5 h6 h7=>?_)
  refine zai (by omega) ?_
  refine next (s.1+1,v') _ _ (by simp only; omega) (fun hw5=>⟨_,za0 hw5,M4,N4,rows1++[[.int .u32 h[s.1].1,ev]],rfl,by omega,fun q hq=>?_,h7,hip,?_,?_⟩)
  ·exact ((h5 q (fun e=>by have := (ho.ge q e).1; omega) (by omega)).1).trans (hM1 q hq)
  ·simpa using h4
  ·simp only
   rw [List.take_add_one,List.getElem?_eq_getElem i1,Option.toList_some]
   exact zau hr hR'.one hR'
 have hsp:s.1=zaz h t:=by
  rcases Nat.lt_or_ge s.1 (zaz h t) with h2 | h2
  ·have i1:s.1<h.length:=by omega
   exact absurd ⟨i1,fun hx=>zkt hx h2⟩ hst
  ·omega
 have ht0:(hx:s.1<h.length)→zc4 h t=decide (h[s.1].1=t):=fun hx=>by rw [zjp (by rw [← hsp]; exact hx)]; simp only [hsp]
 have hup:zca h t=s.1+(if zc4 h t=true then 1 else 0):=by rw [hsp]; rfl
 have hwe:=zjl h t fs
 unfold zlo at hwe
 rw [← hsp] at hwe
 have fin:∀ v' F' M' N' fv3 frows,zac F F'→N1≤N'→own M' N 74 2 v' (s.1+1+(h.drop (zca h t)).length) (rows1.flatten++[.int .u32 t,fv3]++(rows.drop (zca h t)).flatten)→own M' N 90 2 fv3 (zg3 h t++fs).length frows.flatten→zad (zc1 F') 2 frows (zg3 h t++fs)→(∀ q,q<N→M' q=M q)→za7 M' N'→(Hp.mk F' M' N').wf→∃ h',(Hp.mk F' M' N').wk h'∧(h'.wf→K v' h'):=fun v' F' M' N' fv3 frows hF hN j1 j2 j3 j4 j5 hc=>by
  refine ⟨_,zb7 hm j4 hc,fun hw'=>k v' _ _ hw' (hF.trans (zag hc)) (by omega) ?_⟩
  have hFz:=hF.trans (zag (N:=N) hc)
  have hel:(zg3 h t++fs).length≤140737488351232:=by
   rw [List.length_append]
   have:(zg3 h t).length≤1000000:=by
    unfold zg3
    split
    ·rename_i hth; rw [zb0 (zrr hth)]; exact hm' _ (List.getElem_mem _)
    ·simp
   omega
  have he:zcv (zdh F' M' N) [.int .u32 t,fv3] (t,zg3 h t++fs):=⟨fv3,rfl,zk4 hc j2 j3,hel⟩
  have hrow:zad (zcv (zdh F' M' N)) 2 (rows1++[[.int .u32 t,fv3]]++rows.drop (zca h t)) (withR h t fs):=by
   rw [← hwe]
   have := zga (zga (hr.mono fun _ _ h=>h.mono hFz) (zau (zad.nil _ 2) he.one he)) (zib (hv2.mono fun _ _ h=>h.mono hFz) (zca h t))
   simpa using this
  have hlen:(withR h t fs).length=s.1+1+(h.drop (zca h t)).length:=by
   rw [← hwe,List.length_append,List.length_cons,List.length_take]; omega
  have hown:own M' N 74 2 v' (withR h t fs).length (rows1++[[Value.int .u32 t,fv3]]++rows.drop (zca h t)).flatten:=by
   rw [hlen]
   have:(rows1++[[Value.int .u32 t,fv3]]++rows.drop (zca h t)).flatten=rows1.flatten++[.int .u32 t,fv3]++(rows.drop (zca h t)).flatten:=by simp
   rw [this]; exact j1
  exact ⟨_,hown.rd.frz hc (fun b hb=>.inl (hown.ge b hb).1),hrow⟩
 have hr1:=hr.f1
 have hb0:=za5 M1
 have box:∀ b2,N1≤b2→∀ M2,M2=upd M1 b2 (some (.cells 74 [.int .u32 t,.slice none 0 0] 2))→own M2 N 74 2 s.2 s.1 rows1.flatten∧M2 b2=some (.cells 74 [.int .u32 t,.slice none 0 0] 2)∧za7 M2 (b2+1)∧s.2.ownBlock≠some b2∧∀ q,q<N→M2 q=M q:=fun b2 hb2 M2 e=>by
  subst e
  exact ⟨ho.box hm1 hb2 _,za5 _ _ _,hm1.new hb2 _,fun e=>by have := ho.lt hm1 _ e; omega,fun q hq=>(za4 _ _ (by omega)).trans (hM1 q hq)⟩
 refine zaf (fun hlt=>?_) (fun hge=>?_)
 have i1:s.1<h.length:=by omega
 have hxn:¬ h[s.1].1<t:=fun hx=>hst ⟨i1,fun _=>hx⟩
 try simp only [sS]
 refine zbb hv1 hv2 (by decide) i1 (off:=0) (by decide) fun p q r x hR _ hx=>?_
 obtain ⟨ev,rfl,hev,hevl⟩:=hR
 have hxe:x=.int .u32 h[s.1].1:=by simpa using hx.symm
 subst hxe
 refine zh2 (by omega) ?_
 rotate_left
 all_goals
  try simp only [sS]
  refine zaa (v:=.agg #[.int .u32 t,.slice none 0 0]) (by kernel_rfl) ?_
  refine zal (fun b2 hb2=>?_)
  refine stM (cs':=[.int .u32 t,.slice none 0 0]) ?_
  rw [zbe]
  obtain ⟨M2,hM2⟩:∃ M2,M2=upd M1 b2 (some (.cells 74 [.int .u32 t,.slice none 0 0] 2)):=⟨_,rfl⟩
  obtain ⟨q1,q2,q3,q4,q5⟩:=box b2 hb2 M2 hM2
  refine zam hv1 ?_
 ·have hth:zc4 h t=false:=zld (by omega)
  rw [hth,if_neg (by decide),Nat.add_zero] at hup
  refine zh2 (by omega) ?_
  try simp only [sS]
  rw [zir]
  have e2:upd M1 b2 (some (zak.cells 74 [Value.int .u32 t,Value.slice none 0 0] [Value.int .u32 0,Value.slice none 0 0].length))=M2:=hM2.symm
  rw [e2]
  rw [hup] at fin
  have e3:zg3 h t=[]:=by unfold zg3; rw [hth]; rfl
  rw [e3] at fin
  exact znk (old:=[]) (orows:=[]) (by omega) q3 q2 (by omega) q1 hr1 own.nil (zad.nil _ _) hv1 hv2 (by omega) (by omega) (by omega) hf hfl hk (by simp) q4 (by simp [Value.ownBlock]) (by simp [Value.ownBlock]) (fun v' F' M' N' fv3 frows a1 a2 a3 a4 a5 a6 a7=>fin v' F' M' N' fv3 frows a1 (by omega) a3 a4 a5 (fun q hq=>(a6 q hq).trans (q5 q hq)) a7)
 ·refine zh0 (by omega) ?_
  try simp only [sS]
  have e2:upd M1 b2 (some (zak.cells 74 [Value.int .u32 t,Value.slice none 0 0] [Value.int .u32 0,Value.slice none 0 0].length))=M2:=hM2.symm
  rw [e2]
  refine zbb hv1 hv2 (by decide) i1 (off:=0) (by decide) fun p q r x hR _ hx=>?_
  obtain ⟨ev,rfl,hev,hevl⟩:=hR
  have hxe:x=.int .u32 h[s.1].1:=by simpa using hx.symm
  subst hxe
  refine zba (fun het=>?_) (fun het=>?_)
  ·have hth:zc4 h t=true:=by rw [ht0 i1]; exact decide_eq_true het
   rw [hth,if_pos rfl] at hup
   try simp only [sS]
   refine zbb hv1 hv2 (by decide) i1 (off:=1) (by decide) fun p q r x hR _ hx=>?_
   obtain ⟨ev,rfl,hev,hevl⟩:=hR
   have hxe:x=ev:=by simpa using hx.symm
   subst hxe
   have hom:=hm' _ (List.getElem_mem i1)
   refine yk6 hev (by omega) (hmk _ (List.getElem_mem i1)) (fun ov F4 M4 N4 orows hF4 hN4 c1 c2 c3 c4 c5=>?_)
   have hb4:=(c3 b2 (by omega)).trans q2
   obtain ⟨oa,oc,oe,_⟩:=c1.form
   try simp only [sS]
   refine stM (cs':=[.int .u32 t,ov]) ?_ hb4 (by rw [oe]; rfl) (by rw [oe]; rfl) (by rw [oe]; exact List.all_eq_true.1 rfl)
   refine zai (by omega) ?_
   rw [zir]
   rw [hup] at fin
   have e3:zg3 h t=h[s.1].2:=by unfold zg3; rw [hth,if_pos rfl,← hsp,zb0 i1]
   rw [e3] at fin
   have x4:own (upd M4 b2 (some (.cells 74 [.int .u32 t,ov] 2))) N 74 2 s.2 s.1 rows1.flatten:=q1.keep (fun q hq=>(za4 _ _ (fun e=>q4 (by rw [← e]; exact hq))).trans (c3 q (q1.lt q3 q hq))) (Nat.le_refl _)
   have x5:own (upd M4 b2 (some (.cells 74 [.int .u32 t,ov] 2))) N 90 2 ov h[s.1].2.length orows.flatten:=c1.keep (fun q hq=>za4 _ _ (fun e=>by have := (c1.ge q hq).1; omega)) (by omega)
   refine znk (old:=h[s.1].2) (orows:=orows) (by omega) (c4.set (by omega) _) (za5 _ _ _) (by omega) x4 hr1 x5 c2 (hv1.mono hF4) (hv2.mono fun _ _ h=>h.mono hF4) (by omega) (by omega) (by omega) (hf.mono hF4) hfl hk hom q4 (fun e=>by have := (c1.ge _ e).1; omega) (fun q hq e=>by have := (c1.ge q e).1; have := q1.lt q3 q hq; omega) (fun v' F' M' N' fv3 frows a1 a2 a3 a4 a5 a6 a7=>fin v' F' M' N' fv3 frows (hF4.trans a1) (by omega) a3 a4 a5 (fun q hq=>(a6 q hq).trans ((za4 _ _ (by omega)).trans ((c3 q (by omega)).trans (q5 q hq)))) a7)
  ·have hth:zc4 h t=false:=by rw [ht0 i1]; exact decide_eq_false het
   rw [hth,if_neg (by decide),Nat.add_zero] at hup
   try simp only [sS]
   rw [zir]
   rw [hup] at fin
   have e3:zg3 h t=[]:=by unfold zg3; rw [hth]; rfl
   rw [e3] at fin
   exact znk (old:=[]) (orows:=[]) (by omega) q3 q2 (by omega) q1 hr1 own.nil (zad.nil _ _) hv1 hv2 (by omega) (by omega) (by omega) hf hfl hk (by simp) q4 (by simp [Value.ownBlock]) (by simp [Value.ownBlock]) (fun v' F' M' N' fv3 frows a1 a2 a3 a4 a5 a6 a7=>fin v' F' M' N' fv3 frows a1 (by omega) a3 a4 a5 (fun q hq=>(a6 q hq).trans (q5 q hq)) a7)
theorem zg2.keep {B g:Nat} {hv dv:Value} {rows:List (List Value)} {l:List Dm} {h:List En} (hC:zg2 F M B g hv dv rows l h) (hF:zac F F') (hM:∀ q,q=g∨hv.ownBlock=some q→M' q=M q):zg2 F' M' B g hv dv rows l h :=
 ⟨(hM g (.inl rfl)).trans hC.gg,hC.gB,hC.oo.keep (fun q h=>hM q (.inr h)) (Nat.le_refl _),hC.rr.mono fun _ _ h=>h.mono hF,hC.vg,hC.dd.mono hF,hC.rs⟩
theorem zg2.lt {B g:Nat} {hv dv:Value} {rows:List (List Value)} {l:List Dm} {h:List En} (hC:zg2 F M B g hv dv rows l h) (hm:za7 M N):∀ q,q=g∨hv.ownBlock=some q→B≤q∧q<N:=fun q hq=>by
 rcases hq with rfl | hq
 ·exact ⟨hC.gB,hm.lt hC.gg⟩
 ·exact ⟨(hC.oo.ge q hq).1,hC.oo.lt hm q hq⟩
theorem yio {b c:Nat} {x v:Int} (h1:F b=some [.int .i64 x]) (h2:F c=some [.slice (some ⟨b,0,none⟩) 1 1,.int .i64 v]):zar F (.slice (some ⟨c,0,none⟩) 1 1) [([x],v)] :=
 ⟨[[.slice (some ⟨b,0,none⟩) 1 1,.int .i64 v]],zhr h2 rfl (by decide),yg2 (zzt h1) (by simp) (zad.nil _ _)⟩
theorem yea {l:List Dm} {h:List En} {t:Int} {fs:List Fc} (h1:zd1 l fs=true) (h2:t≠0) (h3:zc4 h t=false) (h4:h.length<5000):zew l h t fs=0:=by
 unfold zew
 rw [if_neg (by rw [h1]; decide),if_neg (by rintro (q | q); exact h2 q; rw [h3] at q; cases q),if_neg (by omega)]
theorem zxg {h:List En} {t:Int} (hs:zbw h):zc4 h t=true↔∃ e∈h,e.1=t:=by
 constructor
 ·intro ht
  have hi:=zrr ht
  rw [zjp hi] at ht
  exact ⟨_,List.getElem_mem hi,of_decide_eq_true ht⟩
 ·rintro ⟨e,he,het⟩
  obtain ⟨i,hi,rfl⟩:=List.mem_iff_getElem.1 he
  have e1:i=zaz h t:=by
   rcases Nat.lt_trichotomy i (zaz h t) with h1 | h1 | h1
   ·have := zkt hi h1; omega
   ·exact h1
   ·have hp:zaz h t<h.length:=by omega
    have h2:=zjj (t:=t) hs hp (Nat.le_refl _)
    have h3:=List.pairwise_iff_getElem.1 hs (zaz h t) i hp hi h1
    omega
  subst e1
  rw [zjp hi]; exact decide_eq_true het
set_option maxRecDepth 10000 in
theorem ymt {v:Value} {l:List Dm} (hv:zbl F v l) (hl:l.length≤140737488351232)
  (k1:zbh l=false→∀ N',N≤N'→(Hp.mk F M N').wf→K (.pointer none) ⟨F,M,N'⟩)
  (k2:zbh l=true→∀ g dv F' M' N',zac F F'→ziq F' M' g dv (.slice none 0 0) l []→N≤g→(∀ q,q<N→M' q=M q)→N≤N'→za7 M' N'→(Hp.mk F' M' N').wf→K (.pointer (some ⟨g,0,none⟩)) ⟨F',M',N'⟩) :
  za2 Tryz.prog (.func (.func 47) #[] #[]) #[v] K E ⟨F,M,N⟩:=by
 refine za3 mixed Tryz.func47 (by kernel_rfl) (t47 _ E _) (fun hw=>?_)
 have hm:za7 M N:=hw.m
 have hlv:za9 v=some (.int .i64 (l.length:Nat)):=by obtain ⟨a,c,e⟩:=hv.form; rw [e]; rfl
 refine zlk hv hl (fun N1 hN1 hw1=>?_)
 cases hok:zbh l
 ·try simp only [sS]
  exact fun hc=>⟨_,za0 hc,fun hw'=>k1 hok _ hN1 hw'⟩
 have hl4:=zhf hok
 try simp only [sS]
 refine zaa (v:=.agg #[.slice none 0 0,.slice none 0 0]) (by kernel_rfl) ?_
 refine zal (cs:=[.slice none 0 0,.slice none 0 0]) (fun g hg=>?_)
 obtain ⟨drs,hv1,hv2⟩:=hv
 refine zpu (σ:=Nat) (fun i=>.int .i64 (i:Nat))
  (fun i h=>∃ F' M' N' dv rows,h=⟨F',M',N'⟩∧zac F F'∧g<N'∧(∀ q,q<N→M' q=M q)∧za7 M' N'∧i≤l.length∧M' g=some (.cells 126 [dv,.slice none 0 0] 2)∧own M' (g+1) 88 2 dv i rows.flatten∧zad (zfh F') 2 rows (l.take i)) (fun i=>l.length - i) 0 rfl
  (fun hw2=>⟨_,za0 hw2,F,_,g+1,.slice none 0 0,[],rfl,zac.refl _,Nat.lt_succ_self _,fun q hq=>za4 _ _ (by omega),(hm.up hN1).new hg _,Nat.zero_le _,za5 _ _ _,own.nil,zad.nil _ _⟩) (fun kk i j h1 hI hw2 next=>?_)
 rw [zq2]
 obtain ⟨F1,M1,N2,dv,rows,rfl,hF1,hgN,hM1,hm1,hi,hbox,ho,hr⟩:=hI
 refine zaa hlv ?_
 refine zaf (fun hlt=>?_) (fun hge=>?_)
 ·have i1:i<l.length:=by omega
  have hdl:=zok (zkf hok _ (List.getElem_mem i1))
  try simp only [sS]
  refine zbb (hv1.mono hF1) (hv2.mono fun _ _ h=>h.mono hF1) (by decide) i1 (off:=1) (by decide) fun p q r x hR _ hx=>?_
  obtain ⟨kv,rfl,hkv,hkl⟩:=hR
  have hx':x=kv:=by simpa using hx.symm
  subst hx'
  refine (own.nil (B:=N2)).app (n:=0) (m:=l[i].2.length) (cs:=[]) hm1 (Nat.le_refl _) hkv.sR (zg5 _) (by omega) (by unfold maxLen; omega) (fun kv2 M2 N3 ok1 hfr hN3 hm2=>?_)
  rw [Nat.zero_add,List.nil_append] at ok1
  have hg2:=(hfr g (by simp [Value.ownBlock]) hgN).1.trans hbox
  refine ldM (v:=dv) ?_ hg2
  refine zbb (hv1.mono hF1) (hv2.mono fun _ _ h=>h.mono hF1) (by decide) i1 (off:=0) (by decide) fun p q r y hR _ hy=>?_
  obtain ⟨kv3,rfl,hkv3,hkl3⟩:=hR
  have hy':y=.int .i64 l[i].1:=by simpa using hy.symm
  subst hy'
  obtain ⟨ka,kc,hkf,_⟩:=ok1.form
  have ho2:own M2 (g+1) 88 2 dv i rows.flatten:=ho.keep (fun q hq=>(hfr q (by simp [Value.ownBlock]) (ho.lt hm1 q hq)).1) (Nat.le_refl _)
  have hM2:∀ q,q<N→M2 q=M q:=fun q hq=>((hfr q (by simp [Value.ownBlock]) (by omega)).1).trans (hM1 q hq)
  have hne:∀ q,kv2.ownBlock=some q→dv.ownBlock≠some q:=fun q hq e=>by have := (ok1.ge q hq).1; have := ho.lt hm1 q e; omega
  refine zaa (v:=.agg #[.int .i64 l[i].1,kv2]) (by rw [hkf]; kernel_rfl) ?_
  refine zde (cs:=[.int .i64 l[i].1,kv2]) (by rw [hkf]; kernel_rfl) (fun b4 hb4=>?_)
  obtain ⟨M4,hM4e⟩:∃ M4,M4=upd M2 b4 (some (.cells 88 [.int .i64 l[i].1,kv2] [Value.int .i64 l[i].1,kv2].length)):=⟨_,rfl⟩
  rw [← hM4e]
  have hb4e:M4 b4=some (.cells 88 [.int .i64 l[i].1,kv2] 2):=by rw [hM4e]; exact za5 _ _ _
  have hg4:M4 g=some (.cells 126 [dv,.slice none 0 0] 2):=by rw [hM4e]; exact (za4 _ _ (by omega)).trans hg2
  have ho4:own M4 (g+1) 88 2 dv i rows.flatten:=by rw [hM4e]; exact ho2.box hm2 hb4 _
  have ok4:own M4 N2 3 1 kv2 l[i].2.length (ic l[i].2):=by rw [hM4e]; exact ok1.box hm2 hb4 _
  have hm4:za7 M4 (b4+1):=by rw [hM4e]; exact hm2.new hb4 _
  have hM4:∀ q,q<N→M4 q=M q:=fun q hq=>by rw [hM4e]; exact (za4 _ _ (by omega)).trans (hM2 q hq)
  clear hM4e
  refine ⟨zao (zaq hg4) rfl,?_⟩
  refine ho4.app (m:=1) (news:=[.int .i64 l[i].1,kv2]) hm4 (by omega) ⟨rfl,.inr ⟨b4,0,1,_,rfl,Nat.le_refl _,.inr ⟨_,_,hb4e⟩,rfl⟩⟩ (by rw [hkf]; exact List.all_eq_true.1 rfl) (by omega) (by unfold maxLen; omega) (fun dv' M5 N5 g1 g2 g3 g4=>?_)
  have hgd:dv.ownBlock≠some g:=fun e=>by have := (ho4.ge g e).1; omega
  obtain ⟨y1,y2⟩:=g2 g hgd (by omega)
  obtain ⟨ok5,hne5⟩:=ok4.far g2 hm4 hne
  obtain ⟨a5,c5,e5,_⟩:=g1.form
  have hkg:∀ q,kv2.ownBlock=some q→q≠g:=fun q hq e=>by have := (ok1.ge q hq).1; omega
  try simp only [sS]
  refine stM (cs':=[dv',.slice none 0 0]) ?_ (y1.trans hg4) (by rw [e5]; rfl) (by rw [e5]; rfl) (by rw [e5]; exact List.all_eq_true.1 rfl)
  refine zai (by omega) ?_
  have ok6:own (upd M5 g (some (.cells 126 [dv',.slice none 0 0] 2))) N2 3 1 kv2 l[i].2.length (ic l[i].2):=ok5.keep (fun q hq=>za4 _ _ (hkg q hq)) (Nat.le_refl _)
  refine next (i+1) _ _ (by omega) (fun hw6=>⟨_,zgw (p:=fun q=>kv2.ownBlock=some q) hw6,_,_,N5,dv',rows++[[.int .i64 l[i].1,kv2]],rfl,hF1.trans (zbd hw6),by omega,fun q hq=>?_,zcl (g4.set (by omega) _),i1,?_,?_,?_⟩)
  ·have q1:¬ kv2.ownBlock=some q:=fun e=>by have := (ok1.ge q e).1; omega
   exact (zay q1).trans ((za4 _ _ (by omega)).trans (((g2 q (fun e=>by have := (ho4.ge q e).1; omega) (by omega)).1).trans (hM4 q hq)))
  ·exact (zay (fun e=>hkg g e rfl)).trans (za5 _ _ _)
  ·refine own.keep (M:=M5) ?_ (fun q hq=>(zay (fun e=>hne5 q e hq)).trans (za4 _ _ (fun e=>y2 (e ▸ hq)))) (Nat.le_refl _)
   simpa using g1
  ·rw [List.take_add_one,List.getElem?_eq_getElem i1,Option.toList_some]
   have h1f:zfh (frzP F1 (upd M5 g (some (.cells 126 [dv',.slice none 0 0] 2))) (fun q=>kv2.ownBlock=some q)) [.int .i64 l[i].1,kv2] l[i]:=⟨kv2,rfl,ok6.frzP (fun q h=>h),hkl⟩
   exact zau (hr.mono fun _ _ h=>h.mono (zbd hw6)) h1f.one h1f
 ·try simp only [sS]
  rw [show i=l.length by omega] at ho
  rw [List.take_of_length_le (by omega)] at hr
  have hne:¬ dv.ownBlock=some g:=fun e=>by have := (ho.ge g e).1; omega
  refine fun hc=>⟨_,zgw (p:=fun q=>dv.ownBlock=some q) hc,fun hw'=>k2 hok g dv _ _ N2 (hF1.trans (zbd hc)) ⟨(zay hne).trans hbox,⟨rows,ho.frzP (fun q h=>h),hr.mono fun _ _ h=>h.mono (zbd hc)⟩,zcb.nil⟩ (by omega) (fun q hq=>(zay (fun e=>by have := (ho.ge q e).1; omega)).trans (hM1 q hq)) (by omega) (zcl hm1) hw'⟩
set_option maxRecDepth 10000 in
theorem ylj {g:Nat} {dv lv fv:Value} {l:List Dm} {h:List En} {t:Int} {fs:List Fc} (hC:ziq F M g dv lv l h) (o:okH l 5000 200 h) (hdl:l.length≤1000) (hf:zar F fv fs) (hfl:fs.length≤140737488351232)
  (k:∀ lv' F' M' N',zac F F'→ziq F' M' g dv lv' l (zj6 l h t fs)→(∀ q,q≠g→M' q=M q)→N≤N'→(Hp.mk F' M' N').wf→K (.int .i64 ((zew l h t fs:Nat):Int)) ⟨F',M',N'⟩) :
  za2 Tryz.prog (.func (.func 81) #[] #[]) #[.pointer (some ⟨g,0,none⟩),.int .u32 t,fv] K E ⟨F,M,N⟩:=by
 refine za3 mixed Tryz.func81 (by kernel_rfl) (t81 _ E _ _ _) (fun hw=>?_)
 have hm:za7 M N:=hw.m
 have hol:=o.le
 have hlv:za9 lv=some (.int .i64 (h.length:Nat)):=by obtain ⟨a,c,e⟩:=hC.ll.form; rw [e]; rfl
 have fin:∀ n:Nat,n≠0→n=zew l h t fs→∀ N',N≤N'→∀ h',h'=(⟨F,M,N'⟩:Hp)→h'.wf→∃ h'',h'.wk h''∧(h''.wf→K (.int .i64 ((n:Nat):Int)) h''):=fun n n0 e N' hN h' e' hc=>by
  subst e'
  refine ⟨_,za0 hc,fun hw'=>?_⟩
  rw [e]
  refine k lv F M N' (zac.refl _) ?_ (fun _ _=>rfl) hN hw'
  unfold zj6; rw [if_neg (by omega)]; exact hC
 refine zpr hC.gg hC.dd (by omega) hf hfl (fun N1 hN1 hw1=>?_)
 cases h1:zd1 l fs
 ·try simp only [sS]
  exact fin 1 (by decide) (by unfold zew; rw [if_pos h1]) N1 hN1 _ rfl
 obtain ⟨f1,f2⟩:=zdu h1
 try simp only [sS]
 refine zba (fun h2=>?_) (fun h2=>?_)
 ·try simp only [sS]
  exact fin 130 (by decide) (by unfold zew; rw [if_neg (by rw [h1]; decide),if_pos (.inl h2)]) N1 hN1 _ rfl
 try simp only [sS]
 have hll:=hC.ll
 obtain ⟨erows,hl1,hl2⟩:=hll
 refine zq7 (σ:=Nat) (fun i=>.int .i64 (i:Nat)) (fun i h'=>h'=⟨F,M,N1⟩∧i≤h.length∧∀ e∈h.take i,e.1≠t) (fun i=>h.length - i) 0 rfl
  (fun hw2=>⟨_,za0 hw2,rfl,Nat.zero_le _,by simp⟩) (fun kk i j h1' hI hw2 next=>?_)
 rw [zpt]
 obtain ⟨rfl,hi,he⟩:=hI
 try simp only [sS]
 refine ldM (v:=lv) ?_ hC.gg
 refine zaa hlv ?_
 refine zaf (fun hlt=>?_) (fun hge=>?_)
 ·have i1:i<h.length:=by omega
  try simp only [sS]
  refine ldM (v:=lv) ?_ hC.gg
  refine zbb hl1 hl2 (by decide) i1 (off:=0) (by decide) fun p q r x hR _ hx=>?_
  obtain ⟨ev,rfl,hev,hevl⟩:=hR
  have hxe:x=.int .u32 h[i].1:=by simpa using hx.symm
  subst hxe
  refine zba (fun h3=>?_) (fun h3=>?_)
  ·try simp only [sS]
   exact fin 130 (by decide) (by unfold zew; rw [if_neg (by rw [h1]; decide),if_pos (.inr ((zxg o.rs).2 ⟨_,List.getElem_mem i1,h3⟩))]) N1 hN1 _ rfl
  ·try simp only [sS]
   refine zai (by omega) ?_
   refine next (i+1) _ _ (by omega) (fun hw3=>⟨_,za0 hw3,rfl,i1,fun e hx=>?_⟩)
   rw [List.take_add_one,List.getElem?_eq_getElem i1,Option.toList_some] at hx
   rcases List.mem_append.1 hx with hx | hx
   ·exact he e hx
   ·rw [List.mem_singleton.1 hx]; exact h3
 ·try simp only [sS]
  rw [List.take_of_length_le (by omega)] at he
  have hth:zc4 h t=false:=by
   cases hq:zc4 h t
   ·rfl
   ·obtain ⟨e,hx,hy⟩:=(zxg o.rs).1 hq
    exact absurd hy (he e hx)
  try simp only [sS]
  refine ldM (v:=lv) ?_ hC.gg
  refine zaa hlv ?_
  refine ze1 (fun h4=>?_) (fun h4=>?_)
  ·try simp only [sS]
   exact fin 3 (by decide) (by unfold zew; rw [if_neg (by rw [h1]; decide),if_neg (by rintro (q | q); exact h2 q; rw [hth] at q; cases q),if_pos (by omega)]) N1 hN1 _ rfl
  ·have e0:zew l h t fs=0:=yea h1 h2 hth (by omega)
   try simp only [sS]
   refine ldM (v:=lv) ?_ hC.gg
   refine ybw hC.ll o.rs (by omega) (fun e hx=>by have := o.fl e hx; omega) (fun e hx=>o.keys hdl hx) hf (by omega) (fun f hx=>by have := zge (f2 f hx); omega) (fun v' F3 N3 hw3 hF3 hN3 hv3=>?_)
   obtain ⟨a,c,e⟩:=hv3.form
   try simp only [sS]
   refine stM (cs':=[dv,v']) ?_ hC.gg (by rw [e]; rfl) (by rw [e]; rfl) (by rw [e]; exact List.all_eq_true.1 rfl)
   refine fun hc=>⟨_,za0 hc,fun hw'=>?_⟩
   rw [e0] at k
   refine k v' F3 _ N3 hF3 ?_ (fun q hq=>za4 _ _ hq) (by omega) hw'
   rw [ycj e0]
   exact ⟨za5 _ _ _,hC.dd.mono hF3,hv3⟩
theorem zzk {a b:Int} {cs:List Value} {f:Fc} (hf:zc1 F cs f) (k:∀ N',N≤N'→(Hp.mk F M N').wf→K (.bool (inR a b f)) ⟨F,M,N'⟩) :
  za2 Tryz.prog (.func (.func 83) #[] #[]) #[.agg cs.toArray,.int .i64 a,.int .i64 b] K E ⟨F,M,N⟩:=by
 obtain ⟨kv,rfl,hkv,hkl⟩:=hf
 refine za3 mixed Tryz.func83 (by kernel_rfl) (t83 _ E _ _ _) (fun hw=>?_)
 have hm:za7 M N:=hw.m
 have fin:∀ b1,N≤b1→∀ r:Bool,r=inR a b f→∀ h',h'=(⟨F,upd M b1 (some (.cells 90 [kv,.int .i64 f.2] 2)),b1+1⟩:Hp)→h'.wf→∃ h'',h'.wk h''∧(h''.wf→K (.bool r) h''):=fun b1 hb1 r e h' e' hc=>by
  subst e'
  refine ⟨⟨F,M,b1+1⟩,zbp hc (zav (zb6 _) (hm _ hb1)),fun hw'=>?_⟩
  rw [e]; exact k _ (by omega) hw'
 refine zal (cs:=[kv,.int .i64 f.2]) (fun b1 hb1=>?_)
 have hb:=za5 M b1 (some (.cells 90 [kv,.int .i64 f.2] 2))
 try simp only [sS]
 refine ldM (v:=kv) ?_ hb
 refine zam hkv ?_
 refine zbu (fun h0=>?_) (fun h0=>?_)
 ·have hl:0<f.1.length:=by omega
  try simp only [sS]
  refine ldM (v:=kv) ?_ hb
  refine zax (i:=0) hkv hl fun p=>?_
  have e0:f.1.getD 0 0=f.1[0]:=zb0 hl 0
  refine ze1 (fun h1=>?_) (fun h1=>?_)
  ·try simp only [sS]
   refine ldM (v:=kv) ?_ hb
   refine zax (i:=0) hkv hl fun p=>?_
   refine zaf (fun h2=>?_) (fun h2=>?_)
   ·try simp only [sS]
    exact fin b1 hb1 true (by unfold inR; rw [decide_eq_true ⟨hl,by omega,by omega⟩]) _ rfl
   ·try simp only [sS]
    exact fin b1 hb1 false (by unfold inR; rw [decide_eq_false (by omega)]) _ rfl
  ·try simp only [sS]
   exact fin b1 hb1 false (by unfold inR; rw [decide_eq_false (by omega)]) _ rfl
 ·try simp only [sS]
  exact fin b1 hb1 false (by unfold inR; rw [decide_eq_false (by omega)]) _ rfl
theorem ym1 {α:Type} {R:List Value→α→Prop} {sz:Nat} {v:Value} {l:List α} {rows:List (List Value)} {K:Value→Value→zae} (hv:sF F sz v l.length rows.flatten) (hr:zad R sz rows l) (hz:0<sz) {i:Nat} (hi:i<l.length) {off:Nat} (ho:off<sz)
  (k:∀ p q r x,R r l[i]→r.length=sz→r[off]?=some x→(∀ F' M' N',zac F F'→ldV ⟨F',M',N'⟩ false 1 q x)→K p q x ⟨F,M,N⟩):pv (iaV none sz v (.int .i64 (i:Nat))) (fun p=>pv (faV off p) fun q=>ld false 1 q (K p q)) ⟨F,M,N⟩:=by
 obtain ⟨b,o,c,cs,r,rfl,hF,_,hR,hl,h1,hle,ht,hj⟩:=zix hv hr hz hi
 have hx:r[off]?=some (r[off]'(by omega)):=List.getElem?_eq_getElem _
 exact zbz hi (zaa rfl (zfj (zao (zdi hF) ((hj off ho).trans hx)) (k _ _ r _ hR hl hx (fun F' M' N' hs=>zao (zdi (hs _ _ hF)) ((hj off ho).trans hx)))))
theorem zmf {α:Type} (p:α→Bool) (l:List α) {i:Nat} (hi:i<l.length):(l.take (i+1)).filter p=(l.take i).filter p++(if p l[i]=true then [l[i]] else []):=by
 rw [List.take_add_one,List.getElem?_eq_getElem hi,Option.toList_some,List.filter_append]
 by_cases h:p l[i]=true<;>simp [h]
theorem zxf {α:Type} (p:α→Bool) (l:List α) (i:Nat):((l.take i).filter p).length≤i:=by
 have := List.length_filter_le p (l.take i)
 rw [List.length_take] at this; omega
theorem zcv.at {cs:List Value} {e:En} (h:zcv F cs e):∃ v,cs=[.int .u32 e.1,v]∧zar F v e.2:=let ⟨v,h1,h2,_⟩:=h; ⟨v,h1,h2⟩
set_option maxRecDepth 10000 in
set_option maxHeartbeats 2000000 in
theorem yl5 {g:Nat} {dv lv:Value} {l:List Dm} {h:List En} {a b:Int} (hC:ziq F M g dv lv l h) (o:okH l 5000 200 h) (hdl:l.length≤1000)
  (k:∀ v' F' N',(Hp.mk F' M N').wf→zac F F'→N≤N'→zcb F' v' (zfl a b h)→K v' ⟨F',M,N'⟩) :
  za2 Tryz.prog (.func (.func 59) #[] #[]) #[.pointer (some ⟨g,0,none⟩),.int .i64 a,.int .i64 b] K E ⟨F,M,N⟩:=by
 refine za3 mixed Tryz.func59 (by kernel_rfl) (t59 _ E _ _ _) (fun hw=>?_)
 have hm:za7 M N:=hw.m
 have hgN:=hm.lt hC.gg
 have hol:=o.le
 have hlv:za9 lv=some (.int .i64 (h.length:Nat)):=by obtain ⟨x,c,e⟩:=hC.ll.form; rw [e]; rfl
 have hll:=hC.ll
 obtain ⟨erows,hl1,hl2⟩:=hll
 refine ztw (σ:=Nat×Value) (fun s=>s.2) (fun s=>.int .i64 (s.1:Nat))
  (fun s h'=>∃ F' M' N' rows',h'=⟨F',M',N'⟩∧zac F F'∧N≤N'∧(∀ q,q<N→M' q=M q)∧za7 M' N'∧s.1≤h.length∧own M' N 74 2 s.2 (zfl a b (h.take s.1)).length rows'.flatten∧zad (zcv F') 2 rows' (zfl a b (h.take s.1))) (fun s=>h.length - s.1) (0,.slice none 0 0) rfl rfl
  (fun hw2=>⟨_,za0 hw2,F,M,N,[],rfl,zac.refl _,Nat.le_refl _,fun _ _=>rfl,hm,Nat.zero_le _,own.nil,zad.nil _ _⟩) (fun kk s j h1 hI hw2 next=>?_)
 rw [zu5]
 obtain ⟨F1,M1,N1,rows1,rfl,hF1,hN1,hM1,hm1,hi,ho,hr⟩:=hI
 have hg1:=(hM1 g hgN).trans hC.gg
 try simp only [sS]
 refine ldM (v:=lv) ?_ hg1
 refine zaa hlv ?_
 refine zaf (fun hlt=>?_) (fun hge=>?_)
 ·have i1:s.1<h.length:=by omega
  have e1:=zpn (zin a b) h i1
  have hle:(zfl a b (h.take s.1)).length≤s.1:=zvd (zin a b) h s.1
  have hfm:=o.fl _ (List.getElem_mem i1)
  try simp only [sS]
  refine zim (σ:=Nat×Value) (fun q=>q.2) (fun q=>.int .i64 (q.1:Nat))
   (fun q h'=>∃ M' N' frows,h'=⟨F1,M',N'⟩∧N1≤N'∧(∀ x,x<N1→M' x=M1 x)∧za7 M' N'∧q.1≤h[s.1].2.length∧own M' N1 90 2 q.2 ((h[s.1].2.take q.1).filter (inR a b)).length frows.flatten∧zad (zc1 F1) 2 frows ((h[s.1].2.take q.1).filter (inR a b))) (fun q=>h[s.1].2.length - q.1) (0,.slice none 0 0) rfl rfl
   (fun hw3=>⟨_,za0 hw3,M1,N1,[],rfl,Nat.le_refl _,fun _ _=>rfl,hm1,Nat.zero_le _,own.nil,zad.nil _ _⟩) (fun kk2 q j2 h2 hI2 hw3 next2=>?_)
  rw [zil]
  obtain ⟨M2,N2,frows,rfl,hN2,hM2,hm2,hq,hof,hfr⟩:=hI2
  have hg2:=(hM2 g (by omega)).trans hg1
  have hle2:=zxf (inR a b) h[s.1].2 q.1
  try simp only [sS]
  refine ldM (v:=lv) ?_ hg2
  refine zbb (hl1.mono hF1) (hl2.mono fun _ _ h=>h.mono hF1) (by decide) i1 (off:=1) (by decide) fun p z r x hR _ hx=>?_
  obtain ⟨fv,rfl,hfv⟩:=hR.at
  have hx':x=fv:=by simpa using hx.symm
  subst hx'
  obtain ⟨orows,hfv1,hfv2⟩:=hfv
  refine zam hfv1 ?_
  refine zaf (fun hlt2=>?_) (fun hge2=>?_)
  ·have q1:q.1<h[s.1].2.length:=by omega
   have ef:=zmf (inR a b) h[s.1].2 q1
   try simp only [sS]
   refine ldM (v:=lv) ?_ hg2
   refine zbb (hl1.mono hF1) (hl2.mono fun _ _ h=>h.mono hF1) (by decide) i1 (off:=1) (by decide) fun p z r y hR _ hy=>?_
   obtain ⟨fv,rfl,hfv⟩:=hR.at
   have hy':y=fv:=by simpa using hy.symm
   subst hy'
   obtain ⟨orows,hfv1,hfv2⟩:=hfv
   refine zcr hfv1 hfv2 (by decide) q1 (fun p r _ hR hrl hr1=>?_)
   refine zzk hR (fun N3 hN3 hw4=>?_)
   cases hp:inR a b h[s.1].2[q.1]
   ·try simp only [sS]
    rw [zfe]
    refine zai (by omega) ?_
    rw [hp,if_neg (by decide),List.append_nil] at ef
    refine next2 (q.1+1,q.2) _ _ (by simp only; omega) (fun hw5=>⟨_,za0 hw5,M2,N3,frows,rfl,by omega,hM2,hw4.m,q1,?_,?_⟩)
    ·simp only
     rw [ef]; exact hof
    ·simp only
     rw [ef]; exact hfr
   ·try simp only [sS]
    rw [hp,if_pos rfl] at ef
    refine ldM (v:=lv) ?_ hg2
    refine zbb (hl1.mono hF1) (hl2.mono fun _ _ h=>h.mono hF1) (by decide) i1 (off:=1) (by decide) fun p z r y hR _ hy=>?_
    obtain ⟨fv,rfl,hfv⟩:=hR.at
    have hy':y=fv:=by simpa using hy.symm
    subst hy'
    obtain ⟨orows,hfv1,hfv2⟩:=hfv
    refine zcr hfv1 hfv2 (by decide) q1 (fun p r _ hR hrl hr1=>?_)
    have hR':=hR
    obtain ⟨kv,hre,hkv,hkl⟩:=hR
    subst hre
    obtain ⟨ka,kc,kf,_⟩:=hkv.form
    refine zcq (new:=[kv,.int .i64 h[s.1].2[q.1].2]) hof hw4.m (by omega) (by rw [kf]; kernel_rfl) rfl hr1 (by omega) (by unfold maxLen; omega) (fun p v' M4 N4 g1 g2 g3 g4=>?_)
    rw [zfe]
    refine zai (by omega) ?_
    refine next2 (q.1+1,v') _ _ (by simp only; omega) (fun hw5=>⟨_,za0 hw5,M4,N4,frows++[[kv,.int .i64 h[s.1].2[q.1].2]],rfl,by omega,fun x hx=>?_,g4,q1,?_,?_⟩)
    ·exact ((g2 x (fun e=>by have := (hof.ge x e).1; omega) (by omega)).1).trans (hM2 x hx)
    ·simp only
     rw [ef,List.length_append,List.length_singleton]
     exact (by simpa using g1:own M4 N1 90 2 v' _ (frows++[[kv,.int .i64 h[s.1].2[q.1].2]]).flatten)
    ·simp only
     rw [ef]; exact zau hfr hR'.one hR'
  ·try simp only [sS]
   rw [List.take_of_length_le (by omega)] at hof hfr
   have hflen:(h[s.1].2.filter (inR a b)).length≤200:=by have := List.length_filter_le (inR a b) h[s.1].2; omega
   have hlq:za9 q.2=some (.int .i64 ((h[s.1].2.filter (inR a b)).length:Nat)):=by obtain ⟨x,c,e,_⟩:=hof.form; rw [e]; rfl
   refine zaa hlq ?_
   refine zbu (fun h0=>?_) (fun h0=>?_)
   ·have e2:zfl a b (h.take (s.1+1))=zfl a b (h.take s.1)++[(h[s.1].1,h[s.1].2.filter (inR a b))]:=by
     unfold zfl
     rw [e1]
     unfold zin
     rw [if_pos (by omega)]; rfl
    try simp only [sS]
    refine ldM (v:=lv) ?_ hg2
    refine ym1 (hl1.mono hF1) (hl2.mono fun _ _ h=>h.mono hF1) (by decide) i1 (off:=0) (by decide) fun p z r y hR _ hy hld=>?_
    obtain ⟨fv,rfl,hfv⟩:=hR.at
    have hy':y=.int .u32 h[s.1].1:=by simpa using hy.symm
    subst hy'
    refine zej (fun hc=>⟨_,zgw (p:=fun x=>q.2.ownBlock=some x) hc,?_⟩)
    have hs3:=zbd (p:=fun x=>q.2.ownBlock=some x) hc
    have hff:zar (frzP F1 M2 (fun x=>q.2.ownBlock=some x)) q.2 (h[s.1].2.filter (inR a b)):=⟨frows,hof.frzP (fun x h=>h),hfr.mono fun _ _ h=>h.mono hs3⟩
    have hMK:∀ x,x<N1→zbj M2 (fun x=>¬ q.2.ownBlock=some x) x=M1 x:=fun x hx=>(zay (fun e=>by have := (hof.ge x e).1; omega)).trans (hM2 x hx)
    have hmK:za7 (zbj M2 (fun x=>¬ q.2.ownBlock=some x)) N2:=zcl hm2
    generalize frzP F1 M2 _=F3 at *
    generalize zbj M2 _=M3 at *
    clear hc
    have hg3:=(hMK g (by omega)).trans hg1
    refine zwr hff (by omega) (fun f hf=>o.keys hdl (List.getElem_mem i1) f (List.mem_filter.1 hf).1) (fun v9 F4 N4 hw4 hF4 hN4 h9=>?_)
    refine ⟨hld _ _ _ (hs3.trans hF4),zao (zaq hg3) rfl,?_⟩
    obtain ⟨a9,c9,e9⟩:=h9.form
    have he9:zcv F4 [.int .u32 h[s.1].1,v9] (h[s.1].1,h[s.1].2.filter (inR a b)):=⟨v9,rfl,h9,by simp only; omega⟩
    have ho3:own M3 N 74 2 s.2 (zfl a b (h.take s.1)).length rows1.flatten:=ho.keep (fun x hx=>hMK x (ho.lt hm1 x hx)) (Nat.le_refl _)
    refine zaa (v:=.agg #[.int .u32 h[s.1].1,v9]) (by rw [e9]; kernel_rfl) ?_
    refine zcq (new:=[.int .u32 h[s.1].1,v9]) ho3 hw4.m (by omega) (by rw [e9]; kernel_rfl) rfl he9.one.2 (by omega) (by unfold maxLen; omega) (fun p v' M5 N5 g1 g2 g3 g4=>?_)
    rw [zjb]
    refine zai (by omega) ?_
    have F14:=hs3.trans hF4
    refine next (s.1+1,v') _ _ (by simp only; omega) (fun hw5=>⟨_,za0 hw5,F4,M5,N5,rows1++[[.int .u32 h[s.1].1,v9]],rfl,hF1.trans F14,by omega,fun x hx=>?_,g4,i1,?_,?_⟩)
    ·rw [(g2 x (fun e=>by have := (ho3.ge x e).1; omega) (by omega)).1,hMK x (by omega),hM1 x hx]
    ·simp only
     rw [e2,List.length_append,List.length_singleton]
     exact (by simpa using g1:own M5 N 74 2 v' _ (rows1++[[.int .u32 h[s.1].1,v9]]).flatten)
    ·simp only
     rw [e2]
     exact zau (hr.mono fun _ _ h=>h.mono F14) he9.one he9
   ·have e2:zfl a b (h.take (s.1+1))=zfl a b (h.take s.1):=by
     unfold zfl
     rw [e1]
     unfold zin
     rw [if_neg (by omega)]; simp
    try simp only [sS]
    rw [zjb]
    refine zai (by omega) ?_
    refine next (s.1+1,s.2) _ _ (by simp only; omega) (fun hw5=>⟨_,za0 hw5,F1,M2,N2,rows1,rfl,hF1,by omega,fun x hx=>(hM2 x (by omega)).trans (hM1 x hx),hm2,i1,?_,?_⟩)
    ·simp only
     rw [e2]; exact ho.keep (fun x hx=>hM2 x (ho.lt hm1 x hx)) (Nat.le_refl _)
    ·simp only
     rw [e2]; exact hr
 ·try simp only [sS]
  rw [List.take_of_length_le (by omega)] at ho hr
  exact fun hc=>⟨_,zb7 hm hM1 hc,fun hw'=>k _ _ _ hw' (hF1.trans (zag hc)) hN1 (zod hc ho hr)⟩
theorem ydl {h:List En} (t:Int) {i:Nat} (hi:i<h.length):zgc (h.take (i+1)) t=zgc (h.take i) t++(if h[i].1≤t then h[i].2 else []):=by
 unfold zgc
 rw [zmf _ _ hi]
 unfold zhn
 rw [List.map_append,List.flatten_append]
 by_cases hc:h[i].1≤t<;>simp [hc]
theorem yhb (a b:List En):zhn (a++b)=zhn a++zhn b:=by unfold zhn; rw [List.map_append,List.flatten_append]
theorem zqd (p:En→Bool):∀ h:List En,(zhn (h.filter p)).length≤(zhn h).length
 | []=>Nat.le_refl _
 | e::h=>by
  have ih:=zqd p h
  by_cases hp:p e=true
  ·rw [List.filter_cons_of_pos hp,zom,zom,List.length_append,List.length_append]; omega
  ·rw [List.filter_cons_of_neg hp,zom,List.length_append]; omega
theorem ybg (h:List En) (i:Nat):(zhn (h.take i)).length≤(zhn h).length:=by
 conv=>rhs; rw [← List.take_append_drop i h]
 rw [yhb,List.length_append]; omega
theorem zrp (h:List En) (t:Int) (i:Nat):(zgc (h.take i) t).length≤(zhn h).length:=by
 have h1:=zqd (fun e=>decide (e.1≤t)) (h.take i)
 have h2:=ybg h i
 unfold zgc; omega
theorem zxv {h:List En} {t:Int} {f:Fc} (hf:f∈zgc h t):∃ e∈h,f∈e.2:=by
 unfold zgc zhn at hf
 obtain ⟨x,hx,hfx⟩:=List.mem_flatten.1 hf
 obtain ⟨e,he,rfl⟩:=List.mem_map.1 hx
 exact ⟨e,(List.mem_filter.1 he).1,hfx⟩
set_option maxRecDepth 10000 in
set_option maxHeartbeats 2000000 in
theorem yik {g:Nat} {dv lv:Value} {cs:List Value} {l:List Dm} {h:List En} {t:Int} {m lo hi:List Int} (hC:ziq F M g dv lv l h) (hdl:l.length≤140737488351232) (hl:h.length≤5000) (hT:(zhn h).length≤1000000) (hk:∀ e∈h,∀ f∈e.2,okK f.1) (hq:zfa F cs m lo hi) (hmi:∀ x∈m,i64 x) (hok:∀ r∈tab ((zgc h t).map fr1),okK r.1)
  (k:∀ v' F' N',(Hp.mk F' M N').wf→zac F F'→N≤N'→zbt F' v' (zft l (tab ((zgc h t).map fr1)) m lo hi)→K (.tuple #[v',.int .i64 ((ze9 l (tab ((zgc h t).map fr1)) m lo hi:Nat):Int)]) ⟨F',M,N'⟩) :
  za2 Tryz.prog (.func (.func 89) #[] #[]) #[.pointer (some ⟨g,0,none⟩),.agg cs.toArray,.int .u32 t] K E ⟨F,M,N⟩:=by
 refine za3 mixed Tryz.func89 (by kernel_rfl) (t89 _ E _ _ _) (fun hw=>?_)
 have hm:za7 M N:=hw.m
 have hq':=hq
 obtain ⟨qa,qb,qc,rfl,hqa,hqb,hqc,hml,hlol,hhil⟩:=hq'
 have hgN:=hm.lt hC.gg
 have hlv:za9 lv=some (.int .i64 (h.length:Nat)):=by obtain ⟨x,c,e⟩:=hC.ll.form; rw [e]; rfl
 have hll:=hC.ll
 obtain ⟨erows,hl1,hl2⟩:=hll
 refine zal (cs:=[qa,qb,qc]) (fun b1 hb1=>?_)
 obtain ⟨M1,hM1e⟩:∃ M1,M1=upd M b1 (some (.cells 55 [qa,qb,qc] [qa,qb,qc].length)):=⟨_,rfl⟩
 rw [← hM1e]
 have hbox:M1 b1=some (.cells 55 [qa,qb,qc] 3):=by rw [hM1e]; exact za5 _ _ _
 have hg1:M1 g=some (.cells 126 [dv,lv] 2):=by rw [hM1e]; exact (za4 _ _ (by omega)).trans hC.gg
 have hM1:∀ q,q<N→M1 q=M q:=fun q hq=>by rw [hM1e]; exact za4 _ _ (by omega)
 have hm1:za7 M1 (b1+1):=by rw [hM1e]; exact hm.new hb1 _
 clear hM1e
 obtain ⟨N1,hN1⟩:∃ n,n=b1+1:=⟨_,rfl⟩
 rw [← hN1] at hm1 ⊢
 refine zth (σ:=Nat×Value) (fun s=>s.2) (fun s=>.int .i64 (s.1:Nat))
  (fun s h'=>∃ M' N' frs,h'=⟨F,M',N'⟩∧N1≤N'∧(∀ q,q<N1→M' q=M1 q)∧za7 M' N'∧s.1≤h.length∧own M' N1 90 2 s.2 (zgc (h.take s.1) t).length frs.flatten∧zad (zc1 F) 2 frs (zgc (h.take s.1) t)) (fun s=>h.length - s.1) (0,.slice none 0 0) rfl rfl
  (fun hw2=>⟨_,za0 hw2,M1,N1,[],rfl,Nat.le_refl _,fun _ _=>rfl,hm1,Nat.zero_le _,own.nil,zad.nil _ _⟩) (fun kk s j h1 hI hw2 next=>?_)
 rw [zuk]
 obtain ⟨M2,N2,frs,rfl,hN2,hM2,hm2,hi2,hoa,hra⟩:=hI
 have hg2:=(hM2 g (by omega)).trans hg1
 try simp only [sS]
 refine ldM (v:=lv) ?_ hg2
 refine zaa hlv ?_
 refine zaf (fun hlt=>?_) (fun hge=>?_)
 ·have i1:s.1<h.length:=by omega
  have et:=ydl t i1
  have hle:=zrp h t (s.1+1)
  rw [et,List.length_append] at hle
  try simp only [sS]
  refine ldM (v:=lv) ?_ hg2
  refine zbb hl1 hl2 (by decide) i1 (off:=0) (by decide) fun p z r y hR _ hy=>?_
  obtain ⟨fv,rfl,hfv⟩:=hR.at
  have hy':y=.int .u32 h[s.1].1:=by simpa using hy.symm
  subst hy'
  refine zfd (fun hc=>?_) (fun hc=>?_)
  ·rw [if_pos hc] at et hle
   try simp only [sS]
   refine ldM (v:=lv) ?_ hg2
   refine zbb hl1 hl2 (by decide) i1 (off:=1) (by decide) fun p z r y hR _ hy=>?_
   obtain ⟨fv,rfl,hfv⟩:=hR.at
   have hy':y=fv:=by simpa using hy.symm
   subst hy'
   obtain ⟨frows,hf1,hf2⟩:=hfv
   refine hoa.app hm2 (by omega) hf1.sR hf2.f1 (by omega) (by unfold maxLen; omega) (fun w' M3 N3 h4 h5 h6 h7=>?_)
   rw [zja]
   refine zai (by omega) ?_
   refine next (s.1+1,w') _ _ (by simp only; omega) (fun hw4=>⟨_,za0 hw4,M3,N3,frs++frows,rfl,by omega,fun q hq=>?_,h7,i1,?_,?_⟩)
   ·exact ((h5 q (fun e=>by have := (hoa.ge q e).1; omega) (by omega)).1).trans (hM2 q hq)
   ·simp only
    rw [et,List.length_append,List.flatten_append]; exact h4
   ·simp only
    rw [et]; exact zga hra hf2
  ·rw [if_neg hc,List.append_nil] at et
   try simp only [sS]
   rw [zja]
   refine zai (by omega) ?_
   refine next (s.1+1,s.2) _ _ (by simp only; omega) (fun hw4=>⟨_,za0 hw4,M2,N2,frs,rfl,hN2,hM2,hm2,i1,?_,?_⟩)
   ·simp only
    rw [et]; exact hoa
   ·simp only
    rw [et]; exact hra
 ·try simp only [sS]
  rw [List.take_of_length_le (by omega)] at hoa hra
  have hle:=zrp h t h.length
  rw [List.take_length] at hle
  have hbq:=(hM2 b1 (by omega)).trans hbox
  try simp only [sS]
  refine ldM (v:=dv) ?_ hg2
  refine zas (vs:=[qa,qb,qc]) ?_ hbq
  refine zej (fun hc'=>⟨_,zgw (p:=fun q=>s.2.ownBlock=some q) hc',?_⟩)
  have hs9:=zbd (p:=fun q=>s.2.ownBlock=some q) hc'
  have hfa:zar (frzP F M2 (fun q=>s.2.ownBlock=some q)) s.2 (zgc h t):=⟨frs,hoa.frzP (fun q h=>h),hra.mono fun _ _ h=>h.mono hs9⟩
  have hnb:∀ q,q<N1→¬ s.2.ownBlock=some q:=fun q hq e=>by have := (hoa.ge q e).1; omega
  have hg9:=(zay (M:=M2) (p:=fun q=>¬ s.2.ownBlock=some q) (hnb g (by omega))).trans hg2
  have hb9:=(zay (M:=M2) (p:=fun q=>¬ s.2.ownBlock=some q) (hnb b1 (by omega))).trans hbq
  have hM9:∀ q,q<N→zbj M2 (fun q=>¬ s.2.ownBlock=some q) q=M q:=fun q hq=>(zay (hnb q (by omega))).trans ((hM2 q (by omega)).trans (hM1 q hq))
  generalize frzP F M2 _=F9 at *
  generalize zbj M2 _=M9 at *
  refine yl9 hfa (by omega) (fun f hf=>?_) (fun vt F10 N10 hw10 hF10 hN10 ht=>?_)
  ·obtain ⟨e,he,hfx⟩:=zxv hf
   exact (hk e he f hfx).1
  refine ⟨zfx (zaq hb9) (by exact Nat.le_of_ble_eq_true rfl) rfl,zao (zaq hg9) rfl,?_⟩
  have F0A:=hs9.trans hF10
  have htl:=zkk ((zgc h t).map fr1)
  rw [List.length_map] at htl
  refine ylt (hC.dd.mono F0A) hdl ht (by omega) (hq.mono F0A) hmi (fun r hr=>(hok r hr).2) (fun _ r hr=>(hok r hr).1) (fun v11 F11 N11 hw11 hF11 hN11 h11=>?_)
  try simp only [sS]
  exact fun hc=>⟨_,zb7 hm hM9 hc,fun hw'=>k _ _ _ hw' ((F0A.trans hF11).trans (zag hc)) (by omega) (h11.mono (zag hc))⟩
def zhj (es:List En) (i:Nat):Int:=if h:0<i∧i≤es.length then es[i - 1].1 else 0
theorem yd5 {es:List En} {i:Nat} (h:i<es.length):zhj es (i+1)=es[i].1:=by
 unfold zhj; rw [dif_pos ⟨by omega,by omega⟩]; rfl
theorem ymr {α:Type} {p:α→Bool} {l:List α} {i:Nat} (hi:i<l.length) (h:p l[i]=false):l.all p=false:=List.all_eq_false.2 ⟨l[i],List.getElem_mem hi,by rw [h]; decide⟩
set_option maxRecDepth 10000 in
set_option maxHeartbeats 2000000 in
theorem ycx {g:Nat} {dv lv ev:Value} {l:List Dm} {es:List En} {a b:Int} (hg:M g=some (.cells 126 [dv,lv] 2)) (hd:zbl F dv l) (hdl:l.length≤1000) (hes:zcb F ev es) (hel:es.length≤140737488351232) (ht0:∀ e∈es,0≤e.1)
  (k:∀ N',(Hp.mk F M N').wf→N≤N'→K (.bool (zdz l a b 0 es)) ⟨F,M,N'⟩) :
  za2 Tryz.prog (.func (.func 82) #[] #[]) #[.pointer (some ⟨g,0,none⟩),.int .i64 a,.int .i64 b,ev] K E ⟨F,M,N⟩:=by
 refine za3 mixed Tryz.func82 (by kernel_rfl) (t82 _ E _ _ _ _) (fun hw=>?_)
 obtain ⟨erows,he1,he2⟩:=hes
 refine zy8 (σ:=Nat) (fun i=>.int .i64 (i:Nat)) (fun i h'=>∃ N',h'=⟨F,M,N'⟩∧N≤N'∧i≤es.length∧zdz l a b 0 es=zdz l a b (zhj es i) (es.drop i)) (fun i=>es.length - i) 0 rfl
  (fun hw2=>⟨_,za0 hw2,N,rfl,Nat.le_refl _,Nat.zero_le _,by unfold zhj; rw [dif_neg (by omega)]; rfl⟩) (fun kk i j h1 hI hw2 next=>?_)
 rw [zxy]
 obtain ⟨N1,rfl,hN1,hi,hrt⟩:=hI
 refine zam he1 ?_
 refine zaf (fun hlt=>?_) (fun hge=>?_)
 ·have i1:i<es.length:=by omega
  have hp0:=ht0 _ (List.getElem_mem i1)
  rw [List.drop_eq_getElem_cons i1,zxl] at hrt
  have no:∀ {N'},N≤N'→zdz l a b 0 es=false→∀ h',h'=(⟨F,M,N'⟩:Hp)→h'.wf→∃ h'',h'.wk h''∧(h''.wf→K (.bool false) h''):=fun hN hf h' e' hc=>by
   subst e'
   exact ⟨_,za0 hc,fun hw'=>by have := k _ hw' hN; rw [hf] at this; exact this⟩
  have hl0:0≤zhj es i:=by
   unfold zhj
   split
   ·exact ht0 _ (List.getElem_mem _)
   ·exact Int.le_refl _
  try simp only [sS]
  refine zbb he1 he2 (by decide) i1 (off:=0) (by decide) fun p z r y hR _ hy=>?_
  obtain ⟨fv,rfl,hfv⟩:=hR.at
  have hy':y=.int .u32 es[i].1:=by simpa using hy.symm
  subst hy'
  refine zba (fun h2=>?_) (fun h2=>?_)
  ·try simp only [sS]
   rw [decide_eq_false (by omega),Bool.false_and,Bool.false_and] at hrt
   exact no hN1 hrt _ rfl
  have fits:zhj es i<es[i].1→∀ (h':Hp),True:=fun _ _=>trivial
  clear fits
  try simp only [sS]
  refine zbu (fun h3=>?_) (fun h3=>?_)
  have i0:0<i:=by omega
  have hle:zhj es i=es[i - 1].1:=by unfold zhj; rw [dif_pos ⟨i0,by omega⟩]
  try simp only [sS]
  refine zbb he1 he2 (by decide) i1 (off:=0) (by decide) fun p z r y hR _ hy=>?_
  obtain ⟨fv,rfl,hfv⟩:=hR.at
  have hy':y=.int .u32 es[i].1:=by simpa using hy.symm
  subst hy'
  refine zgn (a:=i) (b:=1) i0 (by omega) ?_
  refine zbb he1 he2 (by decide) (by omega:i - 1<es.length) (off:=0) (by decide) fun p z r y hR _ hy=>?_
  obtain ⟨fv,rfl,hfv⟩:=hR.at
  have hy':y=.int .u32 es[i - 1].1:=by simpa using hy.symm
  subst hy'
  refine zfd (fun h4=>?_) (fun h4=>?_)
  ·try simp only [sS]
   rw [decide_eq_false (by omega),Bool.false_and,Bool.false_and] at hrt
   exact no hN1 hrt _ rfl
  have hlt3:zhj es i<es[i].1:=by omega
  rotate_left
  have hlt3:zhj es i<es[i].1:=by
   have:zhj es i=0:=by unfold zhj; rw [dif_neg (by omega)]
   omega
  all_goals
   rw [decide_eq_true hlt3,Bool.true_and] at hrt
   try simp only [sS]
   refine zbb he1 he2 (by decide) i1 (off:=1) (by decide) fun p z r y hR _ hy=>?_
   obtain ⟨fv,rfl,hfv,hfvl⟩:=hR
   have hy':y=fv:=by simpa using hy.symm
   subst hy'
   refine zpr hg hd (by omega) hfv hfvl (fun N3 hN3 hw3=>?_)
   cases hfit:zd1 l es[i].2
   ·rw [hfit,Bool.false_and] at hrt
    try simp only [sS]
    exact no (by omega) hrt _ rfl
   rw [hfit,Bool.true_and] at hrt
   try simp only [sS]
   refine zk3 (σ:=Nat) (fun q=>.int .i64 (q:Nat)) (fun q h'=>∃ N',h'=⟨F,M,N'⟩∧N3≤N'∧q≤es[i].2.length∧∀ f∈es[i].2.take q,inR a b f=true) (fun q=>es[i].2.length - q) 0 rfl
    (fun hw4=>⟨_,za0 hw4,N3,rfl,Nat.le_refl _,Nat.zero_le _,by simp⟩) (fun kk2 q j2 h2' hI2 hw4 next2=>?_)
   rw [zk1]
   obtain ⟨N4,rfl,hN4,hq,hall⟩:=hI2
   try simp only [sS]
   refine zbb he1 he2 (by decide) i1 (off:=1) (by decide) fun p z r y hR _ hy=>?_
   obtain ⟨fv,rfl,hfv⟩:=hR.at
   have hy':y=fv:=by simpa using hy.symm
   subst hy'
   obtain ⟨orows,hfv1,hfv2⟩:=hfv
   refine zam hfv1 ?_
   refine zaf (fun hlt4=>?_) (fun hge4=>?_)
   ·have q1:q<es[i].2.length:=by omega
    try simp only [sS]
    refine zbb he1 he2 (by decide) i1 (off:=1) (by decide) fun p z r y hR _ hy=>?_
    obtain ⟨fv,rfl,hfv⟩:=hR.at
    have hy':y=fv:=by simpa using hy.symm
    subst hy'
    obtain ⟨orows,hfv1,hfv2⟩:=hfv
    refine zcr hfv1 hfv2 (by decide) q1 (fun p r _ hR hrl hr1=>zzk hR (fun N5 hN5 hw5=>?_))
    cases hp:inR a b es[i].2[q]
    ·try simp only [sS]
     rw [ymr q1 hp,Bool.false_and] at hrt
     exact no (by omega) hrt _ rfl
    ·try simp only [sS]
     refine zai (by omega) ?_
     refine next2 (q+1) _ _ (by omega) (fun hw6=>⟨_,za0 hw6,N5,rfl,by omega,q1,fun f hf=>?_⟩)
     rw [List.take_add_one,List.getElem?_eq_getElem q1,Option.toList_some] at hf
     rcases List.mem_append.1 hf with hf | hf
     ·exact hall f hf
     ·rw [List.mem_singleton.1 hf]; exact hp
   ·try simp only [sS]
    rw [List.take_of_length_le (by omega)] at hall
    rw [List.all_eq_true.2 hall,Bool.true_and] at hrt
    refine zai (by omega) ?_
    exact next (i+1) _ _ (by omega) (fun hw6=>⟨_,za0 hw6,N4,rfl,by omega,i1,by rw [yd5 i1]; exact hrt⟩)
 ·try simp only [sS]
  rw [List.drop_eq_nil_of_le (by omega),zur] at hrt
  exact fun hc=>⟨_,za0 hc,fun hw'=>by have := k _ hw' hN1; rw [hrt] at this; exact this⟩
theorem yab (h es:List En) {i:Nat} (hi:i<es.length):zbk h (es.take (i+1))=zg7 (zbk h (es.take i)) es[i]:=by
 unfold zbk
 rw [List.take_add_one,List.getElem?_eq_getElem hi,Option.toList_some,List.foldl_append]; rfl
theorem ygp {P:En→Prop} {h:List En} {e:En} (h0:P e) (ha:∀ d:En,d.1=e.1→P d→P (e.1,d.2++e.2)) (hp:∀ d∈h,P d):∀ d∈zg7 h e,P d:=by
 unfold zg7
 split
 ·exact zk6 h0 ha hp
 ·exact hp
theorem zug {P:En→Prop} (ha:∀ e d:En,P e→P d→P (e.1,d.2++e.2)):∀ {es h:List En},(∀ d∈h,P d)→(∀ e∈es,P e)→∀ d∈zbk h es,P d
 | [],h,hp,_=>hp
 | e::es,h,hp,he=>zug ha (es:=es) (h:=zg7 h e) (ygp (he e List.mem_cons_self) (fun d _ hd=>ha e d (he e List.mem_cons_self) hd) hp) fun x hx=>he x (List.mem_cons_of_mem _ hx)
set_option maxRecDepth 10000 in
set_option maxHeartbeats 4000000 in
theorem yko {g:Nat} {dv lv ev:Value} {l:List Dm} {h es:List En} {a b:Int} (hC:ziq F M g dv lv l h) (o:okH l 5000 200 h) (hdl:l.length≤1000) (hes:zcb F ev es) (hel:es.length≤140737488351232) (heT:∀ e∈es,e.1<4294967296) (ht0:∀ e∈es,0≤e.1)
  (k:∀ lv' F' M' N',zac F F'→ziq F' M' g dv lv' l (zhi l a b h es)→(∀ q,q≠g→q<N→M' q=M q)→N≤N'→(Hp.mk F' M' N').wf→K (.int .i64 ((ze2 l a b h es:Nat):Int)) ⟨F',M',N'⟩) :
  za2 Tryz.prog (.func (.func 52) #[] #[]) #[.pointer (some ⟨g,0,none⟩),.int .i64 a,.int .i64 b,ev] K E ⟨F,M,N⟩:=by
 refine za3 mixed Tryz.func52 (by kernel_rfl) (t52 _ E _ _ _ _) (fun hw=>?_)
 have hm:za7 M N:=hw.m
 have hgN:=hm.lt hC.gg
 have hol:=o.le
 have hlv:za9 lv=some (.int .i64 (h.length:Nat)):=by obtain ⟨x,c,e⟩:=hC.ll.form; rw [e]; rfl
 have hll:=hC.ll
 obtain ⟨erows,hl1,hl2⟩:=hll
 have same:∀ n:Nat,n≠0→n=ze2 l a b h es→∀ F' M' N',zac F F'→N≤N'→(∀ q,q<N→M' q=M q)→∀ h',h'=(⟨F',M',N'⟩:Hp)→h'.wf→∃ h'',h'.wk h''∧(h''.wf→K (.int .i64 ((n:Nat):Int)) h''):=fun n n0 e F' M' N' hF hN hM h' e' hc=>by
  subst e'
  refine ⟨_,za0 hc,fun hw'=>?_⟩
  rw [e]
  refine k lv F' M' N' hF ?_ (fun q _ hq=>hM q hq) hN hw'
  unfold zhi; rw [if_neg (by omega)]; exact hC.keep hF (hM g hgN)
 refine ycx hC.gg hC.dd hdl hes (by omega) ht0 (fun N1 hw1 hN1=>?_)
 cases hrt:zdz l a b 0 es
 ·try simp only [sS]
  exact same 1 (by decide) (by unfold ze2; rw [if_pos hrt]) F M N1 (zac.refl _) hN1 (fun _ _=>rfl) _ rfl
 have hrE:ze2 l a b h es=if 5000<(zgm a b h es).length∨zj5 (zgm a b h es)=true then 3 else 0:=by unfold ze2; rw [if_neg (by rw [hrt]; decide)]
 obtain ⟨er1,er2⟩:=zkb hrt
 have hen:=zmz hrt (by decide:(0:Int)<4294967296) heT
 have oR:=o.rest a b
 try simp only [sS]
 refine zpx (σ:=Nat×Value) (fun s=>s.2) (fun s=>.int .i64 (s.1:Nat))
  (fun s h'=>∃ F' M' N' rows',h'=⟨F',M',N'⟩∧zac F F'∧N≤N'∧(∀ q,q<N→M' q=M q)∧za7 M' N'∧s.1≤h.length∧own M' N 74 2 s.2 (zb1 a b (h.take s.1)).length rows'.flatten∧zad (zcv F') 2 rows' (zb1 a b (h.take s.1))) (fun s=>h.length - s.1) (0,.slice none 0 0) rfl rfl
  (fun hw2=>⟨_,za0 hw2,F,M,N1,[],rfl,zac.refl _,hN1,fun _ _=>rfl,hw1.m,Nat.zero_le _,own.nil,zad.nil _ _⟩) (fun kk s j h1 hI hw2 next=>?_)
 rw [zqb]
 obtain ⟨F1,M1,N2,rows1,rfl,hF1,hN2,hM1,hm1,hi,ho,hr⟩:=hI
 have hg1:=(hM1 g hgN).trans hC.gg
 try simp only [sS]
 refine ldM (v:=lv) ?_ hg1
 refine zaa hlv ?_
 refine zaf (fun hlt=>?_) (fun hge=>?_)
 ·have i1:s.1<h.length:=by omega
  have e1:=zpn (zhh a b) h i1
  have hle:(zb1 a b (h.take s.1)).length≤s.1:=zvd (zhh a b) h s.1
  have hfm:=o.fl _ (List.getElem_mem i1)
  try simp only [sS]
  refine ldM (v:=lv) ?_ hg1
  refine zbb (hl1.mono hF1) (hl2.mono fun _ _ h=>h.mono hF1) (by decide) i1 (off:=0) (by decide) fun p z r y hR _ hy=>?_
  obtain ⟨fv,rfl,hfv⟩:=hR.at
  have hy':y=.int .u32 h[s.1].1:=by simpa using hy.symm
  subst hy'
  refine zaa (v:=.agg #[.int .u32 h[s.1].1,.slice none 0 0]) (by kernel_rfl) ?_
  refine zal (fun b13 hb13=>?_)
  refine stM (cs':=[.int .u32 h[s.1].1,.slice none 0 0]) ?_
  rw [zbe]
  obtain ⟨M2,hM2e⟩:∃ M2,M2=upd M1 b13 (some (.cells 74 [.int .u32 h[s.1].1,.slice none 0 0] [Value.int .u32 0,Value.slice none 0 0].length)):=⟨_,rfl⟩
  rw [← hM2e]
  have hbox:M2 b13=some (.cells 74 [.int .u32 h[s.1].1,.slice none 0 0] 2):=by rw [hM2e]; exact za5 _ _ _
  have hM2:∀ q,q<b13→M2 q=M1 q:=fun q hq=>by rw [hM2e]; exact za4 _ _ (by omega)
  have hm2:za7 M2 (b13+1):=by rw [hM2e]; exact hm1.new hb13 _
  have ho2:own M2 N 74 2 s.2 (zb1 a b (h.take s.1)).length rows1.flatten:=by rw [hM2e]; exact ho.box hm1 hb13 _
  have hob:∀ q,s.2.ownBlock=some q→q<b13:=fun q hq=>by have := ho.lt hm1 q hq; omega
  clear hM2e
  try simp only [sS]
  refine zhp (σ:=Nat) (fun q=>.int .i64 (q:Nat))
   (fun q h'=>∃ M' N' ov frows,h'=⟨F1,M',N'⟩∧b13<N'∧(∀ x,x<b13→M' x=M2 x)∧za7 M' N'∧q≤h[s.1].2.length∧M' b13=some (.cells 74 [.int .u32 h[s.1].1,ov] 2)∧own M' (b13+1) 90 2 ov ((h[s.1].2.take q).filter (zct a b)).length frows.flatten∧zad (zc1 F1) 2 frows ((h[s.1].2.take q).filter (zct a b))) (fun q=>h[s.1].2.length - q) 0 rfl
   (fun hw3=>⟨_,za0 hw3,M2,b13+1,.slice none 0 0,[],rfl,Nat.lt_succ_self _,fun _ _=>rfl,hm2,Nat.zero_le _,hbox,own.nil,zad.nil _ _⟩) (fun kk2 q j2 h2 hI2 hw3 next2=>?_)
  rw [zhw]
  obtain ⟨M3,N3,ov,frows,rfl,hN3,hM3,hm3,hq,hb3,hof,hfr⟩:=hI2
  have hg3:=(hM3 g (by omega)).trans ((hM2 g (by omega)).trans hg1)
  have hle2:=zxf (zct a b) h[s.1].2 q
  obtain ⟨oa,oc,oe,_⟩:=hof.form
  try simp only [sS]
  refine ldM (v:=lv) ?_ hg3
  refine zbb (hl1.mono hF1) (hl2.mono fun _ _ h=>h.mono hF1) (by decide) i1 (off:=1) (by decide) fun p z r y hR _ hy=>?_
  obtain ⟨fv,rfl,hfv⟩:=hR.at
  have hy':y=fv:=by simpa using hy.symm
  subst hy'
  obtain ⟨orows,hfv1,hfv2⟩:=hfv
  refine zam hfv1 ?_
  refine zaf (fun hlt2=>?_) (fun hge2=>?_)
  ·have q1:q<h[s.1].2.length:=by omega
   have ef:=zmf (zct a b) h[s.1].2 q1
   try simp only [sS]
   refine ldM (v:=lv) ?_ hg3
   refine zbb (hl1.mono hF1) (hl2.mono fun _ _ h=>h.mono hF1) (by decide) i1 (off:=1) (by decide) fun p z r y hR _ hy=>?_
   obtain ⟨fv,rfl,hfv⟩:=hR.at
   have hy':y=fv:=by simpa using hy.symm
   subst hy'
   obtain ⟨orows,hfv1,hfv2⟩:=hfv
   refine zcr hfv1 hfv2 (by decide) q1 (fun p r _ hR hrl hr1=>?_)
   refine zzk hR (fun N4 hN4 hw4=>?_)
   cases hp:inR a b h[s.1].2[q]
   ·have ho1:zct a b h[s.1].2[q]=true:=by unfold zct; rw [hp]; rfl
    rw [ho1,if_pos rfl] at ef
    try simp only [sS]
    refine ldM (v:=ov) ?_ hb3
    refine ldM (v:=lv) ?_ hg3
    refine zbb (hl1.mono hF1) (hl2.mono fun _ _ h=>h.mono hF1) (by decide) i1 (off:=1) (by decide) fun p z r y hR _ hy=>?_
    obtain ⟨fv,rfl,hfv⟩:=hR.at
    have hy':y=fv:=by simpa using hy.symm
    subst hy'
    obtain ⟨orows,hfv1,hfv2⟩:=hfv
    refine zcr hfv1 hfv2 (by decide) q1 (fun p r _ hR hrl hr1=>?_)
    have hR':=hR
    obtain ⟨kv,hre,hkv,hkl⟩:=hR
    subst hre
    obtain ⟨ka,kc,kf,_⟩:=hkv.form
    refine zde (cs:=[kv,.int .i64 h[s.1].2[q].2]) (by rw [kf]; kernel_rfl) (fun b29 hb29=>?_)
    obtain ⟨M4,hM4e⟩:∃ M4,M4=upd M3 b29 (some (.cells 90 [kv,.int .i64 h[s.1].2[q].2] [kv,.int .i64 h[s.1].2[q].2].length)):=⟨_,rfl⟩
    rw [← hM4e]
    have hx4:M4 b29=some (.cells 90 [kv,.int .i64 h[s.1].2[q].2] 2):=by rw [hM4e]; exact za5 _ _ _
    have hb4:M4 b13=some (.cells 74 [.int .u32 h[s.1].1,ov] 2):=by rw [hM4e]; exact (za4 _ _ (by omega)).trans hb3
    have hof4:own M4 (b13+1) 90 2 ov ((h[s.1].2.take q).filter (zct a b)).length frows.flatten:=by rw [hM4e]; exact hof.box hm3 (by omega) _
    have hm4:za7 M4 (b29+1):=by rw [hM4e]; exact (hm3.up hN4).new hb29 _
    have hM4:∀ x,x<b13→M4 x=M2 x:=fun x hx=>by rw [hM4e]; exact (za4 _ _ (by omega)).trans (hM3 x hx)
    clear hM4e
    refine ⟨zao (zaq hb4) rfl,?_⟩
    refine hof4.app (m:=1) (news:=[kv,.int .i64 h[s.1].2[q].2]) hm4 (by omega) ⟨rfl,.inr ⟨b29,0,1,_,rfl,Nat.le_refl _,.inr ⟨_,_,hx4⟩,rfl⟩⟩ hr1 (by omega) (by unfold maxLen; omega) (fun ov5 M5 N5 g1 g2 g3 g4=>?_)
    have hob3:ov.ownBlock≠some b13:=fun e=>by have := (hof4.ge _ e).1; omega
    obtain ⟨y1,y2⟩:=g2 b13 hob3 (by omega)
    obtain ⟨a5,c5,e5,_⟩:=g1.form
    try simp only [sS]
    refine stM (cs':=[.int .u32 h[s.1].1,ov5]) ?_ (y1.trans hb4) (by rw [e5]; rfl) (by rw [e5]; rfl) (by rw [e5]; exact List.all_eq_true.1 rfl)
    rw [zf6]
    refine zai (by omega) ?_
    refine next2 (q+1) _ _ (by omega) (fun hw5=>⟨_,za0 hw5,_,N5,ov5,frows++[[kv,.int .i64 h[s.1].2[q].2]],rfl,by omega,fun x hx=>?_,g4.set (by omega) _,q1,za5 _ _ _,?_,?_⟩)
    ·exact (za4 _ _ (by omega)).trans (((g2 x (fun e=>by have := (hof4.ge x e).1; omega) (by omega)).1).trans (hM4 x hx))
    ·rw [ef,List.length_append,List.length_singleton]
     have:own M5 (b13+1) 90 2 ov5 (((h[s.1].2.take q).filter (zct a b)).length+1) (frows++[[kv,.int .i64 h[s.1].2[q].2]]).flatten:=by simpa using g1
     exact this.keep (fun x hx=>za4 _ _ (fun e=>y2 (e ▸ hx))) (Nat.le_refl _)
    ·rw [ef]; exact zau hfr hR'.one hR'
   ·have ho1:zct a b h[s.1].2[q]=false:=by unfold zct; rw [hp]; rfl
    rw [ho1,if_neg (by decide),List.append_nil] at ef
    try simp only [sS]
    rw [zf6]
    refine zai (by omega) ?_
    refine next2 (q+1) _ _ (by omega) (fun hw5=>⟨_,za0 hw5,M3,N4,ov,frows,rfl,by omega,hM3,hw4.m,q1,hb3,?_,?_⟩)
    ·rw [ef]; exact hof
    ·rw [ef]; exact hfr
  ·try simp only [sS]
   rw [List.take_of_length_le (by omega)] at hof hfr
   have hflen:(h[s.1].2.filter (zct a b)).length≤200:=by have := List.length_filter_le (zct a b) h[s.1].2; omega
   have hlo:za9 ov=some (.int .i64 ((h[s.1].2.filter (zct a b)).length:Nat)):=by obtain ⟨x,c,e,_⟩:=hof.form; rw [e]; rfl
   have hMN:∀ x,x<N→M3 x=M x:=fun x hx=>by rw [hM3 x (by omega),hM2 x (by omega),hM1 x hx]
   have ho3:own M3 N 74 2 s.2 (zb1 a b (h.take s.1)).length rows1.flatten:=ho2.keep (fun x hx=>hM3 x (hob x hx)) (Nat.le_refl _)
   have skip:¬ (0<(h[s.1].2.filter (zct a b)).length∨h[s.1].2.length=0)→zb1 a b (h.take (s.1+1))=zb1 a b (h.take s.1):=fun hn=>by
    unfold zb1
    rw [e1]
    unfold zhh
    rw [if_neg hn]; simp
   have take1:(0<(h[s.1].2.filter (zct a b)).length∨h[s.1].2.length=0)→zb1 a b (h.take (s.1+1))=zb1 a b (h.take s.1)++[(h[s.1].1,h[s.1].2.filter (zct a b))]:=fun hn=>by
    unfold zb1
    rw [e1]
    unfold zhh
    rw [if_pos hn]; rfl
   try simp only [sS]
   refine ldM (v:=ov) ?_ hb3
   refine zaa hlo ?_
   refine zbu (fun h0=>?_) (fun h0=>?_)
   rotate_left
   try simp only [sS]
   refine ldM (v:=lv) ?_ hg3
   refine zbb (hl1.mono hF1) (hl2.mono fun _ _ h=>h.mono hF1) (by decide) i1 (off:=1) (by decide) fun p z r y hR _ hy=>?_
   obtain ⟨fv,rfl,hfv⟩:=hR.at
   have hy':y=fv:=by simpa using hy.symm
   subst hy'
   obtain ⟨orows,hfv1,hfv2⟩:=hfv
   refine zam hfv1 ?_
   refine zba (fun h9=>?_) (fun h9=>?_)
   rotate_left
   ·try simp only [sS]
    rw [zid]
    refine zai (by omega) ?_
    refine next (s.1+1,s.2) _ _ (by simp only; omega) (fun hw5=>⟨_,za0 hw5,F1,M3,N3,rows1,rfl,hF1,by omega,hMN,hm3,i1,?_,?_⟩)
    ·simp only
     rw [skip (by omega)]; exact ho3
    ·simp only
     rw [skip (by omega)]; exact hr
   all_goals
    try simp only [sS]
    refine zas (vs:=[.int .u32 h[s.1].1,ov]) ?_ hb3
    obtain ⟨a5,c5,e5,_⟩:=hof.form
    refine zcq (new:=[.int .u32 h[s.1].1,ov]) ho3 hm3 (by omega) (by rw [e5]; kernel_rfl) rfl (by rw [e5]; exact List.all_eq_true.1 rfl) (by omega) (by unfold maxLen; omega) (fun p v' M5 N5 g1 g2 g3 g4=>?_)
    rw [zid]
    refine zai (by omega) ?_
    have hne:∀ x,ov.ownBlock=some x→s.2.ownBlock≠some x:=fun x hx e=>by have := (hof.ge x hx).1; have := hob x e; omega
    obtain ⟨hof5,hne5⟩:=hof.far g2 hm3 hne
    refine next (s.1+1,v') _ _ (by simp only; omega) (fun hw5=>⟨_,zgw (p:=fun x=>ov.ownBlock=some x) hw5,_,_,N5,rows1++[[.int .u32 h[s.1].1,ov]],rfl,hF1.trans (zbd hw5),by omega,fun x hx=>?_,zcl g4,i1,?_,?_⟩)
    ·have x1:¬ ov.ownBlock=some x:=fun e=>by have := (hof.ge x e).1; omega
     exact (zay x1).trans (((g2 x (fun e=>by have := (ho3.ge x e).1; omega) (by omega)).1).trans (hMN x hx))
    ·simp only
     rw [take1 (by omega),List.length_append,List.length_singleton]
     have:own M5 N 74 2 v' ((zb1 a b (h.take s.1)).length+1) (rows1++[[.int .u32 h[s.1].1,ov]]).flatten:=by simpa using g1
     exact this.keep (fun x hx=>zay (fun e=>hne5 x e hx)) (Nat.le_refl _)
    ·simp only
     rw [take1 (by omega)]
     have he5:zcv (frzP F1 M5 (fun x=>ov.ownBlock=some x)) [.int .u32 h[s.1].1,ov] (h[s.1].1,h[s.1].2.filter (zct a b)):=⟨ov,rfl,⟨frows,hof5.frzP (fun x h=>h),hfr.mono fun _ _ h=>h.mono (zbd hw5)⟩,by simp only; omega⟩
     exact zau (hr.mono fun _ _ h=>h.mono (zbd hw5)) he5.one he5
 ·try simp only [sS]
  rw [List.take_of_length_le (by omega)] at ho hr
  have hlay:∀ i,zbw (zbk (zb1 a b h) (es.take i))∧(zbk (zb1 a b h) (es.take i)).length≤9000000000∧(∀ e∈zbk (zb1 a b h) (es.take i),e.2.length≤1000000)∧∀ e∈zbk (zb1 a b h) (es.take i),∀ f∈e.2,f.1.length≤10000000000:=fun i=>by
   have x1:=znv (es.take i) (zb1 a b h)
   have x2:=oR.le
   rw [List.length_take] at x1
   have x3:zbw (es.take i):=er1.sublist (List.take_sublist _ _)
   refine ⟨zh5 oR.rs,by omega,fun e he=>?_,?_⟩
   ·have := zxe oR.rs x3 oR.fl (fun e he=>(zdu (er2 e (List.mem_of_mem_take he)).2.1).1) e he
    omega
   ·refine zug (P:=fun e=>∀ f∈e.2,f.1.length≤10000000000) (fun e d he hd f hf=>(List.mem_append.1 hf).elim (hd f) (he f)) (fun e he=>oR.keys hdl he) (fun e he f hf=>?_)
    have := zge ((zdu (er2 e (List.mem_of_mem_take he)).2.1).2 f hf); omega
  refine zo4 (σ:=Nat×Value) (fun s=>s.2) (fun s=>.int .i64 (s.1:Nat))
   (fun s h'=>∃ F' N',h'=⟨F',M,N'⟩∧zac F F'∧N≤N'∧s.1≤es.length∧zcb F' s.2 (zbk (zb1 a b h) (es.take s.1))) (fun s=>es.length - s.1) (0,s.2) rfl rfl
   (fun hw4=>⟨_,zb7 hm hM1 hw4,_,N2,rfl,hF1.trans (zag hw4),hN2,Nat.zero_le _,by simpa [zbk] using zod hw4 ho hr⟩) (fun kk s j h1 hI hw4 next=>?_)
  rw [zo7]
  obtain ⟨F4,N4,rfl,hF4,hN4,hi,hent⟩:=hI
  obtain ⟨y1,y2,y3,y4⟩:=hlay s.1
  obtain ⟨esrows,hes1,hes2⟩:=hes.mono hF4
  refine zam hes1 ?_
  refine zaf (fun hlt=>?_) (fun hge=>?_)
  ·have i1:s.1<es.length:=by omega
   have et:=yab (zb1 a b h) es i1
   obtain ⟨z1,z2,z3⟩:=er2 _ (List.getElem_mem i1)
   obtain ⟨f1,f2⟩:=zdu z2
   try simp only [sS]
   refine zbb hes1 hes2 (by decide) i1 (off:=1) (by decide) fun p z r y hR _ hy=>?_
   obtain ⟨fv,rfl,hfv⟩:=hR.at
   have hy':y=fv:=by simpa using hy.symm
   subst hy'
   have hfv':=hfv
   obtain ⟨frows,hfa,_⟩:=hfv'
   refine zam hfa ?_
   refine zbu (fun h0=>?_) (fun h0=>?_)
   ·try simp only [sS]
    refine zbb hes1 hes2 (by decide) i1 (off:=0) (by decide) fun p z r y hR _ hy=>?_
    obtain ⟨fv,rfl,_⟩:=hR.at
    have hy':y=.int .u32 es[s.1].1:=by simpa using hy.symm
    subst hy'
    refine zbb hes1 hes2 (by decide) i1 (off:=1) (by decide) fun p z r y hR _ hy=>?_
    obtain ⟨fv,rfl,hfv⟩:=hR.at
    have hy':y=fv:=by simpa using hy.symm
    subst hy'
    refine ybw hent y1 (by omega) y3 y4 hfv (by omega) (fun f hf=>by have := zge (f2 f hf); omega) (fun v' F6 N6 hw6 hF6 hN6 h6=>?_)
    rw [zhm]
    refine zai (by omega) ?_
    refine next (s.1+1,v') _ _ (by simp only; omega) (fun hw5=>⟨_,za0 hw5,F6,N6,rfl,hF4.trans hF6,by omega,i1,?_⟩)
    simp only
    rw [et]; unfold zg7; rw [if_pos (by omega)]; exact h6
   ·try simp only [sS]
    rw [zhm]
    refine zai (by omega) ?_
    refine next (s.1+1,s.2) _ _ (by simp only; omega) (fun hw5=>⟨_,za0 hw5,F4,N4,rfl,hF4,by omega,i1,?_⟩)
    simp only
    rw [et]; unfold zg7; rw [if_neg (by omega)]; exact hent
  ·try simp only [sS]
   rw [List.take_of_length_le (by omega)] at hent y1 y2 y3 y4
   have hent':=hent
   obtain ⟨nrows,hn1,hn2⟩:=hent'
   refine zmu (σ:=Nat) (fun i=>.int .i64 (i:Nat)) (fun i h'=>h'=⟨F4,M,N4⟩∧i≤(zbk (zb1 a b h) es).length∧∀ e∈(zbk (zb1 a b h) es).take i,e.2.length≤200) (fun i=>(zbk (zb1 a b h) es).length - i) 0 rfl
    (fun hw5=>⟨_,za0 hw5,rfl,Nat.zero_le _,by simp⟩) (fun kk i j h1' hI hw5 next=>?_)
   rw [zmi]
   obtain ⟨rfl,hi5,hsh⟩:=hI
   refine zam hn1 ?_
   refine zaf (fun hlt5=>?_) (fun hge5=>?_)
   ·have i5:i<(zbk (zb1 a b h) es).length:=by omega
    try simp only [sS]
    refine zbb hn1 hn2 (by decide) i5 (off:=1) (by decide) fun p z r y hR _ hy=>?_
    obtain ⟨fv,rfl,hfv⟩:=hR.at
    have hy':y=fv:=by simpa using hy.symm
    subst hy'
    obtain ⟨frows,hfa,_⟩:=hfv
    refine zam hfa ?_
    refine zbu (fun h0=>?_) (fun h0=>?_)
    ·try simp only [sS]
     exact same 3 (by decide) (by rw [hrE]; unfold zgm; rw [if_pos (.inr (List.any_eq_true.2 ⟨_,List.getElem_mem i5,decide_eq_true (by omega)⟩))]) F4 M N4 hF4 hN4 (fun _ _=>rfl) _ rfl
    ·try simp only [sS]
     refine zai (by omega) ?_
     refine next (i+1) _ _ (by omega) (fun hw6=>⟨_,za0 hw6,rfl,i5,fun e he=>?_⟩)
     rw [List.take_add_one,List.getElem?_eq_getElem i5,Option.toList_some] at he
     rcases List.mem_append.1 he with he | he
     ·exact hsh e he
     ·rw [List.mem_singleton.1 he]; omega
   ·try simp only [sS]
    rw [List.take_of_length_le (by omega)] at hsh
    refine zam hn1 ?_
    refine zbu (fun h0=>?_) (fun h0=>?_)
    ·try simp only [sS]
     exact same 3 (by decide) (by rw [hrE]; unfold zgm; rw [if_pos (.inl (by omega))]) F4 M N4 hF4 hN4 (fun _ _=>rfl) _ rfl
    ·have hlg:zj5 (zbk (zb1 a b h) es)=false:=by
      unfold zj5
      rw [List.any_eq_false]
      intro e he
      have := hsh e he
      simp; omega
     have e0:ze2 l a b h es=0:=by
      rw [hrE]; unfold zgm; rw [if_neg (by rintro (q | q); omega; rw [hlg] at q; cases q)]
     obtain ⟨na,nc,ne⟩:=hent.form
     try simp only [sS]
     refine stM (cs':=[dv,s.2]) ?_ hC.gg (by rw [ne]; rfl) (by rw [ne]; rfl) (by rw [ne]; exact List.all_eq_true.1 rfl)
     refine fun hc=>⟨_,za0 hc,fun hw'=>?_⟩
     rw [e0] at k
     refine k s.2 F4 _ N4 hF4 ?_ (fun q hq _=>za4 _ _ hq) hN4 hw'
     unfold zhi; rw [if_pos e0]
     exact ⟨za5 _ _ _,hC.dd.mono hF4,hent⟩
open Go.MapKept
structure Bt where
 st:Int
 tm:Int
 ns:List Int
 fs:List Fc
def Bt.no:Bt:=⟨0,0,[],[]⟩
def btD (F:Nat→Option (List Value)) (v:Value) (b:Bt):Prop:=∃ nv fv,v=.agg #[.int .u8 b.st,.int .u32 b.tm,nv,fv]∧sF F 1 nv b.ns.length (ic b.ns)∧zar F fv b.fs
theorem btD.mono {v:Value} {b:Bt} (h:btD F v b) (hF:zac F F'):btD F' v b:=let ⟨nv,fv,e,h1,h2⟩:=h; ⟨nv,fv,e,h1.mono hF,h2.mono hF⟩
theorem zar.nil {c:Nat}:zar F (.slice none 0 c) []:=⟨[],sF.nil _ _ _,zad.nil _ _⟩
theorem btD.no:btD F (.agg #[.int .u8 0,.int .u32 0,.slice none 0 0,.slice none 0 0]) Bt.no:=⟨_,_,rfl,sF.nil _ _ _,zar.nil⟩
abbrev Bts:=List (Int×Bt)
def zaw (bs:Bts) (id:Int):Bt:=match bs.find? fun x=>decide (x.1=id) with | some x=>x.2 | none=>Bt.no
def zoh (bs:Bts) (id:Int):Bool:=bs.any fun x=>decide (x.1=id)
def zdw (bs:Bts) (id:Int) (b:Bt):Bts:=if zoh bs id=true then bs.map (fun x=>if x.1=id then (id,b) else x) else bs++[(id,b)]
theorem zek {bs:Bts} {id:Int}:zoh bs id=true↔∃ x∈bs,x.1=id:=by
 unfold zoh
 rw [List.any_eq_true]
 exact ⟨fun ⟨x,hx,h⟩=>⟨x,hx,of_decide_eq_true h⟩,fun ⟨x,hx,h⟩=>⟨x,hx,decide_eq_true h⟩⟩
theorem zij {bs:Bts} {id:Int} (h:∀ x∈bs,x.1≠id):zaw bs id=Bt.no:=by
 unfold zaw
 rw [List.find?_eq_none.2 (fun x hx=>by simpa using h x hx)]
theorem ya7 {bs:Bts} {j:Nat} {x:Int×Bt} (hn:(bs.map (·.1)).Nodup) (hj:bs[j]?=some x):zaw bs x.1=x.2:=by
 unfold zaw
 cases hf:bs.find? (fun y=>decide (y.1=x.1)) with
 | none=>exact absurd (List.find?_eq_none.1 hf x (List.mem_of_getElem? hj)) (by simp)
 | some y=>
  have h1:y.1=x.1:=by simpa using List.find?_some hf
  have h2:=List.mem_of_find?_eq_some hf
  obtain ⟨i,hi,hy⟩:=List.mem_iff_getElem.1 h2
  obtain ⟨hj',hx⟩:=List.getElem?_eq_some_iff.1 hj
  have:i=j:=by
   rcases Nat.lt_trichotomy i j with h | h | h
   ·have := List.pairwise_iff_getElem.1 hn i j (by simpa using hi) (by simpa using hj') h
    simp only [List.getElem_map,hy,hx] at this
    exact absurd h1 this
   ·exact h
   ·have := List.pairwise_iff_getElem.1 hn j i (by simpa using hj') (by simpa using hi) h
    simp only [List.getElem_map,hy,hx] at this
    exact absurd h1.symm this
  subst this
  rw [← hy,hx]
theorem yfl {bs:Bts} {id:Int} {b:Bt}:(zdw bs id b).map (·.1)=if zoh bs id=true then bs.map (·.1) else bs.map (·.1)++[id]:=by
 unfold zdw
 split
 ·rw [List.map_map]
  refine List.map_congr_left fun x _=>?_
  simp only [Function.comp]
  split
  ·rename_i h; exact h.symm
  ·rfl
 ·simp
theorem zj2 {bs:Bts} {id:Int} {b:Bt} (h:(bs.map (·.1)).Nodup):((zdw bs id b).map (·.1)).Nodup:=by
 rw [yfl]
 split
 ·exact h
 ·rename_i hh
  refine List.nodup_append.2 ⟨h,by simp,fun a ha c hc=>?_⟩
  simp only [List.mem_singleton] at hc
  subst hc
  obtain ⟨x,hx,rfl⟩:=List.mem_map.1 ha
  exact fun e=>hh (zek.2 ⟨x,hx,e⟩)
theorem zn9 {bs:Bts} {id:Int} {b:Bt} {x:Int×Bt} (h:x∈zdw bs id b):x=(id,b)∨(x∈bs∧x.1≠id):=by
 unfold zdw at h
 split at h
 ·obtain ⟨y,hy,rfl⟩:=List.mem_map.1 h
  split
  ·exact .inl rfl
  ·rename_i h1; exact .inr ⟨hy,h1⟩
 ·rename_i hh
  rcases List.mem_append.1 h with h1 | h1
  ·exact .inr ⟨h1,fun e=>hh (zek.2 ⟨x,h1,e⟩)⟩
  ·exact .inl (List.mem_singleton.1 h1)
theorem yhf {bs:Bts} {id:Int} {b:Bt}:(id,b)∈zdw bs id b:=by
 unfold zdw
 split
 ·rename_i h
  obtain ⟨x,hx,e⟩:=zek.1 h
  exact List.mem_map.2 ⟨x,hx,by rw [if_pos e]⟩
 ·simp
theorem yhk {bs:Bts} {id:Int} {b:Bt} {x:Int×Bt} (h:x∈bs) (hne:x.1≠id):x∈zdw bs id b:=by
 unfold zdw
 split
 ·exact List.mem_map.2 ⟨x,h,by rw [if_neg hne]⟩
 ·exact List.mem_append_left _ h
theorem zn0 {bs:Bts} {x:Int×Bt} (hn:(bs.map (·.1)).Nodup) (hx:x∈bs):zaw bs x.1=x.2:=by
 obtain ⟨j,hj⟩:=List.mem_iff_getElem?.1 hx
 exact ya7 hn hj
theorem zsd {bs:Bts} {id:Int} {b:Bt} (hn:(bs.map (·.1)).Nodup) (i:Int):zaw (zdw bs id b) i=if i=id then b else zaw bs i:=by
 by_cases h:i=id
 ·subst h
  rw [if_pos rfl]
  exact zn0 (x:=(i,b)) (zj2 hn) yhf
 ·rw [if_neg h]
  by_cases hx:∃ x∈bs,x.1=i
  ·obtain ⟨x,hx,rfl⟩:=hx
   rw [zn0 hn hx,zn0 (zj2 hn) (yhk hx h)]
  ·rw [zij (bs:=bs) (fun x hx' e=>hx ⟨x,hx',e⟩),zij fun x hx' e=>?_]
   rcases zn9 hx' with rfl | ⟨h1,h2⟩
   ·exact h e.symm
   ·exact hx ⟨x,h1,e⟩
structure zfy (F:Nat→Option (List Value)) (es:Array MapEntry) (bs:Bts):Prop where
 len:es.size=bs.length
 ea:∀ (j:Nat) (e:MapEntry) (x:Int×Bt),es.toList[j]?=some e→bs[j]?=some x→e.key=.int .u32 x.1∧btD F e.val x.2∧e.born=j
 nd:(bs.map (·.1)).Nodup
 rg:∀ x∈bs,0≤x.1∧x.1<4294967296
theorem zfy.mono {es:Array MapEntry} {bs:Bts} (h:zfy F es bs) (hF:zac F F'):zfy F' es bs:=⟨h.len,fun j e x h1 h2=>let ⟨a,b,c⟩:=h.ea j e x h1 h2; ⟨a,b.mono hF,c⟩,h.nd,h.rg⟩
theorem zfy.nil:zfy F #[] []:=⟨rfl,fun j e x h=>by simp at h,List.nodup_nil,fun x hx=>by simp at hx⟩
theorem zfy.get {es:Array MapEntry} {bs:Bts} (h:zfy F es bs) {j:Nat} {e:MapEntry} (hj:es.toList[j]?=some e):∃ x,bs[j]?=some x∧e.key=.int .u32 x.1∧btD F e.val x.2∧e.born=j:=by
 have hl:j<bs.length:=by have := (List.getElem?_eq_some_iff.1 hj).1; rw [Array.length_toList,h.len] at this; exact this
 exact ⟨bs[j],List.getElem?_eq_getElem hl,h.ea j e _ hj (List.getElem?_eq_getElem hl)⟩
theorem zfy.keys {es:Array MapEntry} {bs:Bts} (h:zfy F es bs):es.toList.map (·.key)=bs.map fun x=>Value.int .u32 x.1:=by
 refine List.ext_getElem? fun j=>?_
 rw [List.getElem?_map,List.getElem?_map]
 cases hj:es.toList[j]? with
 | none=>
  have:bs[j]?=none:=by
   rw [List.getElem?_eq_none_iff] at hj ⊢
   rw [Array.length_toList,h.len] at hj; exact hj
  rw [this]; rfl
 | some e=>
  obtain ⟨x,hx,h1,_⟩:=h.get hj
  rw [hx]
  simp only [Option.map_some,h1]
theorem zfy.borns {es:Array MapEntry} {bs:Bts} (h:zfy F es bs):es.toList.map (·.born)=List.range bs.length:=by
 refine List.ext_getElem? fun j=>?_
 rw [List.getElem?_map]
 cases hj:es.toList[j]? with
 | none=>
  rw [List.getElem?_eq_none_iff,Array.length_toList,h.len] at hj
  rw [List.getElem?_eq_none (by rw [List.length_range]; exact hj)]; rfl
 | some e=>
  obtain ⟨x,hx,_,_,h1⟩:=h.get hj
  have hl:=(List.getElem?_eq_some_iff.1 hx).1
  rw [List.getElem?_range hl]
  simp only [Option.map_some,h1]
theorem zfy.k {es:Array MapEntry} {bs:Bts} (h:zfy F es bs) (hl:bs.length≤1000000):yj1 es bs.length:=by
 refine ⟨⟨fun x hx=>?_,?_,?_⟩,fun x hx=>?_,by rw [h.len]; exact hl⟩
 ·obtain ⟨j,hj⟩:=List.mem_iff_getElem?.1 hx
  obtain ⟨y,hy,_,_,hb⟩:=h.get hj
  have := (List.getElem?_eq_some_iff.1 hy).1
  omega
 ·rw [h.borns]; exact List.nodup_range
 ·rw [h.keys]
  have := h.nd
  refine List.pairwise_map.2 ((List.pairwise_map.1 this).imp fun {a b} hne e=>hne (by simpa using e))
 ·obtain ⟨j,hj⟩:=List.mem_iff_getElem?.1 hx
  obtain ⟨y,hy,h1,_⟩:=h.get hj
  have := h.rg y (List.mem_of_getElem? hy)
  exact ⟨y.1,h1,this⟩
theorem zfy.isKey {es:Array MapEntry} {bs:Bts} (h:zfy F es bs):∀ x∈es.toList,IsKey (.int .u32) x.key:=fun x hx=>by
 obtain ⟨j,hj⟩:=List.mem_iff_getElem?.1 hx
 obtain ⟨y,hy,h1,_⟩:=h.get hj
 rw [h1]; trivial
theorem zzn:Tryz.prog.underlying 70=some (.map 30 95):=Tryz.underlying70
theorem yd8 (w:World):(zeroValue 95).run Tryz.prog w=.ok (.agg #[.int .u8 0,.int .u32 0,.slice none 0 0,.slice none 0 0]) w:=by kernel_rfl
theorem zph {mb:Nat} {es:Array MapEntry} {clock:Nat} {bs:Bts} {id:Int} (hM:M mb=some (.obj (.map es clock))) (hd:zfy F es bs) (k:∀ v,btD F v (zaw bs id)→K v ⟨F,M,N⟩) :
  lkp Tryz.prog 70 (.map (some mb)) (.int .u32 id) false K ⟨F,M,N⟩:=by
 refine yns zzn Tryz.underlying30 yd8 (d:=.int .u32) rfl hd.isKey hM (fun hmiss=>?_) (fun j x hj hx=>?_)
 ·refine k _ ?_
  rw [zij (fun y hy e=>?_)]
  ·exact btD.no
  ·obtain ⟨j,hj⟩:=List.mem_iff_getElem?.1 hy
   have hl:j<es.toList.length:=by rw [Array.length_toList,hd.len]; exact (List.getElem?_eq_some_iff.1 hj).1
   have h1:=(hd.ea j _ y (List.getElem?_eq_getElem hl) hj).1
   exact hmiss _ (List.getElem_mem hl) (by rw [h1,e])
 ·obtain ⟨y,hy,h1,h2,_⟩:=hd.get hj
  have e:y.1=id:=by rw [h1] at hx; simpa using hx
  refine k _ ?_
  rw [← e,ya7 hd.nd hy]; exact h2
theorem ydw {mb:Nat} {es:Array MapEntry} {bs:Bts} {id:Int} {v:Value} {b:Bt} (hM:M mb=some (.obj (.map es bs.length))) (hd:zfy F es bs) (hb:btD F v b) (h0:0≤id) (h1:id<4294967296)
  (k:∀ es',zfy F es' (zdw bs id b)→K undef ⟨F,upd M mb (some (.obj (.map es' (zdw bs id b).length))),N⟩) :
  mup Tryz.prog 70 (.map (some mb)) (.int .u32 id) v K ⟨F,M,N⟩:=by
 refine ym0 zzn Tryz.underlying30 (d:=.int .u32) rfl hd.isKey hM (fun hmiss=>?_) (fun j x hj hx=>?_)
 ·have hno:¬ zoh bs id=true:=fun h=>by
   obtain ⟨y,hy,e⟩:=zek.1 h
   obtain ⟨j,hj⟩:=List.mem_iff_getElem?.1 hy
   have hl:j<es.toList.length:=by rw [Array.length_toList,hd.len]; exact (List.getElem?_eq_some_iff.1 hj).1
   have h2:=(hd.ea j _ y (List.getElem?_eq_getElem hl) hj).1
   exact hmiss _ (List.getElem_mem hl) (by rw [h2,e])
  have e:zdw bs id b=bs++[(id,b)]:=by unfold zdw; rw [if_neg hno]
  have hl:(zdw bs id b).length=bs.length+1:=by rw [e]; simp
  have hel:es.toList.length=bs.length:=by rw [Array.length_toList,hd.len]
  have := k (es.push ⟨.int .u32 id,v,bs.length⟩) ⟨?_,fun i e' x h3 h4=>?_,zj2 hd.nd,fun x hx=>?_⟩
  ·rw [hl] at this; exact this
  ·rw [Array.size_push,hl,hd.len]
  ·rw [e] at h4
   rw [Array.toList_push] at h3
   rcases Nat.lt_or_ge i bs.length with hi | hi
   ·rw [List.getElem?_append_left (by rw [Array.length_toList,hd.len]; exact hi)] at h3
    rw [List.getElem?_append_left hi] at h4
    exact hd.ea i e' x h3 h4
   ·rw [List.getElem?_append_right (by rw [hel]; exact hi),hel] at h3
    rw [List.getElem?_append_right hi] at h4
    obtain ⟨hi2,h5⟩:=List.getElem?_eq_some_iff.1 h4
    have hz:i - bs.length=0:=by simp at hi2; omega
    rw [hz] at h3 h4
    simp at h3 h4
    subst h3; subst h4
    exact ⟨rfl,hb,by simp only; omega⟩
  ·rcases zn9 hx with rfl | ⟨h3,_⟩
   ·exact ⟨h0,h1⟩
   ·exact hd.rg x h3
 ·obtain ⟨y,hy,h2,h3,h4⟩:=hd.get hj
  have e:y.1=id:=by rw [h2] at hx; simpa using hx
  have hyes:zoh bs id=true:=zek.2 ⟨y,List.mem_of_getElem? hy,e⟩
  have es1:zdw bs id b=bs.map (fun x=>if x.1=id then (id,b) else x):=by unfold zdw; rw [if_pos hyes]
  have hl:(zdw bs id b).length=bs.length:=by rw [es1]; simp
  have hjl:=(List.getElem?_eq_some_iff.1 hy).1
  have := k (es.modify j (fun e'=>{ e' with key:=.int .u32 id,val:=v })) ⟨by rw [Array.size_modify,hl,hd.len],fun i e' x h5 h6=>?_,zj2 hd.nd,fun x hx=>?_⟩
  ·rw [hl] at this; exact this
  ·rw [es1,List.getElem?_map] at h6
   rw [Array.getElem?_toList,Array.getElem?_modify] at h5
   cases hbi:bs[i]? with
   | none=>rw [hbi] at h6; simp at h6
   | some z=>
    rw [hbi] at h6
    simp only [Option.map_some,Option.some.injEq] at h6
    have hil:=(List.getElem?_eq_some_iff.1 hbi).1
    have hei:es.toList[i]?=some (es.toList[i]'(by rw [Array.length_toList,hd.len]; exact hil)):=List.getElem?_eq_getElem _
    obtain ⟨z1,z2,z3⟩:=hd.ea i _ z hei hbi
    by_cases hij:j=i
    ·subst hij
     rw [if_pos rfl] at h5
     rw [← Array.getElem?_toList,hei] at h5
     simp only [Option.map_some,Option.some.injEq] at h5
     have hz:z=y:=by rw [hbi] at hy; simpa using hy
     rw [hz,if_pos e] at h6
     subst h5; subst h6
     exact ⟨rfl,hb,z3⟩
    ·rw [if_neg hij,← Array.getElem?_toList,hei] at h5
     simp only [Option.some.injEq] at h5
     have hz:z.1≠id:=fun e2=>by
      have hne:i≠j:=fun e3=>hij e3.symm
      have hp:=hd.nd
      rcases Nat.lt_or_gt_of_ne hne with h | h
      ·have := List.pairwise_iff_getElem.1 hp i j (by simpa using hil) (by simpa using hjl) h
       rw [List.getElem_map,List.getElem_map,(List.getElem?_eq_some_iff.1 hbi).2,(List.getElem?_eq_some_iff.1 hy).2] at this
       exact this (by rw [e2,e])
      ·have := List.pairwise_iff_getElem.1 hp j i (by simpa using hjl) (by simpa using hil) h
       rw [List.getElem_map,List.getElem_map,(List.getElem?_eq_some_iff.1 hbi).2,(List.getElem?_eq_some_iff.1 hy).2] at this
       exact this (by rw [e2,e])
     rw [if_neg hz] at h6
     subst h5; subst h6
     exact ⟨z1,z2,z3⟩
  ·rcases zn9 hx with rfl | ⟨h7,_⟩
   ·exact ⟨h0,h1⟩
   ·exact hd.rg x h7
theorem yho {l:List Dm} (hs:∀ d∈l,0<d.1∧d.1≤1000000) (c:List Int):inF l (keyOf l c)=true:=by
 have hkl:=zes l c
 unfold inF
 rw [decide_eq_true hkl,Bool.true_and,List.all_eq_true]
 intro i hi
 have hi':i<l.length:=List.mem_range.1 hi
 have := zkm (c:=c) hs (by omega:i<(keyOf l c).length) hi'
 unfold inP
 rw [zb0 (by omega:i<(keyOf l c).length),zb0 hi']
 exact decide_eq_true this
theorem zjt {l:List Dm} (h:zdb l):∀ d∈l,0<d.1∧d.1≤1000000:=fun d hd=>by have := h.2.2 d hd; omega
theorem zx0 {l:List Dm} (hl:zdb l) (ks:List (List Int)) (v:List Int):zd1 l (zcj l ks v)=true:=by
 refine zzl (by rw [zlz]; omega) fun f hf=>?_
 obtain ⟨c,hc⟩:=(zm9 hf).1
 rw [hc]; exact yho (zjt hl) c
theorem yor {x:Int} (h0:0≤x) (h1:x<4294967296):IntKind.u32.wrap x=x:=by
 unfold IntKind.wrap
 simp [IntKind.bits,IntKind.signed]
 omega
theorem yci {e:EqK} {a b:Int} {h:Hp} (h0:0≤a+b) (h1:a+b<4294967296) (kk:K (.int .u32 (a+b)) h):pv (za1 e .add (.int .u32 a) (.int .u32 b)) K h:=⟨_,by rw [inV]; rfl,by rw [yor h0 h1]; exact kk⟩
theorem zo9 {b:Nat} {h:Hp} (k:K (.bool false) h):pv (za1 .ptr .eql (.pointer (some ⟨b,0,none⟩)) (.pointer none)) K h:=⟨_,rfl,k⟩
theorem yfi {b:Nat} {u v:Value} {s t:List Fc} (hF:F b=some [u,v]) (hu:zar F u s) (hv:zar F v t) (hs:s.length≤1000000) (ht:t.length≤1000000):zmt F (.slice (some ⟨b,0,none⟩) 2 2) [s,t]:=by
 obtain ⟨a1,c1,e1⟩:=hu.form
 obtain ⟨a2,c2,e2⟩:=hv.form
 have o1:[u].length=1∧∀ c∈[u],c.oneCell'=true:=⟨rfl,fun c hc=>by rw [List.mem_singleton.1 hc,e1]; rfl⟩
 have o2:[v].length=1∧∀ c∈[v],c.oneCell'=true:=⟨rfl,fun c hc=>by rw [List.mem_singleton.1 hc,e2]; rfl⟩
 exact ⟨[[u],[v]],zhr hF rfl (by decide),zau (zau (zad.nil _ 1) o1 ⟨u,rfl,hu,by omega⟩) o2 ⟨v,rfl,hv,by omega⟩⟩
set_option maxRecDepth 10000 in
theorem yif {B:Nat} {v fv:Value} {rows:List (List Value)} {h:List En} {t:Int} {fs:List Fc} (hv:own M B 74 2 v h.length rows.flatten) (hB:B≤N) (hr:zad (zcv F) 2 rows h) (hs:zbw h) (hl:h.length≤10000000000) (hm':∀ e∈h,e.2.length≤1000000) (hf:zar F fv fs) (hfl:fs.length≤1000000) (hk:∀ f∈fs,f.1.length≤10000000000)
  (k:∀ v' F' M' N' rows',zac F F'→own M' B 74 2 v' (withR h t fs).length rows'.flatten→zad (zcv F') 2 rows' (withR h t fs)→(∀ q,v.ownBlock≠some q→q<N→M' q=M q∧v'.ownBlock≠some q)→N≤N'→za7 M' N'→(Hp.mk F' M' N').wf→K v' ⟨F',M',N'⟩) :
  za2 Tryz.prog (.func (.func 93) #[] #[]) #[v,.int .u32 t,fv] K E ⟨F,M,N⟩:=by
 cases ht:zc4 h t
 ·refine ycn hv hB hr hs hl ht hf hfl hk ?_
  rw [← zp4 ht,zjl]
  exact k
 have hi:=zrr ht
 rw [← zjl,yf9 ht hi] at k
 refine za3 mixed Tryz.func93 (by kernel_rfl) (t93 _ E _ _ _) (fun hw=>?_)
 have hm:za7 M N:=hw.m
 refine zu0 hv hr hs (by omega) (fun N1 hN1 hw1=>?_)
 rw [ht]
 try simp only [sS]
 refine yn2 (off:=1) hv hr (by decide) hi fun b c r x hvf hcell hri hR hrl hx=>?_
 obtain ⟨ov,rfl,hov,hovl⟩:=hR
 have hx':x=ov:=by simpa using hx.symm
 subst hx'
 have het:h[zaz h t].1=t:=by rw [zjp hi] at ht; exact of_decide_eq_true ht
 have hom:=hm' _ (List.getElem_mem hi)
 refine yax hf (by omega) hk (fun v2 F2 N2 hw2 hF2 hN2 hf2=>?_)
 obtain ⟨cs,tot,hMb,hcs⟩:=hcell
 refine ⟨⟨cs,.inr ⟨_,_,hMb⟩,by rw [Nat.zero_add]; exact hcs⟩,?_⟩
 have hov2:=hov.mono hF2
 obtain ⟨a1,c1,e1⟩:=hov2.form
 obtain ⟨a2,c2,e2⟩:=hf2.form
 have hm2:za7 M N2:=hw2.m
 refine zde (cs:=[x,v2]) (by rw [e1,e2]; kernel_rfl) (fun b9 hb9=>?_)
 refine zej (fun hc=>⟨_,zgw (p:=fun q=>q=b9) hc,?_⟩)
 have hs3:=zbd (p:=fun q=>q=b9) hc
 have f9:=zik (F:=F2) (p:=fun q=>q=b9) rfl (za5 M b9 (some (.cells 38 [x,v2] [x,v2].length)))
 have hMK:∀ q,q<N2→zbj (upd M b9 (some (.cells 38 [x,v2] [x,v2].length))) (fun q=>¬ q=b9) q=M q:=fun q hq=>(zay (by omega)).trans (za4 _ _ (by omega))
 have hmK:za7 (zbj (upd M b9 (some (.cells 38 [x,v2] [x,v2].length))) (fun q=>¬ q=b9)) (b9+1):=zcl (hm2.new hb9 _)
 generalize frzP F2 _ _=F3 at *
 generalize zbj _ _=M3 at *
 clear hc
 refine yec (ts:=[h[zaz h t].2,fs]) (yfi f9 (hov2.mono hs3) (hf2.mono hs3) hom hfl) (by simp; omega) (by simp) (fun v10 F4 N4 hw4 hF4 hN4 h10=>?_)
 have ef:[h[zaz h t].2,fs].flatten=h[zaz h t].2++fs:=by simp
 rw [ef] at h10
 obtain ⟨a10,c10,e10⟩:=h10.form
 have hv4:own M3 B 74 2 v h.length rows.flatten:=hv.keep (fun q hq=>hMK q (by have := hv.lt hm q hq; omega)) (Nat.le_refl _)
 have F04:=(hF2.trans hs3).trans hF4
 refine ymz (y:=(t,h[zaz h t].2++fs)) hv4 (hr.mono fun _ _ h=>h.mono F04) (by decide) hi (by rw [e10]; rfl) (by rw [e10]; rfl) (fun r' hr'=>?_) (fun p q M5 rows' g1 g2 g3 g4=>?_)
 ·rw [hri] at hr'
  cases hr'
  refine ⟨v10,by simp [het],h10,by simp only [List.length_append]; omega⟩
 exact fun hc=>⟨_,za0 hc,fun hw'=>k v F4 M5 N4 rows' F04 g1 g2 (fun q hq hqN=>⟨(g3 q hq).trans (hMK q (by omega)),hq⟩) (by omega) (g4 _ hw4.m) hw'⟩
theorem ykc {h:List En} {i:Nat} (hi:i<h.length) (h0:200<h[i].2.length):zj5 h=true:=List.any_eq_true.2 ⟨_,List.getElem_mem hi,decide_eq_true h0⟩
theorem ylc {cs:List Value} {e:En} (he:zcv F cs e) (k:∀ N',N≤N'→(Hp.mk F M N').wf→K (.bool (decide (200<e.2.length))) ⟨F,M,N'⟩) :
  za2 Tryz.prog (.func (.func 95) #[] #[]) #[.agg cs.toArray] K E ⟨F,M,N⟩:=by
 refine za3 mixed Tryz.func95 (by kernel_rfl) (t95 _ E _) (fun hw=>?_)
 have hm:za7 M N:=hw.m
 obtain ⟨v,rfl,hv,hvl⟩:=he
 refine zal (cs:=[.int .u32 e.1,v]) (fun b hb=>?_)
 try simp only [sS]
 refine ldM (v:=v) ?_
 obtain ⟨frows,h1,h2⟩:=hv
 refine zam h1 ?_
 refine zbu (fun h0=>?_) (fun h0=>?_)
 ·rw [decide_eq_true (by omega)] at k
  exact fun hc=>⟨⟨F,M,b+1⟩,zbp hc (zav (zb6 _) (hm _ hb)),fun hw'=>k _ (by omega) hw'⟩
 ·rw [decide_eq_false (by omega)] at k
  exact fun hc=>⟨⟨F,M,b+1⟩,zbp hc (zav (zb6 _) (hm _ hb)),fun hw'=>k _ (by omega) hw'⟩
theorem ym4 {B:Nat} {v:Value} {rows:List (List Value)} {h:List En} (hv:own M B 74 2 v h.length rows.flatten) (hr:zad (zcv F) 2 rows h) (hl:h.length≤10000000000) (k:∀ N',N≤N'→(Hp.mk F M N').wf→K (.bool (zj5 h)) ⟨F,M,N'⟩) :
  za2 Tryz.prog (.func (.func 96) #[] #[]) #[v,.func (.func 95) #[] #[]] K E ⟨F,M,N⟩:=by
 refine za3 mixed Tryz.func96 (by kernel_rfl) (t96 _ E _ _) (fun hw=>?_)
 refine za3 mixed Tryz.func120 (by kernel_rfl) (yp3 _ E _ _) (fun hw=>?_)
 have hlv:za9 v=some (.int .i64 (h.length:Nat)):=by obtain ⟨a,c,e,_⟩:=hv.form; rw [e]; rfl
 refine zaa hlv ?_
 refine zwb (σ:=Nat) (fun i=>.int .i64 (i:Nat)) (fun i h'=>∃ N',h'=⟨F,M,N'⟩∧N≤N'∧i≤h.length∧zj5 h=zj5 (h.drop i)) (fun i=>h.length - i) 0 rfl
  (fun hw1=>⟨_,za0 hw1,N,rfl,Nat.le_refl _,Nat.zero_le _,rfl⟩) (fun kk i j h1 hI hw1 next=>?_)
 rw [zvp]
 obtain ⟨N1,rfl,hN1,hi,he⟩:=hI
 refine zaf (fun hlt=>?_) (fun hge=>?_)
 ·have i1:i<h.length:=by omega
  try simp only [sS]
  refine zk5 hv hr (by decide) i1 fun q r _ hR _ _=>ylc hR (fun N2 hN2 hw2=>?_)
  by_cases h0:200<h[i].2.length
  ·rw [decide_eq_true h0]
   refine zdd ?_
   refine fun hc=>⟨_,za0 hc,fun hw'=>ydx (by omega) fun hc=>⟨_,za0 hc,fun hw'=>?_⟩⟩
   have := k N2 (by omega) hw'
   rw [ykc i1 h0] at this
   exact this
  ·rw [decide_eq_false h0]
   refine zc8 ?_
   refine zai (by omega) ?_
   refine next (i+1) _ _ (by omega) (fun hw3=>⟨_,za0 hw3,N2,rfl,by omega,i1,?_⟩)
   rw [he,List.drop_eq_getElem_cons i1]
   unfold zj5
   rw [List.any_cons,decide_eq_false h0,Bool.false_or]
 ·try simp only [sS]
  refine fun hc=>⟨_,za0 hc,fun hw'=>zpf (by omega) fun hc=>⟨_,za0 hc,fun hw'=>?_⟩⟩
  have := k N1 hN1 hw'
  rw [he,List.drop_eq_nil_of_le (by omega)] at this
  exact this
theorem yba (h es:List En) {i:Nat} (hi:i<es.length):zbk h (es.take (i+1))=zg7 (zbk h (es.take i)) es[i]:=by
 unfold zbk
 rw [List.take_add_one,List.getElem?_eq_getElem hi,Option.toList_some,List.foldl_append]; rfl
set_option maxRecDepth 10000 in
set_option maxHeartbeats 4000000 in
theorem yd9 {B g:Nat} {hv dv ev:Value} {rows:List (List Value)} {l:List Dm} {h es:List En} {a b:Int} (hC:zg2 F M B g hv dv rows l h) (hB:B≤N) (o:okH l 5000 200 h) (hdl:l.length≤1000) (hes:zcb F ev es) (hel:es.length≤140737488351232) (heT:∀ e∈es,e.1<4294967296)
  (k:∀ hv' F' M' N' rows',zac F F'→zg2 F' M' B g hv' dv rows' l (zhi l a b h es)→(∀ q,hv.ownBlock≠some q→q≠g→q<N→M' q=M q∧hv'.ownBlock≠some q)→N≤N'→za7 M' N'→(Hp.mk F' M' N').wf→K (.int .u16 ((ze2 l a b h es:Nat):Int)) ⟨F',M',N'⟩) :
  za2 Tryz.prog (.func (.func 67) #[] #[]) #[.pointer (some ⟨g,0,none⟩),.int .i64 a,.int .i64 b,ev] K E ⟨F,M,N⟩:=by
 refine za3 mixed Tryz.func67 (by kernel_rfl) (t67 _ E _ _ _ _) (fun hw=>?_)
 have hm:za7 M N:=hw.m
 have hgN:=hm.lt hC.gg
 have hol:=o.le
 have hgB:=hC.gB
 have hlv:za9 hv=some (.int .i64 (h.length:Nat)):=by obtain ⟨x,c,e,_⟩:=hC.oo.form; rw [e]; rfl
 have same:ze2 l a b h es≠0→∀ F' M' N',(Hp.mk F' M' N').wf→zac F F'→N≤N'→(∀ q,q<N→M' q=M q)→K (.int .u16 ((ze2 l a b h es:Nat):Int)) ⟨F',M',N'⟩:=fun hne F' M' N' hw' hF hN hM=>by
  refine k hv F' M' N' rows hF ?_ (fun q hq _ hqN=>⟨hM q hqN,hq⟩) hN hw'.m hw'
  unfold zhi; rw [if_neg hne]
  exact hC.keep hF (fun q hq=>hM q (hC.lt hm q hq).2)
 refine zo1 (fun w F1 N1 hw1 hF1 hN1 hW=>?_)
 refine yh9 (hC.keep (M':=M) hF1 (fun _ _=>rfl)) hdl (hes.mono hF1) (by omega) hW (fun F2 N2 hw2 hF2 hN2=>?_)
 have F02:=hF1.trans hF2
 cases hrt:zdz l a b 0 es
 ·have e1:ze2 l a b h es=1:=by unfold ze2; rw [if_pos hrt]
  try simp only [sS]
  refine fun hc=>⟨_,za0 hc,fun hw'=>?_⟩
  have := same (by omega) _ _ _ hw' F02 (by omega) (fun _ _=>rfl)
  rw [e1] at this; exact this
 have hrE:ze2 l a b h es=if 5000<(zgm a b h es).length∨zj5 (zgm a b h es)=true then 3 else 0:=by unfold ze2; rw [if_neg (by rw [hrt]; decide)]
 obtain ⟨er1,er2⟩:=zkb hrt
 have hen:=zmz hrt (by decide:(0:Int)<4294967296) heT
 try simp only [sS]
 refine ldM (v:=hv) ?_ hC.gg
 refine zaa hlv ?_
 refine zo2 (σ:=Nat×Value) (fun s=>s.2) (fun s=>.int .i64 (s.1:Nat))
  (fun s h'=>∃ F' M' N' rows',h'=⟨F',M',N'⟩∧zac F2 F'∧N≤N'∧(∀ q,q<N→M' q=M q)∧za7 M' N'∧s.1≤h.length∧own M' N 74 2 s.2 (zb1 a b (h.take s.1)).length rows'.flatten∧zad (zcv F') 2 rows' (zb1 a b (h.take s.1))) (fun s=>h.length - s.1) (0,.slice none 0 0) rfl rfl
  (fun hw3=>⟨_,za0 hw3,F2,M,N2,[],rfl,zac.refl _,by omega,fun _ _=>rfl,hw2.m,Nat.zero_le _,own.nil,zad.nil _ _⟩) (fun kk s j h1 hI hw3 next=>?_)
 ·rw [zo5]
  obtain ⟨F3,M3,N3,rows3,rfl,hF3,hN3,hM3,hm3,hi,ho,hr⟩:=hI
  refine zaf (fun hlt=>?_) (fun hge=>?_)
  ·have i1:s.1<h.length:=by omega
   have e1:=zpn (zhh a b) h i1
   have hle:(zb1 a b (h.take s.1)).length≤s.1:=zvd (zhh a b) h s.1
   try simp only [sS]
   have hoo1:own M3 B 74 2 hv h.length rows.flatten:=hC.oo.keep (fun q hq=>hM3 q (hC.oo.lt hm q hq)) (Nat.le_refl _)
   refine zk5 hoo1 hC.rr (by decide) i1 fun p r _ hR _ hr1=>?_
   obtain ⟨fv,rfl,hfv,hfl⟩:=hR
   have hfm:=o.fl _ (List.getElem_mem i1)
   refine zal (fun b4 hb4=>?_)
   refine stM (cs':=[.int .u32 h[s.1].1,fv]) ?_ (za5 _ _ _) rfl rfl hr1
   rw [zbe]
   have hbox:=za5 M3 b4 (some (.cells 74 [.int .u32 h[s.1].1,fv] [Value.int .u32 0,Value.slice none 0 0].length))
   have ho2:=ho.box hm3 hb4 (some (.cells 74 [.int .u32 h[s.1].1,fv] [Value.int .u32 0,Value.slice none 0 0].length))
   have hm4:=hm3.new hb4 (some (.cells 74 [.int .u32 h[s.1].1,fv] [Value.int .u32 0,Value.slice none 0 0].length))
   have hM4:∀ q,q<N→upd M3 b4 (some (.cells 74 [.int .u32 h[s.1].1,fv] [Value.int .u32 0,Value.slice none 0 0].length)) q=M q:=fun q hq=>(za4 _ _ (by omega)).trans (hM3 q hq)
   generalize upd M3 b4 _=M4 at *
   try simp only [sS]
   refine ldM (v:=fv) ?_ hbox
   have hfv3:=hfv.mono (F02.trans hF3)
   have hfv3':=hfv3
   obtain ⟨frows0,hfv3a,_⟩:=hfv3'
   refine zrt hfv3 (hW.mono (hF2.trans hF3)) (by omega) (o.keys hdl (List.getElem_mem i1)) (fun v4 F4 N4 hw4 hF4 hN4 hf4=>?_)
   rw [zxs] at hf4
   obtain ⟨frows,hf4a,hf4b⟩:=hf4
   have hF4':=hF3.trans hF4
   have hflen:(h[s.1].2.filter (zct a b)).length≤200:=by have := List.length_filter_le (zct a b) h[s.1].2; omega
   obtain ⟨a5,c5,e5,_⟩:=hf4a.form
   have he4:zcv F4 [.int .u32 h[s.1].1,v4] (h[s.1].1,h[s.1].2.filter (zct a b)):=⟨v4,rfl,⟨frows,hf4a,hf4b⟩,by simp only; omega⟩
   refine zam hf4a ?_
   have skip:¬ (0<(h[s.1].2.filter (zct a b)).length∨h[s.1].2.length=0)→zb1 a b (h.take (s.1+1))=zb1 a b (h.take s.1):=fun hn=>by
    unfold zb1
    rw [e1]
    unfold zhh
    rw [if_neg hn]; simp
   have take1:(0<(h[s.1].2.filter (zct a b)).length∨h[s.1].2.length=0)→zb1 a b (h.take (s.1+1))=zb1 a b (h.take s.1)++[(h[s.1].1,h[s.1].2.filter (zct a b))]:=fun hn=>by
    unfold zb1
    rw [e1]
    unfold zhh
    rw [if_pos hn]; rfl
   refine zbu (fun h0=>?_) (fun h0=>?_)
   rotate_left
   try simp only [sS]
   refine ldM (v:=fv) ?_ hbox
   try simp only [sS]
   refine zam hfv3a ?_
   try simp only [sS]
   refine zba (fun h9=>?_) (fun h9=>?_)
   rotate_left
   ·try simp only [sS]
    rw [zgz]
    refine zai (by omega) ?_
    refine next (s.1+1,s.2) _ _ (by simp only; omega) (fun hw5=>⟨_,za0 hw5,F4,M4,N4,rows3,rfl,hF4',by omega,hM4,hw4.m,i1,?_,?_⟩)
    ·simp only
     rw [skip (by omega)]; exact ho2
    ·simp only
     rw [skip (by omega)]; exact hr.mono fun _ _ h=>h.mono hF4
   all_goals
    try simp only [sS]
    refine ldM (v:=.int .u32 h[s.1].1) ?_ hbox
    refine zaa (v:=.agg #[.int .u32 h[s.1].1,v4]) (by rw [e5]; kernel_rfl) ?_
    refine zcq (new:=[.int .u32 h[s.1].1,v4]) ho2 hw4.m (by omega) (by rw [e5]; kernel_rfl) rfl he4.one.2 (by omega) (by unfold maxLen; omega) (fun p v' M5 N5 g1 g2 g3 g4=>?_)
    rw [zgz]
    refine zai (by omega) ?_
    refine next (s.1+1,v') _ _ (by simp only; omega) (fun hw5=>⟨_,za0 hw5,F4,M5,N5,rows3++[[.int .u32 h[s.1].1,v4]],rfl,hF4',by omega,fun q hq=>?_,g4,i1,?_,?_⟩)
    ·exact ((g2 q (fun e=>by have := (ho2.ge q e).1; omega) (by omega)).1).trans (hM4 q hq)
    ·simp only
     rw [take1 (by omega),List.length_append,List.length_singleton]
     exact (by simpa using g1:own M5 N 74 2 v' _ (rows3++[[.int .u32 h[s.1].1,v4]]).flatten)
    ·simp only
     rw [take1 (by omega)]
     exact zau (hr.mono fun _ _ h=>h.mono hF4) he4.one he4
  ·try simp only [sS]
   rw [List.take_of_length_le (by omega)] at ho hr
   have oR:=o.rest a b
   have F03:=F02.trans hF3
   obtain ⟨erows,hes1,hes2⟩:=hes.mono F03
   have hlay:∀ i,zbw (zbk (zb1 a b h) (es.take i))∧(zbk (zb1 a b h) (es.take i)).length≤9000000000∧∀ e∈zbk (zb1 a b h) (es.take i),e.2.length≤1000000:=fun i=>by
    have x1:=znv (es.take i) (zb1 a b h)
    have x2:=oR.le
    rw [List.length_take] at x1
    have x3:zbw (es.take i):=er1.sublist (List.take_sublist _ _)
    refine ⟨zh5 oR.rs,by omega,fun e he=>?_⟩
    have := zxe oR.rs x3 oR.fl (fun e he=>(zdu (er2 e (List.mem_of_mem_take he)).2.1).1) e he
    omega
   refine zam hes1 ?_
   refine zmv (σ:=Nat×Value) (fun s=>s.2) (fun s=>.int .i64 (s.1:Nat))
    (fun s h'=>∃ F' M' N' rows',h'=⟨F',M',N'⟩∧zac F3 F'∧N≤N'∧(∀ q,q<N→M' q=M q)∧za7 M' N'∧s.1≤es.length∧own M' N 74 2 s.2 (zbk (zb1 a b h) (es.take s.1)).length rows'.flatten∧zad (zcv F') 2 rows' (zbk (zb1 a b h) (es.take s.1))) (fun s=>es.length - s.1) (0,s.2) rfl rfl
    (fun hw4=>⟨_,za0 hw4,F3,M3,N3,rows3,rfl,zac.refl _,hN3,hM3,hm3,Nat.zero_le _,ho,hr⟩) (fun kk s j h1 hI hw4 next=>?_)
   rw [zmr]
   obtain ⟨F4,M4,N4,rows4,rfl,hF4,hN4,hM4,hm4,hi,ho,hr⟩:=hI
   obtain ⟨y1,y2,y3⟩:=hlay s.1
   refine zaf (fun hlt=>?_) (fun hge=>?_)
   ·have i1:s.1<es.length:=by omega
    have et:=yba (zb1 a b h) es i1
    obtain ⟨z1,z2,z3⟩:=er2 _ (List.getElem_mem i1)
    obtain ⟨f1,f2⟩:=zdu z2
    try simp only [sS]
    refine zcr (hes1.mono hF4) (hes2.mono fun _ _ h=>h.mono hF4) (by decide) i1 (fun p r _ hR hrl hr1=>?_)
    obtain ⟨fv,hre,hfv,hfl⟩:=hR
    subst hre
    refine zal (fun b4 hb4=>?_)
    refine stM (cs':=[.int .u32 es[s.1].1,fv]) ?_ (za5 _ _ _) rfl rfl hr1
    rw [zbe]
    have hbox:=za5 M4 b4 (some (.cells 74 [.int .u32 es[s.1].1,fv] [Value.int .u32 0,Value.slice none 0 0].length))
    have ho2:=ho.box hm4 hb4 (some (.cells 74 [.int .u32 es[s.1].1,fv] [Value.int .u32 0,Value.slice none 0 0].length))
    have hm5:=hm4.new hb4 (some (.cells 74 [.int .u32 es[s.1].1,fv] [Value.int .u32 0,Value.slice none 0 0].length))
    have hM5:∀ q,q<N→upd M4 b4 (some (.cells 74 [.int .u32 es[s.1].1,fv] [Value.int .u32 0,Value.slice none 0 0].length)) q=M q:=fun q hq=>(za4 _ _ (by omega)).trans (hM4 q hq)
    generalize upd M4 b4 _=M5 at *
    try simp only [sS]
    refine ldM (v:=fv) ?_ hbox
    have hfv':=hfv
    obtain ⟨frows,hfa,_⟩:=hfv'
    refine zam hfa ?_
    refine zbu (fun h0=>?_) (fun h0=>?_)
    ·try simp only [sS]
     refine ldM (v:=.int .u32 es[s.1].1) ?_ hbox
     try simp only [sS]
     refine ldM (v:=fv) ?_ hbox
     refine yif ho2 (by omega) hr y1 (by omega) y3 hfv (by omega) (fun f hf=>by have := zge (f2 f hf); omega) (fun v' F6 M6 N6 rows6 hF6 g1 g2 g3 g4 g5 g6=>?_)
     rw [zgh]
     refine zai (by omega) ?_
     have e3:zbk (zb1 a b h) (es.take (s.1+1))=withR (zbk (zb1 a b h) (es.take s.1)) es[s.1].1 es[s.1].2:=by
      rw [et]; unfold zg7; rw [if_pos (by omega)]
     refine next (s.1+1,v') _ _ (by simp only; omega) (fun hw5=>⟨_,za0 hw5,F6,M6,N6,rows6,rfl,hF4.trans hF6,by omega,fun q hq=>?_,g5,i1,?_,?_⟩)
     ·exact ((g3 q (fun e=>by have := (ho2.ge q e).1; omega) (by omega)).1).trans (hM5 q hq)
     ·simp only
      rw [e3]; exact g1
     ·simp only
      rw [e3]; exact g2
    ·try simp only [sS]
     rw [zgh]
     refine zai (by omega) ?_
     have e3:zbk (zb1 a b h) (es.take (s.1+1))=zbk (zb1 a b h) (es.take s.1):=by
      rw [et]; unfold zg7; rw [if_neg (by omega)]
     refine next (s.1+1,s.2) _ _ (by simp only; omega) (fun hw5=>⟨_,za0 hw5,F4,M5,_,rows4,rfl,hF4,by omega,hM5,hm5,i1,?_,?_⟩)
     ·simp only
      rw [e3]; exact ho2
     ·simp only
      rw [e3]; exact hr
   ·try simp only [sS]
    rw [List.take_of_length_le (by omega)] at ho hr y1 y2 y3
    have F04:=F03.trans hF4
    have hlo:za9 s.2=some (.int .i64 ((zbk (zb1 a b h) es).length:Nat)):=by obtain ⟨x,c,e,_⟩:=ho.form; rw [e]; rfl
    have bad:ze2 l a b h es=3→∀ N',N4≤N'→∀ h',h'=(⟨F4,M4,N'⟩:Hp)→h'.wf→∃ h'',h'.wk h''∧(h''.wf→K (.int .u16 3) h''):=fun e3 N' hN' h' e' hc=>by
     subst e'
     refine ⟨_,za0 hc,fun hw'=>?_⟩
     have := same (by omega) _ _ _ hw' F04 (by omega) hM4
     rw [e3] at this; exact this
    refine zaa hlo ?_
    refine zbu (fun h0=>?_) (fun h0=>?_)
    ·try simp only [sS]
     exact bad (by rw [hrE]; unfold zgm; rw [if_pos (.inl (by omega))]) N4 (Nat.le_refl _) _ rfl
    ·try simp only [sS]
     refine ym4 ho hr (by omega) (fun N5 hN5 hw5=>?_)
     cases hlg:zj5 (zbk (zb1 a b h) es)
     ·have e0:ze2 l a b h es=0:=by
       rw [hrE]; unfold zgm; rw [if_neg (by rintro (q | q); omega; rw [hlg] at q; cases q)]
      obtain ⟨xa,xc,xe,_⟩:=ho.form
      try simp only [sS]
      refine stM (cs':=[s.2,dv]) ?_ ((hM4 g hgN).trans hC.gg) (by rw [xe]; rfl) (by rw [xe]; rfl) (by rw [xe]; exact List.all_eq_true.1 rfl)
      have hsg:s.2.ownBlock≠some g:=fun e=>by have := (ho.ge g e).1; omega
      refine fun hc=>⟨_,za0 hc,fun hw'=>?_⟩
      rw [e0] at k
      refine k s.2 F4 _ N5 rows4 F04 ?_ (fun q hq hqg hqN=>⟨(za4 _ _ hqg).trans (hM4 q hqN),fun e=>by have := (ho.ge q e).1; omega⟩) (by omega) (za7.set hw5.m (by omega) _) hw'
      unfold zhi; rw [if_pos e0]
      exact ⟨za5 _ _ _,hgB,ho.keep (fun q hq=>za4 _ _ (fun e=>hsg (e ▸ hq))) hB,hr,hsg,hC.dd.mono F04,y1⟩
     ·try simp only [sS]
      exact bad (by rw [hrE]; unfold zgm; rw [if_pos (.inr hlg)]) N5 hN5 _ rfl
theorem zne {B:Nat} {e:TypeId} {sz n:Nat} {v:Value} {cs:List Value} (h:own M B e sz v n cs):∀ q,v.ownBlock=some q→∃ cs tot,M q=some (.cells e cs tot):=fun q hq=>by
 rcases h.2 with ⟨rfl,_⟩ | ⟨b,c,rest,rfl,_,_,_,h4⟩
 ·simp [Value.ownBlock] at hq
 ·simp [Value.ownBlock] at hq
  subst hq
  exact ⟨_,_,h4⟩
structure zbi (F:Nat→Option (List Value)) (M:Nat→Option zak) (B p g mb:Nat) (hv dv:Value) (rows:List (List Value)) (l:List Dm) (h:List En) (bs:Bts) (tk:Int):Prop where
 pp:M p=some (.cells 72 [.pointer (some ⟨g,0,none⟩),.map (some mb),.int .u32 tk] 3)
 pB:B≤p
 mB:B≤mb
 mm:∃ es,M mb=some (.obj (.map es bs.length))∧zfy F es bs
 cc:zg2 F M B g hv dv rows l h
section
variable {B p g mb:Nat} {hv dv:Value} {rows:List (List Value)} {l:List Dm} {h:List En} {bs:Bts} {tk:Int}
theorem zbi.keep (P:zbi F M B p g mb hv dv rows l h bs tk) (hF:zac F F') (hM:∀ q,q=p∨q=mb∨q=g∨hv.ownBlock=some q→M' q=M q):zbi F' M' B p g mb hv dv rows l h bs tk :=
 ⟨(hM p (.inl rfl)).trans P.pp,P.pB,P.mB,let ⟨es,h1,h2⟩:=P.mm; ⟨es,(hM mb (.inr (.inl rfl))).trans h1,h2.mono hF⟩,P.cc.keep hF (fun q hq=>hM q (.inr (.inr hq)))⟩
theorem zbi.lt (P:zbi F M B p g mb hv dv rows l h bs tk) (hm:za7 M N):∀ q,q=p∨q=mb∨q=g∨hv.ownBlock=some q→B≤q∧q<N:=fun q hq=>by
 rcases hq with rfl | rfl | hq
 ·exact ⟨P.pB,hm.lt P.pp⟩
 ·obtain ⟨es,h1,_⟩:=P.mm; exact ⟨P.mB,hm.lt h1⟩
 ·exact P.cc.lt hm q hq
theorem zbi.up (P:zbi F M B p g mb hv dv rows l h bs tk) (hm:za7 M N) (hF:zac F F') (hM:∀ q,q<N→M' q=M q):zbi F' M' B p g mb hv dv rows l h bs tk:=P.keep hF (fun q hq=>hM q (P.lt hm q hq).2)
theorem zbi.box (P:zbi F M B p g mb hv dv rows l h bs tk) (hm:za7 M N) {b:Nat} (hb:N≤b) (x:Option zak):zbi F (upd M b x) B p g mb hv dv rows l h bs tk:=P.up hm (zac.refl _) (fun q hq=>za4 _ _ (by omega))
theorem zbi.pg (P:zbi F M B p g mb hv dv rows l h bs tk):p≠g∧p≠mb∧mb≠g∧hv.ownBlock≠some p∧hv.ownBlock≠some mb:=by
 obtain ⟨es,h1,_⟩:=P.mm
 refine ⟨fun e=>?_,fun e=>?_,fun e=>?_,fun e=>?_,fun e=>?_⟩
 ·have := P.pp; rw [e,P.cc.gg] at this; cases this
 ·have := P.pp; rw [e,h1] at this; cases this
 ·have := P.cc.gg; rw [← e,h1] at this; cases this
 ·obtain ⟨c,t,h2⟩:=zne P.cc.oo p e; rw [P.pp] at h2; cases h2
 ·obtain ⟨c,t,h2⟩:=zne P.cc.oo mb e; rw [h1] at h2; cases h2
theorem yau {v:Value} (hv:zbl F v l) (hl:l.length≤140737488351232) (k1:zbh l=false→∀ N',N≤N'→(Hp.mk F M N').wf→K (.pointer none) ⟨F,M,N'⟩)
  (k2:zbh l=true→∀ p g mb dv F' M' N',zac F F'→zbi F' M' N p g mb (.slice none 0 0) dv [] l [] [] 0→(∀ q,q<N→M' q=M q)→N≤N'→za7 M' N'→(Hp.mk F' M' N').wf→K (.pointer (some ⟨p,0,none⟩)) ⟨F',M',N'⟩) :
  za2 Tryz.prog (.func (.func 13) #[] #[]) #[v] K E ⟨F,M,N⟩:=by
 refine za3 mixed Tryz.func13 (by kernel_rfl) (t13 _ E _) (fun hw=>?_)
 refine yny hv hl (fun h0 N1 hN1 hw1=>?_) (fun h0 g dv F1 M1 N1 hF hC hM1 hN1 hm1 hw1=>?_)
 ·refine zaa (v:=.bool true) rfl ?_
  try simp only [sS]
  exact fun hc=>⟨_,za0 hc,fun hw'=>k1 h0 _ hN1 hw'⟩
 ·refine zo9 ?_
  try simp only [sS]
  refine yjx (fun mb hmb=>?_)
  refine zaa (v:=.agg #[.pointer (some ⟨g,0,none⟩),.map (some mb),.int .u32 0]) (by kernel_rfl) ?_
  refine zal (cs:=[.pointer (some ⟨g,0,none⟩),.map (some mb),.int .u32 0]) (fun p hp=>?_)
  have hgN:=hC.lt hm1
  refine fun hc=>⟨_,za0 hc,fun hw'=>k2 h0 p g mb dv F1 _ _ hF ⟨za5 _ _ _,by omega,by omega,⟨#[],(za4 _ _ (by omega)).trans (za5 _ _ _),zfy.nil⟩,hC.keep (zac.refl _) (fun q hq=>?_)⟩ (fun q hq=>?_) (by omega) ((hm1.new hmb _).new hp _) hw'⟩
  ·have := (hgN q hq).2
   exact (za4 _ _ (by omega)).trans (za4 _ _ (by omega))
  ·exact ((za4 _ _ (by omega)).trans (za4 _ _ (by omega))).trans (hM1 q hq)
theorem zx4 {id:Int} (P:zbi F M B p g mb hv dv rows l h bs tk) (k:∀ N',N≤N'→(Hp.mk F M N').wf→K (.agg #[.int .u8 (zaw bs id).st,.int .u32 (zaw bs id).tm]) ⟨F,M,N'⟩) :
  za2 Tryz.prog (.func (.func 16) #[] #[]) #[.pointer (some ⟨p,0,none⟩),.int .u32 id] K E ⟨F,M,N⟩:=by
 refine za3 mixed Tryz.func16 (by kernel_rfl) (t16 _ E _ _) (fun hw=>?_)
 have hm:za7 M N:=hw.m
 refine zal (fun b1 hb1=>?_)
 have P1:=P.box hm hb1 (some (.cells 32 [.int .u8 0,.int .u32 0] 2))
 obtain ⟨es,h1,h2⟩:=P1.mm
 try simp only [sS]
 refine ldM (v:=.map (some mb)) ?_ P1.pp
 refine zph (id:=id) h1 h2 (fun v hv=>?_)
 obtain ⟨nv,fv,rfl,_⟩:=hv
 refine zaa (v:=.agg #[.int .u8 (zaw bs id).st,.int .u32 (zaw bs id).tm]) (by kernel_rfl) ?_
 refine stM (cs':=[.int .u8 (zaw bs id).st,.int .u32 (zaw bs id).tm]) ?_ (za5 _ _ _) rfl rfl (List.all_eq_true.1 rfl)
 rw [zbe]
 refine zas (vs:=[.int .u8 (zaw bs id).st,.int .u32 (zaw bs id).tm]) ?_ (za5 _ _ _)
 exact fun hc=>⟨⟨F,M,b1+1⟩,zbp hc (zav (zb6 _) (hm _ hb1)),fun hw'=>k _ (by omega) hw'⟩
theorem ycd {id:Int} (P:zbi F M B p g mb hv dv rows l h bs tk) (k:(Hp.mk F M N).wf→K (.bool (decide ((zaw bs id).st=1))) ⟨F,M,N⟩) :
  za2 Tryz.prog (.func (.func 41) #[] #[]) #[.pointer (some ⟨p,0,none⟩),.int .u32 id] K E ⟨F,M,N⟩:=by
 refine za3 mixed Tryz.func41 (by kernel_rfl) (t41 _ E _ _) (fun hw=>?_)
 obtain ⟨es,h1,h2⟩:=P.mm
 try simp only [sS]
 refine ldM (v:=.map (some mb)) ?_ P.pp
 refine zph (id:=id) h1 h2 (fun v hv=>?_)
 obtain ⟨nv,fv,rfl,_⟩:=hv
 refine zaa (v:=.agg #[.int .u8 (zaw bs id).st,.int .u32 (zaw bs id).tm]) (by kernel_rfl) ?_
 refine zaa (v:=.int .u8 (zaw bs id).st) (by kernel_rfl) ?_
 refine zba (fun h0=>?_) (fun h0=>?_)
 ·rw [decide_eq_true h0] at k
  exact fun hc=>⟨_,za0 hc,k⟩
 ·rw [decide_eq_false h0] at k
  exact fun hc=>⟨_,za0 hc,k⟩
theorem yh6 (P:zbi F M B p g mb hv dv rows l h bs tk) (k:(Hp.mk F M N).wf→K (.int .u32 tk) ⟨F,M,N⟩) :
  za2 Tryz.prog (.func (.func 23) #[] #[]) #[.pointer (some ⟨p,0,none⟩)] K E ⟨F,M,N⟩:=by
 refine za3 mixed Tryz.func23 (by kernel_rfl) (t23 _ E _) (fun hw=>?_)
 try simp only [sS]
 refine ldM (v:=.int .u32 tk) ?_ P.pp
 exact fun hc=>⟨_,za0 hc,k⟩
structure zcw where
 kind:Int
 id:Int
 tm:Int
 ns:List Int
 fs:List Fc
 lo:Int
 hi:Int
 es:List En
def zhd (F:Nat→Option (List Value)) (cs:List Value) (r:zcw):Prop:=∃ nv fv ep sv ev,cs=[.int .u8 r.kind,.int .u32 r.id,.int .u32 r.tm,nv,fv,ep,sv,.int .i64 r.lo,.int .i64 r.hi,ev]∧sF F 1 nv r.ns.length (ic r.ns)∧zar F fv r.fs∧zcb F ev r.es∧ep.oneCell'=true∧sv.oneCell'=true
theorem zhd.mono {cs:List Value} {r:zcw} (h:zhd F cs r) (hF:zac F F'):zhd F' cs r :=
 let ⟨nv,fv,ep,sv,ev,e,h1,h2,h3,h4⟩:=h; ⟨nv,fv,ep,sv,ev,e,h1.mono hF,h2.mono hF,h3.mono hF,h4⟩
theorem zhd.one {cs:List Value} {r:zcw} (h:zhd F cs r):cs.length=10∧∀ c∈cs,c.oneCell'=true:=by
 obtain ⟨nv,fv,ep,sv,ev,rfl,h1,h2,h3,h4,h5⟩:=h
 obtain ⟨a1,c1,rfl,_⟩:=h1.form
 obtain ⟨a2,c2,rfl⟩:=h2.form
 obtain ⟨a3,c3,rfl⟩:=h3.form
 refine ⟨rfl,fun c hc=>?_⟩
 simp only [List.mem_cons,List.not_mem_nil,or_false] at hc
 rcases hc with rfl | rfl | rfl | rfl | rfl | rfl | rfl | rfl | rfl | rfl<;>first | rfl | assumption
def abE (bs:Bts) (r:zcw):Nat:=if (zaw bs r.id).st>1 then 140 else 0
def abS (bs:Bts) (r:zcw):Bts:=if (zaw bs r.id).st>1 then bs else zdw bs r.id ⟨3,0,[],[]⟩
theorem ygu {cs:List Value} {r:zcw} (P:zbi F M B p g mb hv dv rows l h bs tk) (hr:zhd F cs r) (h0:0≤r.id) (h1:r.id<4294967296)
  (k:∀ M' N',zbi F M' B p g mb hv dv rows l h (abS bs r) tk→(∀ q,q≠mb→q<N→M' q=M q)→N≤N'→za7 M' N'→(Hp.mk F M' N').wf→K (.int .u16 ((abE bs r:Nat):Int)) ⟨F,M',N'⟩) :
  za2 Tryz.prog (.func (.func 33) #[] #[]) #[.pointer (some ⟨p,0,none⟩),.agg cs.toArray] K E ⟨F,M,N⟩:=by
 refine za3 mixed Tryz.func33 (by kernel_rfl) (t33 _ E _ _) (fun hw=>?_)
 have hm:za7 M N:=hw.m
 have hone:=hr.one
 refine zal (cs:=cs) (fun b1 hb1=>?_) rfl
 obtain ⟨nv,fv,ep,sv,ev,e,hn,hf,he,_⟩:=hr
 have hb:=za5 M b1 (some (.cells 44 cs cs.length))
 have P1:=P.box hm hb1 (some (.cells 44 cs cs.length))
 have hm1:=hm.new hb1 (some (.cells 44 cs cs.length))
 have hM1:∀ q,q<N→upd M b1 (some (.cells 44 cs cs.length)) q=M q:=fun q hq=>za4 _ _ (by omega)
 subst e
 generalize upd M b1 _=M1 at *
 obtain ⟨es,h2,h3⟩:=P1.mm
 have hpn:=P1.pg
 have hmbN:=(P.lt hm mb (.inr (.inl rfl))).2
 try simp only [sS]
 refine ldM (v:=.map (some mb)) ?_ P1.pp
 refine ldM (v:=.int .u32 r.id) ?_ hb
 refine zph (id:=r.id) h2 h3 (fun v hv=>?_)
 obtain ⟨nv',fv',rfl,_⟩:=hv
 refine zaa (v:=.agg #[.int .u8 (zaw bs r.id).st,.int .u32 (zaw bs r.id).tm]) (by kernel_rfl) ?_
 refine zaa (v:=.int .u8 (zaw bs r.id).st) (by kernel_rfl) ?_
 refine zbu (fun hg=>?_) (fun hg=>?_)
 ·try simp only [sS]
  refine fun hc=>⟨_,za0 hc,fun hw'=>?_⟩
  have := k M1 (b1+1) (by unfold abS; rw [if_pos hg]; exact P1) (fun q _ hq=>hM1 q hq) (by omega) hm1 hw'
  unfold abE at this; rw [if_pos hg] at this; exact this
 ·try simp only [sS]
  refine ldM (v:=.map (some mb)) ?_ P1.pp
  refine ldM (v:=.int .u32 r.id) ?_ hb
  refine zaa (v:=.agg #[.int .u8 3,.int .u32 0]) (by kernel_rfl) ?_
  refine zaa (v:=.agg #[.int .u8 3,.int .u32 0,.slice none 0 0,.slice none 0 0]) (by kernel_rfl) ?_
  refine ydw (b:=⟨3,0,[],[]⟩) h2 h3 ⟨_,_,rfl,sF.nil _ _ _,zar.nil⟩ h0 h1 (fun es' hes'=>?_)
  refine fun hc=>⟨_,za0 hc,fun hw'=>?_⟩
  have := k _ (b1+1) (by unfold abS; rw [if_neg hg]; exact ⟨(za4 _ _ hpn.2.1).trans P1.pp,P.pB,P.mB,⟨es',za5 _ _ _,hes'⟩,P1.cc.keep (zac.refl _) (fun q hq=>za4 _ _ (fun e=>by subst e; rcases hq with hq | hq; exact hpn.2.2.1 hq; exact hpn.2.2.2.2 hq))⟩) (fun q hq hqN=>(za4 _ _ hq).trans (hM1 q hqN)) (by omega) (hm1.set (by omega) _) hw'
  unfold abE at this; rw [if_neg hg] at this; exact this
end
section
variable {B p g mb:Nat} {hv dv:Value} {rows:List (List Value)} {l:List Dm} {h:List En} {bs:Bts} {tk:Int}
def pfr (M M':Nat→Option zak) (N p g mb:Nat) (hv hv':Value):Prop:=∀ q,hv.ownBlock≠some q→q≠g→q≠mb→q≠p→q<N→M' q=M q∧hv'.ownBlock≠some q
def cmE (l:List Dm) (h:List En) (bs:Bts) (r:zcw):Nat:=if (zaw bs r.id).st=1 then zew l h r.tm (zaw bs r.id).fs else 140
def cmH (l:List Dm) (h:List En) (bs:Bts) (r:zcw):List En:=if (zaw bs r.id).st=1 then zj6 l h r.tm (zaw bs r.id).fs else h
def cmS (l:List Dm) (h:List En) (bs:Bts) (r:zcw):Bts:=if cmE l h bs r=0 then zdw bs r.id ⟨2,r.tm,[],[]⟩ else bs
set_option maxRecDepth 10000 in
theorem yfp {cs:List Value} {r:zcw} (P:zbi F M B p g mb hv dv rows l h bs tk) (hB:B≤N) (hdl:l.length≤1000) (hl:h.length≤5000) (hr:zhd F cs r) (h0:0≤r.id) (h1:r.id<4294967296) (ht:0≤r.tm) (hfl:(zaw bs r.id).fs.length≤140737488351232)
  (k:∀ hv' F' M' N' rows',zac F F'→zbi F' M' B p g mb hv' dv rows' l (cmH l h bs r) (cmS l h bs r) tk→pfr M M' N p g mb hv hv'→N≤N'→za7 M' N'→(Hp.mk F' M' N').wf→K (.int .u16 ((cmE l h bs r:Nat):Int)) ⟨F',M',N'⟩) :
  za2 Tryz.prog (.func (.func 32) #[] #[]) #[.pointer (some ⟨p,0,none⟩),.agg cs.toArray] K E ⟨F,M,N⟩:=by
 refine za3 mixed Tryz.func32 (by kernel_rfl) (t32 _ E _ _) (fun hw=>?_)
 have hm:za7 M N:=hw.m
 have hone:=hr.one
 refine zal (cs:=cs) (fun b1 hb1=>?_) rfl
 obtain ⟨nv,fv,ep,sv,ev,e,hn,hf,he,_⟩:=hr
 have hb:=za5 M b1 (some (.cells 44 cs cs.length))
 have P1:=P.box hm hb1 (some (.cells 44 cs cs.length))
 have hm1:=hm.new hb1 (some (.cells 44 cs cs.length))
 have hM1:∀ q,q<N→upd M b1 (some (.cells 44 cs cs.length)) q=M q:=fun q hq=>za4 _ _ (by omega)
 subst e
 generalize upd M b1 _=M1 at *
 obtain ⟨es,h2,h3⟩:=P1.mm
 have hpn:=P1.pg
 have hpl:=P.lt hm
 have hvb:hv.ownBlock≠some b1:=fun e=>by have := (hpl b1 (.inr (.inr (.inr e)))).2; omega
 have hbg:b1≠g:=fun e=>by have := (hpl g (.inr (.inr (.inl rfl)))).2; omega
 try simp only [sS]
 refine ldM (v:=.int .u32 r.id) ?_ hb
 refine ycd P1 (fun hw1=>?_)
 by_cases hs:(zaw bs r.id).st=1
 ·have eE:cmE l h bs r=zew l h r.tm (zaw bs r.id).fs:=by unfold cmE; rw [if_pos hs]
  have eH:cmH l h bs r=zj6 l h r.tm (zaw bs r.id).fs:=by unfold cmH; rw [if_pos hs]
  rw [decide_eq_true hs]
  try simp only [sS]
  refine ldM (v:=.pointer (some ⟨g,0,none⟩)) ?_ P1.pp
  refine ldM (v:=.int .u32 r.tm) ?_ hb
  try simp only [sS]
  refine ldM (v:=.map (some mb)) ?_ P1.pp
  refine ldM (v:=.int .u32 r.id) ?_ hb
  refine zph (id:=r.id) h2 h3 (fun v hv'=>?_)
  obtain ⟨nv',fv',rfl,_,hf'⟩:=hv'
  refine ⟨zao (zaq hb) rfl,zao (zaq P1.pp) rfl,?_⟩
  refine zaa (v:=fv') (by kernel_rfl) ?_
  refine yhh P1.cc (by omega) hdl hl ht hf' hfl (fun hv2 F2 M2 N2 rows2 hF2 hC2 hM2 hN2 hm2 hw2=>?_)
  have hMp:=hM2 p hpn.2.2.2.1 hpn.1 (by have := (hpl p (.inl rfl)).2; omega)
  have hMm:=hM2 mb hpn.2.2.2.2 hpn.2.2.1 (by have := (hpl mb (.inr (.inl rfl))).2; omega)
  have hMb:=hM2 b1 hvb hbg (by omega)
  have hb2:=hMb.1.trans hb
  have P2:zbi F2 M2 B p g mb hv2 dv rows2 l (zj6 l h r.tm (zaw bs r.id).fs) bs tk:=⟨hMp.1.trans P1.pp,P.pB,P.mB,⟨es,hMm.1.trans h2,h3.mono hF2⟩,hC2⟩
  refine zc9 (fun hne=>?_) (fun hne=>?_)
  ·try simp only [sS]
   refine fun hc=>⟨_,za0 hc,fun hw'=>?_⟩
   rw [← eE]
   refine k hv2 F2 M2 N2 rows2 hF2 ?_ (fun q q1 q2 _ _ q3=>?_) (by omega) hm2 hw'
   ·rw [eH]; unfold cmS; rw [if_neg (by rw [eE]; omega)]; exact P2
   ·obtain ⟨x1,x2⟩:=hM2 q q1 q2 (by omega)
    exact ⟨x1.trans (hM1 q q3),x2⟩
  ·have e0:zew l h r.tm (zaw bs r.id).fs=0:=by omega
   try simp only [sS]
   refine ldM (v:=.map (some mb)) ?_ P2.pp
   refine ldM (v:=.int .u32 r.id) ?_ hb2
   refine ldM (v:=.int .u32 r.tm) ?_ hb2
   refine zaa (v:=.agg #[.int .u8 2,.int .u32 r.tm]) (by kernel_rfl) ?_
   refine zaa (v:=.agg #[.int .u8 2,.int .u32 r.tm,.slice none 0 0,.slice none 0 0]) (by kernel_rfl) ?_
   refine ydw (b:=⟨2,r.tm,[],[]⟩) (hMm.1.trans h2) (h3.mono hF2) ⟨_,_,rfl,sF.nil _ _ _,zar.nil⟩ h0 h1 (fun es' hes'=>?_)
   have hpn2:=P2.pg
   refine fun hc=>⟨_,za0 hc,fun hw'=>?_⟩
   have := k hv2 F2 _ N2 rows2 hF2 (by
    rw [eH]; unfold cmS; rw [if_pos (by rw [eE,e0])]
    exact ⟨(za4 _ _ hpn2.2.1).trans P2.pp,P.pB,P.mB,⟨es',za5 _ _ _,hes'⟩,hC2.keep (zac.refl _) (fun q hq=>za4 _ _ (fun e=>by subst e; rcases hq with hq | hq; exact hpn2.2.2.1 hq; exact hpn2.2.2.2.2 hq))⟩) (fun q q1 q2 q4 _ q3=>by
     obtain ⟨x1,x2⟩:=hM2 q q1 q2 (by omega)
     exact ⟨(za4 _ _ q4).trans (x1.trans (hM1 q q3)),x2⟩) (by omega) (hm2.set (hm2.lt (hMm.1.trans h2)) _) hw'
   rw [eE,e0] at this; exact this
 ·rw [decide_eq_false hs]
  try simp only [sS]
  refine fun hc=>⟨_,za0 hc,fun hw'=>?_⟩
  have eE:cmE l h bs r=140:=by unfold cmE; rw [if_neg hs]
  have := k hv F M1 (b1+1) rows (zac.refl _) (by unfold cmH cmS; rw [if_neg hs,if_neg (by rw [eE]; decide)]; exact P1) (fun q q1 _ _ _ q3=>⟨hM1 q q3,q1⟩) (by omega) hm1 hw'
  rw [eE] at this; exact this
def tkE (l:List Dm) (h:List En) (tk:Int) (r:zcw):Nat:=if r.id≤tk then 140 else ze2 l r.lo r.hi h r.es
def tkH (l:List Dm) (h:List En) (tk:Int) (r:zcw):List En:=if r.id≤tk then h else zhi l r.lo r.hi h r.es
def tkT (l:List Dm) (h:List En) (tk:Int) (r:zcw):Int:=if tkE l h tk r=0 then r.id else tk
set_option maxRecDepth 10000 in
theorem yl4 {cs:List Value} {r:zcw} (P:zbi F M B p g mb hv dv rows l h bs tk) (hB:B≤N) (o:okH l 5000 200 h) (hdl:l.length≤1000) (hr:zhd F cs r) (hel:r.es.length≤140737488351232) (heT:∀ e∈r.es,e.1<4294967296)
  (k:∀ hv' F' M' N' rows',zac F F'→zbi F' M' B p g mb hv' dv rows' l (tkH l h tk r) bs (tkT l h tk r)→pfr M M' N p g mb hv hv'→N≤N'→za7 M' N'→(Hp.mk F' M' N').wf→K (.int .u16 ((tkE l h tk r:Nat):Int)) ⟨F',M',N'⟩) :
  za2 Tryz.prog (.func (.func 34) #[] #[]) #[.pointer (some ⟨p,0,none⟩),.agg cs.toArray] K E ⟨F,M,N⟩:=by
 refine za3 mixed Tryz.func34 (by kernel_rfl) (t34 _ E _ _) (fun hw=>?_)
 have hm:za7 M N:=hw.m
 refine zal (cs:=cs) (fun b1 hb1=>?_) rfl
 obtain ⟨nv,fv,ep,sv,ev,e,hn,hf,he,_⟩:=hr
 have hb:=za5 M b1 (some (.cells 44 cs cs.length))
 have P1:=P.box hm hb1 (some (.cells 44 cs cs.length))
 have hm1:=hm.new hb1 (some (.cells 44 cs cs.length))
 have hM1:∀ q,q<N→upd M b1 (some (.cells 44 cs cs.length)) q=M q:=fun q hq=>za4 _ _ (by omega)
 subst e
 generalize upd M b1 _=M1 at *
 obtain ⟨es,h2,h3⟩:=P1.mm
 have hpn:=P1.pg
 have hpl:=P.lt hm
 have hvb:hv.ownBlock≠some b1:=fun e=>by have := (hpl b1 (.inr (.inr (.inr e)))).2; omega
 have hbg:b1≠g:=fun e=>by have := (hpl g (.inr (.inr (.inl rfl)))).2; omega
 try simp only [sS]
 refine ldM (v:=.int .u32 r.id) ?_ hb
 refine ldM (v:=.int .u32 tk) ?_ P1.pp
 refine zfd (fun hle=>?_) (fun hle=>?_)
 ·have eE:tkE l h tk r=140:=by unfold tkE; rw [if_pos hle]
  try simp only [sS]
  refine fun hc=>⟨_,za0 hc,fun hw'=>?_⟩
  have := k hv F M1 (b1+1) rows (zac.refl _) (by unfold tkH tkT; rw [if_pos hle,if_neg (by rw [eE]; decide)]; exact P1) (fun q q1 _ _ _ q3=>⟨hM1 q q3,q1⟩) (by omega) hm1 hw'
  rw [eE] at this; exact this
 ·have eE:tkE l h tk r=ze2 l r.lo r.hi h r.es:=by unfold tkE; rw [if_neg hle]
  have eH:tkH l h tk r=zhi l r.lo r.hi h r.es:=by unfold tkH; rw [if_neg hle]
  try simp only [sS]
  refine ldM (v:=.pointer (some ⟨g,0,none⟩)) ?_ P1.pp
  refine ldM (v:=.int .i64 r.lo) ?_ hb
  refine ldM (v:=.int .i64 r.hi) ?_ hb
  refine ldM (v:=ev) ?_ hb
  refine yd9 P1.cc (by omega) o hdl he hel heT (fun hv2 F2 M2 N2 rows2 hF2 hC2 hM2 hN2 hm2 hw2=>?_)
  have hMp:=hM2 p hpn.2.2.2.1 hpn.1 (by have := (hpl p (.inl rfl)).2; omega)
  have hMm:=hM2 mb hpn.2.2.2.2 hpn.2.2.1 (by have := (hpl mb (.inr (.inl rfl))).2; omega)
  have hMb:=hM2 b1 hvb hbg (by omega)
  have hb2:=hMb.1.trans hb
  have P2:zbi F2 M2 B p g mb hv2 dv rows2 l (zhi l r.lo r.hi h r.es) bs tk:=⟨hMp.1.trans P1.pp,P.pB,P.mB,⟨es,hMm.1.trans h2,h3.mono hF2⟩,hC2⟩
  refine zba (fun heq=>?_) (fun heq=>?_)
  ·have e0:tkE l h tk r=0:=by rw [eE]; omega
   try simp only [sS]
   refine ldM (v:=.int .u32 r.id) ?_ hb2
   refine stM (cs':=[.pointer (some ⟨g,0,none⟩),.map (some mb),.int .u32 r.id]) ?_ P2.pp rfl rfl (List.all_eq_true.1 rfl)
   rw [zqs]
   have hpn2:=P2.pg
   refine fun hc=>⟨_,za0 hc,fun hw'=>?_⟩
   rw [← eE]
   refine k hv2 F2 _ N2 rows2 hF2 ?_ (fun q q1 q2 _ q5 q3=>?_) (by omega) (hm2.set (hm2.lt P2.pp) _) hw'
   ·rw [eH]; unfold tkT; rw [if_pos e0]
    exact ⟨za5 _ _ _,P.pB,P.mB,⟨es,(za4 _ _ (fun e=>hpn.2.1 e.symm)).trans (hMm.1.trans h2),h3.mono hF2⟩,hC2.keep (zac.refl _) (fun q hq=>za4 _ _ (fun e=>by subst e; rcases hq with hq | hq; exact hpn2.1 hq; exact hpn2.2.2.2.1 hq))⟩
   ·obtain ⟨x1,x2⟩:=hM2 q q1 q2 (by omega)
    exact ⟨(za4 _ _ q5).trans (x1.trans (hM1 q q3)),x2⟩
  ·have e0:tkE l h tk r≠0:=by rw [eE]; omega
   try simp only [sS]
   rw [zqs]
   refine fun hc=>⟨_,za0 hc,fun hw'=>?_⟩
   rw [← eE]
   refine k hv2 F2 M2 N2 rows2 hF2 ?_ (fun q q1 q2 _ _ q3=>?_) (by omega) hm2 hw'
   ·rw [eH]; unfold tkT; rw [if_neg e0]; exact P2
   ·obtain ⟨x1,x2⟩:=hM2 q q1 q2 (by omega)
    exact ⟨x1.trans (hM1 q q3),x2⟩
end
theorem ycg {v:Value} {l:List Int} (hm0:∀ q,N≤q→M q=none) (hv:sR F M 1 v l.length (ic l)) (hl:l.length≤17592186043904)
  (k:∀ v' F' N',(Hp.mk F' M N').wf→zac F F'→N≤N'→sF F' 1 v' l.length (ic l)→K v' ⟨F',M,N'⟩):za2 Tryz.prog (.func (.func 65) #[] #[]) #[v] K E ⟨F,M,N⟩:=by
 refine za3 mixed Tryz.func65 (by kernel_rfl) (t65 _ E _) (fun hw=>?_)
 obtain ⟨a,c,rfl,hc⟩:=hv.form
 cases a with
 | none=>
  have h0:l.length=0:=by rcases hv.2 with ⟨a',c',h1,h2⟩ | ⟨b,o,c',cs,h1,_⟩; exact h2; simp at h1
  have hl0:l=[]:=List.eq_nil_of_length_eq_zero h0
  refine zaa rfl (zdd fun hc=>⟨_,za0 hc,fun hw'=>k _ F N hw' (zac.refl _) (Nat.le_refl _) ?_⟩)
  rw [hl0]; exact sF.nil _ _ _
 | some ad=>
  refine zaa rfl (zc8 ?_)
  refine zde (cs:=[]) (by kernel_rfl) (fun b0 hb0=>?_)
  refine ya5 (n:=0) (cs:=[]) (m:=l.length) (news:=ic l) (yah (za5 _ _ _) rfl) (hv.new hw.m hb0).read (zg5 _) (by omega) (by simp [maxLen]; omega) (fun h=>by cases h) (fun _ b c' hb hmc hcm hc=>?_)
  have hb':N≤b:=by rcases hb with h | h; omega; simp [Value.ownBlock] at h; omega
  rw [Nat.zero_add] at hmc
  refine ⟨⟨upd F b (some (ic l)),M,max (b0+1) (b+1)⟩,yg5 (M0:=M) hc ?_ (hm0 b hb') (za5 _ _ _),fun hw'=>k _ _ _ hw' (zac.upd (hw.f b hb')) (by omega) ?_⟩
  ·intro q c hq
   have hqN:q<N:=by
    rcases Nat.lt_or_ge q N with h | h
    ·exact h
    ·rw [hm0 q h] at hq; cases hq
   exact (za4 _ _ (by omega)).trans ((zlp _ (by simp [Value.ownBlock]; omega)).trans ((za4 _ _ (by omega)).trans hq))
  ·rw [Nat.zero_add]
   exact ya8 (by simp [ic]) hmc
section
variable {B p g mb:Nat} {hv dv:Value} {rows:List (List Value)} {l:List Dm} {h:List En} {bs:Bts} {tk:Int}
def ppE (l:List Dm) (bs:Bts) (r:zcw):Nat:=if (zaw bs r.id).st≠0 then 140 else if zd1 l r.fs=false then 1 else 0
def ppS (l:List Dm) (bs:Bts) (r:zcw):Bts:=if ppE l bs r=0 then zdw bs r.id ⟨1,0,r.ns,r.fs⟩ else bs
set_option maxRecDepth 10000 in
set_option maxHeartbeats 4000000 in
theorem yld {cs:List Value} {r:zcw} (P:zbi F M B p g mb hv dv rows l h bs tk) (hdl:l.length≤1000) (hr:zhd F cs r) (h0:0≤r.id) (h1:r.id<4294967296) (hnl:r.ns.length≤17592186043904) (hfl:r.fs.length≤140737488351232)
  (k:∀ F' M' N',zac F F'→zbi F' M' B p g mb hv dv rows l h (ppS l bs r) tk→(∀ q,q≠mb→q<N→M' q=M q)→N≤N'→za7 M' N'→(Hp.mk F' M' N').wf→K (.int .u16 ((ppE l bs r:Nat):Int)) ⟨F',M',N'⟩) :
  za2 Tryz.prog (.func (.func 31) #[] #[]) #[.pointer (some ⟨p,0,none⟩),.agg cs.toArray] K E ⟨F,M,N⟩:=by
 refine za3 mixed Tryz.func31 (by kernel_rfl) (t31 _ E _ _) (fun hw=>?_)
 have hm:za7 M N:=hw.m
 refine zal (cs:=cs) (fun b1 hb1=>?_) rfl
 obtain ⟨nv,fv,ep,sv,ev,e,hn,hf,he,_⟩:=hr
 have hb:=za5 M b1 (some (.cells 44 cs cs.length))
 have P1:=P.box hm hb1 (some (.cells 44 cs cs.length))
 have hm1:=hm.new hb1 (some (.cells 44 cs cs.length))
 have hM1:∀ q,q<N→upd M b1 (some (.cells 44 cs cs.length)) q=M q:=fun q hq=>za4 _ _ (by omega)
 subst e
 generalize upd M b1 _=M1 at *
 obtain ⟨es,h2,h3⟩:=P1.mm
 have hpl:=P.lt hm
 try simp only [sS]
 refine ldM (v:=.map (some mb)) ?_ P1.pp
 refine ldM (v:=.int .u32 r.id) ?_ hb
 refine zph (id:=r.id) h2 h3 (fun v hv=>?_)
 obtain ⟨nv',fv',rfl,_⟩:=hv
 refine zaa (v:=.agg #[.int .u8 (zaw bs r.id).st,.int .u32 (zaw bs r.id).tm]) (by kernel_rfl) ?_
 refine zaa (v:=.int .u8 (zaw bs r.id).st) (by kernel_rfl) ?_
 refine zc9 (fun hg=>?_) (fun hg=>?_)
 ·have eE:ppE l bs r=140:=by unfold ppE; rw [if_pos hg]
  try simp only [sS]
  refine fun hc=>⟨_,za0 hc,fun hw'=>?_⟩
  have := k F M1 (b1+1) (zac.refl _) (by unfold ppS; rw [if_neg (by rw [eE]; decide)]; exact P1) (fun q _ hq=>hM1 q hq) (by omega) hm1 hw'
  rw [eE] at this; exact this
 try simp only [sS]
 refine ldM (v:=.pointer (some ⟨g,0,none⟩)) ?_ P1.pp
 refine ldM (v:=fv) ?_ hb
 refine zsg P1.cc.gg P1.cc.dd (by omega) hf hfl (fun N2 hN2 hw2=>?_)
 cases hfit:zd1 l r.fs
 ·have eE:ppE l bs r=1:=by unfold ppE; rw [if_neg hg,if_pos hfit]
  try simp only [sS]
  refine fun hc=>⟨_,za0 hc,fun hw'=>?_⟩
  have := k F M1 N2 (zac.refl _) (by unfold ppS; rw [if_neg (by rw [eE]; decide)]; exact P1) (fun q _ hq=>hM1 q hq) (by omega) hw'.m hw'
  rw [eE] at this; exact this
 have eE:ppE l bs r=0:=by unfold ppE; rw [if_neg hg,if_neg (by rw [hfit]; decide)]
 obtain ⟨f1,f2⟩:=zdu hfit
 try simp only [sS]
 refine zaa (v:=.agg #[.int .u8 1,.int .u32 0]) (by kernel_rfl) ?_
 refine ldM (v:=nv) ?_ hb
 refine ycg hw2.m hn.sR (by omega) (fun nv2 F3 N3 hw3 hF3 hN3 hn2=>?_)
 obtain ⟨a3,c3,e3,_⟩:=hn2.form
 refine zaa (v:=.agg #[.int .u8 1,.int .u32 0,nv2,.slice none 0 0]) (by rw [e3]; kernel_rfl) ?_
 refine zal (fun b3 hb3=>?_)
 refine stM (cs':=[.int .u8 1,.int .u32 0,nv2,.slice none 0 0]) ?_ (za5 _ _ _) rfl rfl (by rw [e3]; exact List.all_eq_true.1 rfl)
 rw [zbe]
 obtain ⟨M3,hM3⟩:∃ M3,M3=upd M1 b3 (some (.cells 95 [.int .u8 1,.int .u32 0,nv2,.slice none 0 0] [Value.int .u8 0,Value.int .u32 0,Value.slice none 0 0,Value.slice none 0 0].length)):=⟨_,rfl⟩
 rw [← hM3]
 have hbx:M3 b3=some (.cells 95 [.int .u8 1,.int .u32 0,nv2,.slice none 0 0] 4):=by rw [hM3]; exact za5 _ _ _
 have hM31:∀ q,q<b3→M3 q=M1 q:=fun q hq=>by rw [hM3]; exact za4 _ _ (by omega)
 have hm3:za7 M3 (b3+1):=by rw [hM3]; exact (show za7 M1 N3 from hw3.m).new hb3 _
 clear hM3
 have hb13:b1<b3:=by omega
 refine ldM (v:=fv) ?_ ((hM31 b1 hb13).trans hb)
 have hf3:=hf.mono hF3
 have hlf:za9 fv=some (.int .i64 (r.fs.length:Nat)):=by obtain ⟨a,c,e⟩:=hf3.form; rw [e]; rfl
 refine zaa hlf ?_
 obtain ⟨frows,hf4,hf5⟩:=hf3
 refine zpw (σ:=Nat) (fun i=>.int .i64 (i:Nat))
  (fun i h'=>∃ F' M' N' fv',h'=⟨F',M',N'⟩∧zac F3 F'∧b3+1≤N'∧(∀ q,q<b3→M' q=M3 q)∧za7 M' N'∧i≤r.fs.length∧M' b3=some (.cells 95 [.int .u8 1,.int .u32 0,nv2,fv'] 4) ∧
   ((i<r.fs.length∧∃ rows',own M' (b3+1) 90 2 fv' i rows'.flatten∧zad (zc1 F') 2 rows' (r.fs.take i))∨(i=r.fs.length∧zar F' fv' r.fs))) (fun i=>r.fs.length - i) 0 rfl
  (fun hw4=>⟨_,za0 hw4,F3,M3,b3+1,.slice none 0 0,rfl,zac.refl _,Nat.le_refl _,fun _ _=>rfl,hm3,Nat.zero_le _,hbx,by
   by_cases hz:0<r.fs.length
   ·exact .inl ⟨hz,[],own.nil,zad.nil _ _⟩
   ·have e0:r.fs=[]:=List.eq_nil_of_length_eq_zero (by omega)
    refine .inr ⟨by omega,?_⟩
    rw [e0]; exact zar.nil⟩) (fun kk i j h' hI hw4 next=>?_)
 rw [zq3]
 obtain ⟨F4,M4,N4,fv',rfl,hF4,hN4,hM4,hm4,hi,hbx4,hst⟩:=hI
 refine zaf (fun hlt=>?_) (fun hge=>?_)
 ·have i1:i<r.fs.length:=by omega
  rcases hst with ⟨_,rows',ho,hrr⟩ | ⟨hz,_⟩
  rotate_left
  ·omega
  try simp only [sS]
  refine zcr (hf4.mono hF4) (hf5.mono fun _ _ h=>h.mono hF4) (by decide) i1 (fun q rw _ hR hrl hr1=>?_)
  obtain ⟨kv,hre,hkv,hkl⟩:=hR
  subst hre
  refine zal (fun b4 hb4=>?_)
  refine stM (cs':=[kv,.int .i64 r.fs[i].2]) ?_ (za5 _ _ _) rfl rfl hr1
  rw [zbe]
  obtain ⟨M5,hM5⟩:∃ M5,M5=upd M4 b4 (some (.cells 90 [kv,.int .i64 r.fs[i].2] [Value.slice none 0 0,Value.int .i64 0].length)):=⟨_,rfl⟩
  rw [← hM5]
  have hb5:M5 b4=some (.cells 90 [kv,.int .i64 r.fs[i].2] 2):=by rw [hM5]; exact za5 _ _ _
  have hM54:∀ q,q<N4→M5 q=M4 q:=fun q hq=>by rw [hM5]; exact za4 _ _ (by omega)
  have hm5:za7 M5 (b4+1):=by rw [hM5]; exact hm4.new hb4 _
  have ho5:own M5 (b3+1) 90 2 fv' i rows'.flatten:=ho.keep (fun q hq=>hM54 q (ho.lt hm4 q hq)) (Nat.le_refl _)
  have hbx5:=(hM54 b3 (by omega)).trans hbx4
  clear hM5
  try simp only [sS]
  refine ldM (v:=fv') ?_ hbx5
  try simp only [sS]
  refine ldM (v:=kv) ?_ hb5
  try simp only [sS]
  refine ldM (v:=.int .i64 r.fs[i].2) ?_ hb5
  have hki:=zge (f2 r.fs[i] (List.getElem_mem i1))
  refine zmg hm5 hkv.sR (by omega) (fun kv' F6 N6 hw6 hF6 hN6 hkv'=>?_)
  refine ⟨zao (zaq hb5) rfl,zao (zaq hbx5) rfl,?_⟩
  have h1f:zc1 F6 [kv',.int .i64 r.fs[i].2] r.fs[i]:=⟨kv',rfl,hkv',hkl⟩
  obtain ⟨ak,ck,hkf,hck⟩:=hkv'.form
  refine zaa (v:=.agg #[kv',.int .i64 r.fs[i].2]) (by rw [hkf]; kernel_rfl) ?_
  refine zde (cs:=[kv',.int .i64 r.fs[i].2]) (by rw [hkf]; kernel_rfl) (fun b6 hb6=>?_)
  have hm6:za7 M5 N6:=hw6.m
  refine ⟨zao (zaq ((za4 _ _ (by omega)).trans hbx5)) rfl,?_⟩
  have ho6:=ho5.box hm6 hb6 (some (.cells 90 [kv',.int .i64 r.fs[i].2] [kv',Value.int .i64 r.fs[i].2].length))
  refine ho6.app (m:=1) (news:=[kv',.int .i64 r.fs[i].2]) (hm6.new hb6 _) (by omega) ⟨rfl,.inr ⟨b6,0,1,_,rfl,Nat.le_refl _,.inr ⟨_,_,za5 _ _ _⟩,rfl⟩⟩ h1f.one.2 (by omega) (by unfold maxLen; omega) (fun v7 M7 N7 g1 g2 g3 g4=>?_)
  have hvb3:fv'.ownBlock≠some b3:=fun e=>by have := (ho.ge b3 e).1; omega
  have hb37:=g2 b3 hvb3 (by omega)
  have hbx7:M7 b3=some (.cells 95 [.int .u8 1,.int .u32 0,nv2,fv'] 4):=hb37.1.trans ((za4 _ _ (by omega)).trans hbx5)
  obtain ⟨a7,c7,e7,_⟩:=g1.form
  try simp only [sS]
  refine stM (cs':=[.int .u8 1,.int .u32 0,nv2,v7]) ?_ hbx7 (by rw [e7]; rfl) (by rw [e7]; rfl) (by rw [e7]; exact List.all_eq_true.1 rfl)
  refine zai (by omega) ?_
  have hfl7:(rows'.flatten++[kv',.int .i64 r.fs[i].2])=(rows'++[[kv',.int .i64 r.fs[i].2]]).flatten:=by simp
  have ho8:own (upd M7 b3 (some (.cells 95 [.int .u8 1,.int .u32 0,nv2,v7] 4))) (b3+1) 90 2 v7 (i+1) (rows'++[[kv',.int .i64 r.fs[i].2]]).flatten:=by
   rw [← hfl7]; exact g1.keep (fun q hq=>za4 _ _ (fun e=>by have := (g1.ge q hq).1; omega)) (Nat.le_refl _)
  have hrr8:zad (zc1 F6) 2 (rows'++[[kv',.int .i64 r.fs[i].2]]) (r.fs.take (i+1)):=by
   rw [List.take_add_one,List.getElem?_eq_getElem i1,Option.toList_some]
   exact zau (hrr.mono fun _ _ h=>h.mono hF6) h1f.one h1f
  have hM8:∀ q,q<b3→upd M7 b3 (some (.cells 95 [.int .u8 1,.int .u32 0,nv2,v7] 4)) q=M3 q:=fun q hq=>by
   have hq2:fv'.ownBlock≠some q:=fun e=>by have := (ho.ge q e).1; omega
   exact (za4 _ _ (by omega)).trans ((g2 q hq2 (by omega)).1.trans ((za4 _ _ (by omega)).trans ((hM54 q (by omega)).trans (hM4 q hq))))
  have hm8:=g4.set (g4.lt hbx7) (some (.cells 95 [.int .u8 1,.int .u32 0,nv2,v7] 4))
  have hbx8:=za5 M7 b3 (some (.cells 95 [.int .u8 1,.int .u32 0,nv2,v7] 4))
  generalize upd M7 b3 _=M8 at *
  by_cases hlast:i+1<r.fs.length
  ·exact next (i+1) _ _ (by omega) (fun hw8=>⟨_,za0 hw8,F6,M8,N7,v7,rfl,hF4.trans hF6,by omega,hM8,hm8,by omega,hbx8,.inl ⟨hlast,_,ho8,hrr8⟩⟩)
  ·refine next (i+1) _ _ (by omega) (fun hw8=>⟨⟨frzP F6 M8 (fun q=>v7.ownBlock=some q),zbj M8 (fun q=>¬ v7.ownBlock=some q),N7⟩,zgw hw8,_,_,N7,v7,rfl,(hF4.trans hF6).trans (zbd hw8),by omega,fun q hq=>?_,zcl hm8,by omega,?_,.inr ⟨by omega,?_⟩⟩)
   ·exact (zay (fun e=>by have := (ho8.ge q e).1; omega)).trans (hM8 q hq)
   ·exact (zay (fun e=>by have := (ho8.ge b3 e).1; omega)).trans hbx8
   ·have e9:r.fs.take (i+1)=r.fs:=List.take_of_length_le (by omega)
    rw [e9] at hrr8
    refine yj8 (M:=M8) (N:=b3+1) (N':=N7) ?_ hrr8 hw8 (fun q hq=>hq)
    rw [show r.fs.length=i+1 by omega]; exact ho8
 ·rcases hst with ⟨hz,_⟩ | ⟨_,hfv'⟩
  ·omega
  have P4:zbi F4 M4 B p g mb hv dv rows l h bs tk:=P1.keep (hF3.trans hF4) (fun q hq=>(hM4 q (by have := (hpl q hq).2; omega)).trans (hM31 q (by have := (hpl q hq).2; omega)))
  have hb4:=((hM4 b1 hb13).trans (hM31 b1 hb13)).trans hb
  obtain ⟨es4,h24,h34⟩:=P4.mm
  have hpn:=P4.pg
  try simp only [sS]
  refine ldM (v:=.map (some mb)) ?_ P4.pp
  refine ldM (v:=.int .u32 r.id) ?_ hb4
  refine zas (vs:=[.int .u8 1,.int .u32 0,nv2,fv']) ?_ hbx4
  refine ydw (b:=⟨1,0,r.ns,r.fs⟩) h24 h34 ⟨nv2,fv',rfl,hn2.mono hF4,hfv'⟩ h0 h1 (fun es' hes'=>?_)
  refine fun hc=>⟨_,za0 hc,fun hw'=>?_⟩
  have := k F4 _ N4 (hF3.trans hF4) (by
   unfold ppS; rw [if_pos eE]
   exact ⟨(za4 _ _ hpn.2.1).trans P4.pp,P.pB,P.mB,⟨es',za5 _ _ _,hes'⟩,P4.cc.keep (zac.refl _) (fun q hq=>za4 _ _ (fun e=>by subst e; rcases hq with hq | hq; exact hpn.2.2.1 hq; exact hpn.2.2.2.2 hq))⟩) (fun q hq hqN=>(za4 _ _ hq).trans (((hM4 q (by omega)).trans (hM31 q (by omega))).trans (hM1 q hqN))) (by omega) (hm4.set (hm4.lt h24) _) hw'
  rw [eE] at this; exact this
end
section
theorem ymk {B:Nat} {v d:Value} {l:List Int} {p:Int→Bool} (hv:own M B 30 1 v l.length (ick .u32 l)) (hl:l.length≤1000000000)
  (hd:∀ {K:zae} (N1:Nat) (x:Int),N≤N1→(∀ N',N1≤N'→(Hp.mk F M N').wf→K (.bool (!p x)) ⟨F,M,N'⟩)→za2 Tryz.prog d #[.int .u32 x] K E ⟨F,M,N1⟩)
  (k1:∀ i (hi:i<l.length),(∀ x∈l.take i,p x=true)→p l[i]=false→∀ N',N≤N'→(Hp.mk F M N').wf→K (.int .i64 (i:Nat)) ⟨F,M,N'⟩)
  (k2:(∀ x∈l,p x=true)→∀ N',N≤N'→(Hp.mk F M N').wf→K (.int .i64 (-1)) ⟨F,M,N'⟩) :
  za2 Tryz.prog (.func (.func 68) #[] #[]) #[v,d] K E ⟨F,M,N⟩:=by
 refine za3 mixed Tryz.func68 (by kernel_rfl) (t68 _ E _ _) (fun hw=>?_)
 have hlv:za9 v=some (.int .i64 (l.length:Nat)):=by obtain ⟨a,c,e,_⟩:=hv.form; rw [e]; rfl
 refine zaa hlv ?_
 refine zyf (σ:=Nat) (fun i=>.int .i64 (i:Nat)) (fun i h=>∃ N',h=⟨F,M,N'⟩∧N≤N'∧i≤l.length∧∀ x∈l.take i,p x=true) (fun i=>l.length - i) 0 rfl
  (fun hw1=>⟨_,za0 hw1,N,rfl,Nat.le_refl _,Nat.zero_le _,by simp⟩) (fun kk i j h1 hI hw1 next=>?_)
 rw [zy6]
 obtain ⟨N1,rfl,hN1,hi,he⟩:=hI
 refine zaf (fun hlt=>?_) (fun hge=>?_)
 ·have i1:i<l.length:=by omega
  try simp only [sS]
  refine zk0 hv i1 fun _=>hd _ _ hN1 (fun N2 hN2 hw2=>?_)
  cases hp:p l[i]
  ·refine zdd ?_
   exact fun hc=>⟨_,za0 hc,fun hw'=>k1 i i1 he hp _ (by omega) hw'⟩
  ·refine zc8 ?_
   refine zai (by omega) ?_
   refine next (i+1) _ _ (by omega) (fun hw3=>⟨_,za0 hw3,N2,rfl,by omega,i1,fun x hx=>?_⟩)
   rw [List.take_add_one,List.getElem?_eq_getElem i1,Option.toList_some] at hx
   rcases List.mem_append.1 hx with hx | hx
   ·exact he x hx
   ·rw [List.mem_singleton.1 hx]; exact hp
 ·try simp only [sS]
  refine fun hc=>⟨_,za0 hc,fun hw'=>k2 (fun x hx=>he x ?_) _ hN1 hw'⟩
  rw [List.take_of_length_le (by omega)]; exact hx
theorem yj7 {k:IntKind} (l:List Int) (i:Nat):(ick k l).take i=ick k (l.take i):=by unfold ick; rw [List.map_take]
set_option maxRecDepth 10000 in
set_option maxHeartbeats 4000000 in
theorem ym5 {B:Nat} {v d:Value} {l:List Int} {p:Int→Bool} (hv:own M B 30 1 v l.length (ick .u32 l)) (hl:l.length≤1000000000)
  (hd:∀ {K:zae} (M1:Nat→Option zak) (N1:Nat) (x:Int),N≤N1→(∀ q,v.ownBlock≠some q→q<N→M1 q=M q)→za7 M1 N1→(∀ N',N1≤N'→(Hp.mk F M1 N').wf→K (.bool (!p x)) ⟨F,M1,N'⟩)→za2 Tryz.prog d #[.int .u32 x] K E ⟨F,M1,N1⟩)
  (k:∀ v' M' N',own M' B 30 1 v' (l.filter p).length (ick .u32 (l.filter p))→(∀ x,v.ownBlock≠some x→x<N→M' x=M x∧v'.ownBlock≠some x)→N≤N'→za7 M' N'→(Hp.mk F M' N').wf→∃ h',(Hp.mk F M' N').wk h'∧(h'.wf→K v' h')) :
  za2 Tryz.prog (.func (.func 37) #[] #[]) #[v,d] K E ⟨F,M,N⟩:=by
 refine za3 mixed Tryz.func37 (by kernel_rfl) (t37 _ E _ _) (fun hw=>?_)
 have hm:za7 M N:=hw.m
 have hlv:za9 v=some (.int .i64 (l.length:Nat)):=by obtain ⟨a,c,e,_⟩:=hv.form; rw [e]; rfl
 refine ymk hv hl (fun N1 x hN kk=>hd M N1 x hN (fun _ _ _=>rfl) (hm.up hN) kk) (fun i hi he hpi N1 hN1 hw1=>?_) (fun he N1 hN1 hw1=>?_)
 rotate_left
 ·refine zi3 rfl ?_
  try simp only [sS]
  have e:l.filter p=l:=List.filter_eq_self.2 he
  rw [e] at k
  exact fun hc=>k v M N1 hv (fun x hx _=>⟨rfl,hx⟩) hN1 (hm.up hN1) hc
 refine zhl (by omega) ?_
 try simp only [sS]
 refine zai (by omega) ?_
 refine zq4 (σ:=Nat×Nat) (fun s=>.int .i64 (s.1:Nat)) (fun s=>.int .i64 (s.2:Nat))
  (fun s h=>∃ M' N' l',h=⟨F,M',N'⟩∧N≤N'∧own M' B 30 1 v l'.length (ick .u32 l')∧l'.length=l.length∧s.1<s.2∧s.2≤l.length∧l'.take s.1=(l.take s.2).filter p∧l'.drop s.2=l.drop s.2∧(∀ x,v.ownBlock≠some x→x<N→M' x=M x)∧za7 M' N') (fun s=>l.length - s.2) (i,i+1) rfl rfl
  (fun hw2=>⟨_,za0 hw2,M,N1,l,rfl,hN1,hv,rfl,Nat.lt_succ_self _,hi,?_,rfl,fun _ _ _=>rfl,hm.up hN1⟩) (fun kk s j h1 hI hw2 next=>?_)
 ·simp only
  rw [List.take_add_one,List.getElem?_eq_getElem hi,Option.toList_some,List.filter_append,List.filter_eq_self.2 he]
  simp [hpi]
 rw [zq1]
 obtain ⟨M2,N2,l2,rfl,hN2,ho,hl2,hs,hs2,ht,hdr,hM2,hm2⟩:=hI
 refine zaa hlv ?_
 refine zaf (fun hlt=>?_) (fun hge=>?_)
 ·have j1:s.2<l.length:=by omega
  have j2:s.2<l2.length:=by omega
  have ej:l2[s.2]=l[s.2]:=by
   have h:=congrArg (fun x:List Int=>x[0]?) hdr
   simp only [List.getElem?_drop,Nat.add_zero,List.getElem?_eq_getElem j1,List.getElem?_eq_getElem j2] at h
   exact Option.some.inj h
  have hdr':l2.drop (s.2+1)=l.drop (s.2+1):=by rw [← List.drop_drop,← List.drop_drop,hdr]
  try simp only [sS]
  refine zk0 ho j2 fun _=>?_
  rw [ej]
  refine hd M2 N2 _ hN2 hM2 hm2 (fun N3 hN3 hw3=>?_)
  cases hp:p l[s.2]
  ·rw [Bool.not_false]
   try simp only [sS]
   rw [zih]
   refine zai (by omega) ?_
   refine next (s.1,s.2+1) _ _ (by simp only; omega) (fun hw4=>⟨_,za0 hw4,M2,N3,l2,rfl,by omega,ho,hl2,by simp only; omega,j1,?_,hdr',hM2,hm2.up hN3⟩)
   simp only
   rw [ht,List.take_add_one,List.getElem?_eq_getElem j1,Option.toList_some,List.filter_append]
   simp [hp]
  ·rw [Bool.not_true]
   try simp only [sS]
   have i1:s.1<l2.length:=by omega
   refine yay ho i1 fun _ M4 g1 g3 g4=>?_
   refine zai (by omega) ?_
   rw [zih]
   refine zai (by omega) ?_
   refine next (s.1+1,s.2+1) _ _ (by simp only; omega) (fun hw4=>⟨_,za0 hw4,M4,N3,_,rfl,by omega,g1,by rw [List.length_set]; exact hl2,by simp only; omega,j1,?_,?_,fun x hx hxN=>(g3 x hx).trans (hM2 x hx hxN),g4 _ (hm2.up hN3)⟩)
   ·simp only
    rw [zo0 _ _ _ i1,ht,List.take_add_one,List.getElem?_eq_getElem j1,Option.toList_some,List.filter_append]
    simp [hp]
   ·simp only
    rw [List.drop_set_of_lt (by omega)]
    exact hdr'
 ·try simp only [sS]
  have es:s.2=l.length:=by omega
  rw [es,List.take_length] at ht
  have i1:s.1<l.length:=by omega
  have hn:(l.filter p).length=s.1:=by rw [← ht,List.length_take]; omega
  rcases ho.2 with ⟨hv0,h0⟩ | ⟨b,c,rest,hvf,g1,g2,g3,g4⟩
  ·omega
  rw [hvf,hl2]
  refine zgu s.1 (by omega) (by omega) ?_
  rw [if_neg (by omega)]
  refine .inr ⟨b,0+s.1*1,l.length - s.1,c - s.1,_,_,_,rfl,by omega,g4,by exact List.all_eq_true.1 rfl,by rw [List.length_append,zkg,hl2]; omega,?_⟩
  refine zmn s.1 (by omega) ?_
  obtain ⟨Z,hcs⟩:∃ Z,zbs (ick .u32 l2++rest) (0+s.1*1) (List.replicate (l.length - s.1) [Value.int .u32 0]).flatten=ick .u32 (l2.take s.1)++Z:=⟨_,by
   unfold zbs
   rw [Nat.zero_add,Nat.mul_one,List.take_append_of_le_length (by rw [zkg]; omega),yj7,List.append_assoc]⟩
  refine fun hc=>k _ _ N2 ⟨by rw [zkg,Nat.mul_one],.inr ⟨b,c,Z,by rw [hn],by omega,g2,g3,?_⟩⟩ (fun x hx hxN=>⟨?_,fun e=>hx (by rw [hvf]; exact e)⟩) hN2 (hm2.set (hm2.lt g4) _) hc
  ·rw [← ht,← hcs]; exact za5 _ _ _
  ·have hxb:x≠b:=fun e=>hx (by rw [hvf,e]; rfl)
   exact (za4 _ _ hxb).trans (hM2 x hx hxN)
end
end Go.Proofs.YtgcmbkoejjcjlaaGreatDoor.A
