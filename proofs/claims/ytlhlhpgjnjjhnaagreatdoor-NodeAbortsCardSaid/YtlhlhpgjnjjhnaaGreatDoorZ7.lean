import Derived.Test.YtlhlhpgjnjjhnaaGreatDoorZ6
import Derived.Test.YtlhlhpgjnjjhnaaGreatDoorZ4
import Derived.Test.YtlhlhpgjnjjhnaaGreatDoorZ3
set_option maxHeartbeats 16000000
set_option maxRecDepth 20000
open Go Go.RowKit Go.Proofs.YtlhlhpgjnjjhnaaGreatDoor.K Go.Proofs.YtlhlhpgjnjjhnaaGreatDoor.T
set_option linter.unusedVariables false
set_option linter.unusedSimpArgs false
namespace Go.Proofs.YtlhlhpgjnjjhnaaGreatDoor.A
variable {F F':Nat -> Option (List Value)} {M M':Nat -> Option zah} {N N':Nat} {K:zae} {E:zb2}
def zg2:zaj:=⟨1,7,0,[0,1],[([1],4)],0,0,[]⟩
def zkq:zaj:=⟨4,7,3,[],[],0,0,[]⟩
def l18:List Dm:=[(5,[])]
def b18:Bts:=[(7,⟨1,0,[0,1],[([1],4)]⟩)]
def s18:NS:=⟨[],0,[],[],0⟩
def zfk:NS:=⟨zbg (zag (rPr zg2)),((zbg (zag (rPr zg2))).length:Nat),[],b18,0⟩
def ykd:NS:=NS.ap l18 zfk (rCo 7 3)
theorem yxq:zbk l18 9000 s18 zg2=(zfk,[zbn 2 7]):=by kernel_rfl
theorem yv1:zbk l18 9000 zfk zg2=(zfk,[zbn 2 7]):=by kernel_rfl
theorem yy8:zbk l18 9000 zfk zkq=(ykd,[zbn 6 7]):=by kernel_rfl
theorem yup:zal ykd.bt 7=⟨2,3,[],[]⟩:=by kernel_rfl
theorem yrx:zmk [rPr zg2]=zfk.bs:=by simp [zmk,zfk]
theorem yye:zcm l18 [rPr zg2] ([],[],0)=([],b18,0):=by kernel_rfl
theorem ys1:zbz zg2=true∧(zag (zb7 zg2)).length≤60000:=⟨by kernel_rfl,by decide +kernel⟩
theorem ys4:zbz zkq=true∧(zag (zb7 zkq)).length≤60000:=⟨by kernel_rfl,by decide +kernel⟩
theorem yxf:(rPr zg2).laid:=⟨by kernel_rfl,⟨by decide,by decide,by simp [rPr,zg2,zff],by simp [rPr]⟩,by decide,by decide,by decide +kernel⟩
theorem yx8:zaj.ok (rPr zg2):=⟨by decide,by decide,by decide,by decide,by decide,by simp [rPr]⟩
theorem ylr:zg2.typ:=⟨by decide,by decide,by simp [zg2,zff],by simp [zg2]⟩
theorem yqq:zkq.typ:=⟨by decide,by decide,by simp [zkq],by simp [zkq]⟩
theorem ytk:zg2.lens:=⟨by decide,by decide,by decide,by simp [zg2]⟩
theorem yu8:zkq.lens:=⟨by decide,by decide,by decide,by simp [zkq]⟩
theorem ykn {ws:List Int} (h:zw3 b18 ws):ws=[7]:=by
 refine yit h.1 (List.pairwise_singleton _ _) λx=>?_;rw [h.2,List.mem_singleton,zev]
 constructor
 ·rintro ⟨⟨y,hy,e⟩,_⟩;rw [← e]
  simp [b18] at hy
  rw [hy]
 ·rintro rfl;exact ⟨⟨_,List.mem_cons_self,rfl⟩,by decide⟩
theorem ysi:[7].flatMap (zlf 0 zfk.bt)=[(0,-1,zbw (zbn 7 7)),(0,1,zbw (zbn 7 7))]:=by kernel_rfl
theorem yy7 (id:Int):(zal zfk.bt id).ns.length≤1000:=by
 by_cases h:id=7
 ·subst h; decide
 ·rw [zz6 (λx hx e=>by simp [zfk,b18] at hx; rw [hx] at e; exact h e.symm)]
  simp [Bt.no]
theorem zyk (hE:E [] zcy) (k:∀ F' N',za9 F F' -> N≤N' -> (Hp.mk F' M N').wf -> K (.bool true) ⟨F',M,N'⟩):cF 9 #[] K E ⟨F,M,N⟩:=by
 refine za5 mixed Tryz.func9 (by kernel_rfl) (t9 _ E) (λhw=>?_);have hm:za6 M N:=hw.m;refine yi0 (by omega) (by omega) (λd M1 hd1 P1 hM1 hm1 hw1=>?_);refine zi5 ?_;try simp only [sS]
 refine zab (v:=.agg #[.int .i64 5,.slice none 0 0]) (by kernel_rfl) ?_;refine zd7 (cs:=[.int .i64 5,.slice none 0 0]) (by kernel_rfl) (λb2 hb2=>?_);refine ziq (λhc=>⟨_,zdw hm1 (λq hq=>za4 _ _ (by omega)) hc,?_⟩);have hs0:=zbb (N:=d+1) hc;have f2:=zhl (F:=F) (N:=d+1) (b:=b2) (by omega) (za2 M1 b2 (some (.cells 108 [.int .i64 5,.slice none 0 0] [Value.int .i64 5,.slice none 0 0].length)));generalize zd5 F _ (d+1)=F0 at *;clear hc;have hdd:zi0 F0 [.int .i64 5,.slice none 0 0] (5,[]):=⟨_,rfl,sF.nil _ _ _,by decide⟩;have hd:zeb F0 (.slice (some ⟨b2,0,none⟩) 1 1) l18:=⟨[[.int .i64 5,.slice none 0 0]],znd f2 rfl (by decide),zcq (zaf.nil (zi0 F0) 2) hdd.one hdd⟩;refine zs7 (rs:=[]) (v:=.slice none 0 0) (lasts:=0) (room:=9000) (B:=d+1) P1 (by omega) hd (by decide) (λr hr=>absurd hr List.not_mem_nil) (by simp) (λi hi=>absurd hi (by simp)) (λh=>absurd h (by decide)) (λ_ nb lg p g mb hv dv rows F2 M2 N2 hF2 H2 fr2 hN2 hm2 hw2=>?_);have H2':zao F2 M2 (d+1) nb lg d (.slice none 0 0) s18.bs s18.ls 9000 p g mb hv dv rows l18 s18.h s18.bt s18.tk 0 (.slice none 0 0):=H2;clear H2;have hl2:∀ q,q<d -> M2 q=M1 q∧¬ nft nb lg d p g mb (.slice none 0 0) hv q:=λq hq=>fr2 q (by omega) (by simp [Value.ownBlock]) (by omega);try simp only [sS]
 refine zcv rfl ?_;try simp only [sS]
 refine zi5 ?_;try simp only [sS]
 refine zl9 H2' (λhw3=>?_);refine zi5 ?_;try simp only [sS]
 refine zd7 (cs:=[.int .i64 0,.int .i64 1]) (by kernel_rfl) (λb5 hb5=>?_);refine zd7 (cs:=[.int .i64 1]) (by kernel_rfl) (λb6 hb6=>?_);refine zab (v:=.agg #[.slice (some ⟨b6,0,none⟩) 1 1,.int .i64 4]) (by kernel_rfl) ?_;refine zd7 (cs:=[.slice (some ⟨b6,0,none⟩) 1 1,.int .i64 4]) (by kernel_rfl) (λb8 hb8=>?_);refine zab (v:=.agg #[.int .u8 1,.int .u32 7,.int .u32 0,.slice (some ⟨b5,0,none⟩) 2 2,.slice (some ⟨b8,0,none⟩) 1 1,.int .i64 0,.int .i64 0,.slice none 0 0]) (by kernel_rfl) ?_;generalize hMx:upd (upd (upd M2 b5 _) b6 _) b8 _=Mx;have x5:Mx b5=some (.cells 3 [.int .i64 0,.int .i64 1] 2):=by rw [← hMx]; exact (za4 _ _ (by omega)).trans ((za4 _ _ (by omega)).trans (za2 _ _ _))
 have x6:Mx b6=some (.cells 3 [.int .i64 1] 1):=by rw [← hMx]; exact (za4 _ _ (by omega)).trans (za2 _ _ _)
 have x8:Mx b8=some (.cells 110 [.slice (some ⟨b6,0,none⟩) 1 1,.int .i64 4] 2):=by rw [← hMx]; exact za2 _ _ _
 have hMx1:∀ q,q<N2 -> Mx q=M2 q:=λq hq=>by rw [← hMx]; exact (za4 _ _ (by omega)).trans ((za4 _ _ (by omega)).trans (za4 _ _ (by omega)))
 clear hMx;refine ziq (λhc=>⟨_,zdw hm2 hMx1 hc,?_⟩);have hs2:=zbb (N:=N2) hc;have y5:=zhl (F:=F2) (N:=N2) (b:=b5) (by omega) x5;have y6:=zhl (F:=F2) (N:=N2) (b:=b6) (by omega) x6;have y8:=zhl (F:=F2) (N:=N2) (b:=b8) (by omega) x8;generalize zd5 F2 Mx N2=F3 at *;clear hc x5 x6 x8 hMx1 Mx
 have hr1:zfq F3 [.int .u8 1,.int .u32 7,.int .u32 0,.slice (some ⟨b5,0,none⟩) 2 2,.slice (some ⟨b8,0,none⟩) 1 1,.int .i64 0,.int .i64 0,.slice none 0 0] zg2 :=
  ⟨_,_,_,_,rfl,znd y5 rfl (by decide),yjf y6 y8,zcb.nil⟩
 refine zxz hr1 ytk ylr (by decide) (by decide) (by decide) (by decide) (by simp [zg2]) (by have := ys1.2; omega) (λhno=>absurd ys1 hno) (λhs hle bv M4 N4 ho4 hM4 hN4 hm4 hw4=>?_);try simp only [sS]
 refine ziq (λhc=>⟨_,zdw (hm2.up (show N2≤b8+1 by omega)) hM4 hc,?_⟩);have hs4:=zbb (N:=b8+1) hc;have hbv:sF (zd5 F3 M4 (b8+1)) 1 bv (zbw zg2).length (bts (zbw zg2)):=ho4.rd.frz hc (λq hq=>.inl (by have := (ho4.ge q hq).1; omega));have hbo:=ho4.lt hm4;generalize zd5 F3 M4 (b8+1)=F4 at *;clear hc ho4;refine zmh (s:=s18) (s':=zfk) (ans:=[zbn 2 7]) (H2'.keepN (hs2.trans hs4) (λ_ _=>rfl)) (by omega) (by omega) (by omega) (okH.nil _ _ _) (by decide) hbv hbo hs ylr hle (by decide) (by decide) (by decide) (by decide) yxq (λv6 hv6 F6 M6 N6 rows6 ov6 hF6 H6 O6 fr6 hN6 hm6 hw6=>?_)
 have hl6:∀ q,q<d -> M6 q=M1 q∧¬ nft nb lg d p g mb v6 hv6 q:=λq hq=>by
  have g:=hl2 q hq;have f:=fr6 q g.2 (by omega);exact ⟨f.1.trans g.1,f.2⟩
 try simp only [sS]
 have hlen:(zfk.bs.length:Int)=zfk.ls:=rfl;refine ymt (keep:=0) (n:=zfk.bs.length) H6.dk (by rw [← hlen]; omega) (by rw [← hlen]; omega) (by rw [← hlen]; omega) (λv7 M7 P7 hv7 hM7 hm7 hw7=>?_);rw [List.take_length,← yrx] at P7;have hdF:za9 F0 F6:=hF2.trans (hs2.trans (hs4.trans hF6))
 refine zs7 (rs:=[rPr zg2]) (room:=9000) (B:=d+1) P7 (by omega) (hd.mono hdF) (by decide) (λr hr=>by rw [List.mem_singleton.1 hr]; exact yxf) (by simp) (λi hi=>by
  have:i=0:=by simpa using hi
  subst this;exact ⟨okH.nil _ _ _,by simp [zcm,zal,Bt.no],yx8⟩) (λh=>absurd h (by decide)) (λ_ nb2 lg2 p2 g2 mb2 hv8 dv8 rows8 F8 M8 N8 hF8 H8 fr8 hN8 hm8 hw8=>?_)
 rw [yye,yrx] at H8;have H8':zao F8 M8 (d+1) nb2 lg2 d v7 zfk.bs zfk.ls 9000 p2 g2 mb2 hv8 dv8 rows8 l18 zfk.h zfk.bt zfk.tk 0 (.slice none 0 0):=H8;clear H8
 have hl8:∀ q,q<d -> M8 q=M1 q∧¬ nft nb2 lg2 d p2 g2 mb2 v7 hv8 q:=λq hq=>by
  have g:=hl6 q hq;have f:=fr8 q (by omega) (by rw [hv7]; exact λe=>g.2 (.inr (.inr (.inr (.inl e))))) (by omega);exact ⟨f.1.trans ((hM7 q (by omega)).trans g.1),f.2⟩
 try simp only [sS]
 refine zcv rfl ?_;try simp only [sS]
 refine zi5 ?_;try simp only [sS]
 refine zl9 H8' (λhw9=>?_);refine zi5 ?_;try simp only [sS]
 have hF48:=hF6.trans hF8;refine zmh (s:=zfk) (s':=zfk) (ans:=[zbn 2 7]) H8' (by omega) (by omega) (by omega) (okH.nil _ _ _) (by decide) (hbv.mono hF48) (λq hq=>by have := hbo q hq; omega) hs ylr hle (by decide) (by decide) (by decide) (by decide) yv1 (λv10 hv10 F10 M10 N10 rows10 ov10 hF10 H10 O10 fr10 hN10 hm10 hw10=>?_)
 have hl10:∀ q,q<d -> M10 q=M1 q∧¬ nft nb2 lg2 d p2 g2 mb2 v10 hv10 q:=λq hq=>by
  have g:=hl8 q hq;have f:=fr10 q g.2 (by omega);exact ⟨f.1.trans g.1,f.2⟩
 try simp only [sS]
 refine zab (v:=.agg #[.int .u8 4,.int .u32 7,.int .u32 3,.slice none 0 0,.slice none 0 0,.int .i64 0,.int .i64 0,.slice none 0 0]) (by kernel_rfl) ?_
 have hr2:zfq F10 [.int .u8 4,.int .u32 7,.int .u32 3,.slice none 0 0,.slice none 0 0,.int .i64 0,.int .i64 0,.slice none 0 0] zkq :=
  ⟨_,_,_,_,rfl,sF.nil _ _ _,⟨[],sF.nil _ _ _,zaf.nil _ _⟩,zcb.nil⟩
 refine zxz hr2 yu8 yqq (by decide) (by decide) (by decide) (by decide) (by simp [zkq]) (by have := ys4.2; omega) (λhno=>absurd ys4 hno) (λhs2' hle2 cv M11 N11 ho11 hM11 hN11 hm11 hw11=>?_);try simp only [sS]
 refine ziq (λhc=>⟨_,zdw hm10 hM11 hc,?_⟩);have hs11:=zbb (N:=N10) hc;have hcv:sF (zd5 F10 M11 N10) 1 cv (zbw zkq).length (bts (zbw zkq)):=ho11.rd.frz hc (λq hq=>.inl (by have := (ho11.ge q hq).1; omega));have hco:=ho11.lt hm11;generalize zd5 F10 M11 N10=F11 at *;clear hc ho11;refine yo6 hE (H10.keepN hs11 (λ_ _=>rfl)) (by decide) (λx hx=>by simp [zfk,b18] at hx; rw [hx]; decide) yy7 (λws hws F12 M12 N12 ov12 hF12 H12 O12 fr12 hN12 hm12 hw12=>?_);rw [ykn hws,ysi] at O12
 have hl12:∀ q,q<d -> M12 q=M1 q∧¬ nft nb2 lg2 d p2 g2 mb2 v10 hv10 q:=λq hq=>by
  have g:=hl10 q hq;exact ⟨(fr12 q g.2 (by omega)).trans g.1,g.2⟩
 refine zmh (s:=zfk) (s':=ykd) (ans:=[zbn 6 7]) H12 (by omega) (by omega) (by omega) (okH.nil _ _ _) (by decide) (hcv.mono hF12) (λq hq=>by have := hco q hq; omega) hs2' yqq hle2 (by decide) (by decide) (by decide) (by decide) yy8 (λv13 hv13 F13 M13 N13 rows13 ov13 hF13 H13 O13 fr13 hN13 hm13 hw13=>?_)
 have hl13:∀ q,q<d -> M13 q=M1 q:=λq hq=>by
  have g:=hl12 q hq;exact (fr13 q g.2 (by omega)).1.trans g.1
 have O6':=O6.mono (hF8.trans (hF10.trans (hs11.trans (hF12.trans hF13))));have O10':=O10.mono (hs11.trans (hF12.trans hF13));have O12':=O12.mono hF13;try simp only [sS]
 refine zcv rfl ?_;try simp only [sS]
 refine zcv rfl ?_;try simp only [sS]
 refine zcv rfl ?_;try simp only [sS]
 refine O6'.len ?_;refine zcv rfl ?_;try simp only [sS]
 refine O10'.len ?_;refine zcv rfl ?_;try simp only [sS]
 refine O13.len ?_;refine zcv rfl ?_;try simp only [sS]
 refine O12'.len ?_;refine zcv rfl ?_;try simp only [sS]
 refine ztg (i:=1) O12' (by simp) (λ_ _=>?_);refine zcv rfl ?_;try simp only [sS]
 refine zns (i:=0) (x:=2) O6' (by simp) rfl (λ_ _ _ _=>?_);refine zcj rfl ?_;try simp only [sS]
 refine zns (i:=0) (x:=2) O10' (by simp) rfl (λ_ _ _ _=>?_);refine zcj rfl ?_;try simp only [sS]
 refine zns (i:=0) (x:=6) O13 (by simp) rfl (λ_ _ _ _=>?_);refine zcj rfl ?_;try simp only [sS]
 refine ztg (i:=0) O13 (by simp) (λ_ _=>?_);refine zcj rfl ?_;try simp only [sS]
 refine zl9 H13 (λhw14=>?_);refine zpq H13.pt (λN15 hN15 hw15=>?_);rw [yup];refine zab (v:=.int .u32 3) rfl ?_;refine zcj rfl ?_;try simp only [sS]
 exact λhc=>⟨_,zbm hc (znc hm (λq hq=>(hl13 q (by omega)).trans (hM1 q hq))),λhw'=>k F13 N15 (hs0.trans (hdF.trans (hF8.trans (hF10.trans (hs11.trans (hF12.trans hF13)))))) (by omega) hw'⟩
theorem yps {l:List Dm} (hl:zfm l) {f:Fc} (h:inF l f.1=true):zh1 f=true:=by
 have hlen:=zk2 h;have h4:=hl.2.1;unfold inF at h;rw [Bool.and_eq_true,List.all_eq_true] at h;unfold zh1;rw [decide_eq_true (by omega),Bool.true_and,List.all_eq_true];intro x hx;obtain ⟨i,hi,rfl⟩:=List.mem_iff_getElem.1 hx;have := h.2 i (by rw [List.mem_range]; omega);unfold inP at this;have h1:=of_decide_eq_true this
 have h2:(l.getD i (0,[])).1≤200:=by
  have hi':i<l.length:=by omega
  rw [List.getD_eq_getElem?_getD,List.getElem?_eq_getElem hi'];exact (hl.2.2 _ (List.getElem_mem hi')).2
 rw [List.getD_eq_getElem?_getD,List.getElem?_eq_getElem hi] at h1;simp only [Option.getD_some] at h1;rw [List.getD_eq_getElem?_getD] at h2;refine decide_eq_true ?_;rw [List.getD_eq_getElem?_getD] at h1;exact ⟨h1.1,by omega⟩
theorem yhj {l:List Dm} (hl:zfm l) {fs:List Fc} (h:zd1 l fs=true):zf0 fs=true:=by
 obtain ⟨f1,f2⟩:=zh6 h;unfold zf0;rw [decide_eq_true f1,Bool.true_and,List.all_eq_true];exact λf hf=>yps hl (f2 f hf)
def mPr (id:Int) (fs:List Fc):zaj:=⟨1,id,0,[0],fs,0,0,[]⟩
theorem zxc {l:List Dm} (hl:zfm l) {fs:List Fc} (id:Int) (h:zd1 l fs=true):zbz (mPr id fs)=true:=by
 have := yhj hl h
 simp [zbz,mPr,zb7,zcf,zbv,zet,this]
theorem zxu {l:List Dm} (hl:zfm l) {fs:List Fc} (id:Int) (h:zd1 l fs=true) (h80:fs.length≤80):(zag (zb7 (mPr id fs))).length≤5000:=by
 obtain ⟨f1,f2⟩:=zh6 h;have h4:=hl.2.1
 have hfl:(zce fs).length≤4+80*25:=by
  unfold zce;rw [List.length_append,zaa];have h1:=zy4 ze5 25 fs (λf hf=>by rw [zlr]; have := zk2 (f2 f hf); omega);have h2:=Nat.mul_le_mul_right 25 h80;omega
 rw [zfh];simp only [mPr,zb7,zcf,if_true,zm6,List.length_cons,List.length_nil];omega
theorem ynf (id:Int) (fs:List Fc):rPr (mPr id fs)=zb7 (mPr id fs):=by simp [rPr,mPr,zb7,zcf]
theorem yeg {id:Int} (hid:0≤id∧id<4294967296) {fs:List Fc} (h:∀ f∈fs,zff f.2):(mPr id fs).typ:=⟨hid,by simp [mPr],h,by simp [mPr]⟩
theorem ycz {l:List Dm} {ks:List (List Int)} {v:List Int} (h:∀ x∈v,zff x):∀ f∈zdr l ks v,zff f.2:=λf hf=>by
 rcases (zkb hf).2 with e | e
 ·rw [e]; unfold zff; omega
 ·exact h _ e
theorem zoc {kind:Int} (id:Int) (h:kind=2∨kind=3∨kind=5∨kind=6∨kind=7∨kind=11):(zag (zb7 (zbn kind id))).length≤60000:=by have := (zm4 (id:=id) h).2; omega
def bAb:Bts:=[(3,⟨3,0,[],[]⟩)]
theorem yme {ws:List Int} (h:zw3 bAb ws):ws=[]:=by
 refine List.eq_nil_iff_forall_not_mem.2 λx hx=>?_;obtain ⟨h1,h2⟩:=(h.2 x).1 hx;obtain ⟨y,hy,e⟩:=zev.1 h1
 simp [bAb] at hy
 rw [hy] at e;simp only at e;subst e;exact absurd h2 (by decide)
def zkr:zaj:=⟨4,3,5,[],[],0,0,[]⟩
theorem yby:zbz zkr=true∧(zag (zb7 zkr)).length≤60000:=⟨by kernel_rfl,by decide +kernel⟩
theorem ybl:zkr.typ:=⟨by decide,by decide,by simp [zkr],by simp [zkr]⟩
theorem yhe:zkr.lens:=⟨by decide,by decide,by decide,by simp [zkr]⟩
structure zk4 (s:NS) (fs:List Fc):Prop where
 h0:s.h=[]
 b0:s.bt=[]∨s.bt=[(3,⟨1,0,[0],fs⟩)]
 l0:s.bs.length≤10000
def abd (s:NS) (l:List Dm):NS:={ NS.ap l s (rAb 3) with ls:=s.ls }
theorem zk4.st {s:NS} {fs:List Fc} (h:zk4 s fs):(zal s.bt 3).st≤1:=by
 rcases h.b0 with e | e<;>rw [e]<;>simp [zal,Bt.no]
theorem zk4.fs {s:NS} {fs:List Fc} (h:zk4 s fs) (hl:fs.length≤1000):(zal s.bt 3).fs.length≤140737488351232:=by
 rcases h.b0 with e | e<;>rw [e]<;>simp [zal,Bt.no]; omega
theorem zk4.tm {s:NS} {fs:List Fc} (h:zk4 s fs):0≤(zal s.bt 3).tm∧(zal s.bt 3).tm<4294967296:=by
 rcases h.b0 with e | e<;>rw [e]<;>simp [zal,Bt.no]
theorem zk4.bt {s:NS} {fs:List Fc} (h:zk4 s fs) (l:List Dm):(abd s l).bt=bAb:=by
 show apS l s.h s.bt (rAb 3)=bAb;unfold apS;rw [if_neg (by simp [rAb]),if_neg (by simp [rAb]),if_pos (by simp [rAb])];unfold abS;rw [if_neg (by have := h.st; show ¬ (zal s.bt 3).st>1; omega)]
 rcases h.b0 with e | e<;>rw [e]<;>rfl
theorem zk4.hh {s:NS} {fs:List Fc} (h:zk4 s fs) (l:List Dm):(abd s l).h=[]:=by
 show apH l s.h s.bt s.tk (rAb 3)=[];unfold apH;rw [if_neg (by simp [rAb]),if_neg (by simp [rAb])];exact h.h0
theorem yql {s:NS} {fs:List Fc} (h:zk4 s fs) (l:List Dm) {room:Int} (hr:20000≤room):zbk l room s (zbn 5 3)=(abd s l,[]):=by
 have := h.st;have := h.l0;unfold zbk;rw [if_neg (by simp [zbn]),if_neg (by simp [zbn]),if_pos (by simp [zbn])]
 rw [if_neg (by
  show ¬ ((zal s.bt 3).st>1∨_);omega)]
 rfl
theorem yqa {s:NS} {l:List Dm} (hb:s.bt=bAb) (fs:List Fc) (room:Int):zbk l room s (mPr 3 fs)=(s,[zbn 3 3]):=by
 have e:(zal s.bt 3).st=3:=by rw [hb]; rfl
 unfold zbk;rw [if_pos (by simp [mPr]),if_pos (by show _∨_∨(zal s.bt 3).st=3; omega)];show (s,[zbn (prS (zal s.bt 3).st) 3])=_;rw [e]; rfl
theorem yqn {s:NS} {l:List Dm} (hb:s.bt=bAb) (room:Int):zbk l room s zkr=(s,[]):=by
 have e:(zal s.bt 3).st=3:=by rw [hb]; rfl
 unfold zbk;rw [if_neg (by simp [zkr]),if_pos (by simp [zkr]),if_neg (by show ¬ (zal s.bt 3).st=1; omega),if_neg (by show ¬ (zal s.bt 3).st=2; omega)]
theorem ypy {s:NS} {l:List Dm} (hb:s.bt=bAb) (room:Int):zbk l room s (zbn 7 3)=(s,[zbn 5 3]):=by
 have e:(zal s.bt 3).st=3:=by rw [hb]; rfl
 unfold zbk;rw [if_neg (by simp [zbn]),if_neg (by simp [zbn]),if_neg (by simp [zbn]),if_pos (by simp [zbn]),if_neg (by show ¬ (zal s.bt 3).st=2; omega),if_neg (by show ¬ (zal s.bt 3).st=0; omega),if_pos (by exact e)]
 rfl
theorem yqt {l:List Dm} (hl:zfm l) {fs:List Fc} (hf:zd1 l fs=true) (h80:fs.length≤80) {room:Int} (hr:20000≤room) :
  zbk l room s18 (mPr 3 fs)=(NS.ap l s18 (rPr (mPr 3 fs)),[zbn (if apE l [] [] 0 (rPr (mPr 3 fs))=0 then 2 else 3) 3])∧zk4 (NS.ap l s18 (rPr (mPr 3 fs))) fs:=by
 have hlen:=zxu hl 3 hf h80;have hs:=zxc hl 3 hf
 have hlay:zm3 [] room (rPr (mPr 3 fs))=true:=by
  unfold zbz at hs; simp only [Bool.and_eq_true] at hs;rw [ynf];unfold zm3;rw [hs.2.2.2,decide_eq_true (by omega),decide_eq_true (by simp only [List.length_nil]; omega)]
  rfl
 refine ⟨?_,?_,?_,?_⟩
 ·unfold zbk;rw [if_pos (by simp [mPr]),if_neg (by simp [s18,zal,Bt.no]),if_pos (by rw [show (mPr 3 fs).fs=fs from rfl,hf]; exact hlay)]
  rfl
 ·show apH l [] [] 0 (rPr (mPr 3 fs))=[];unfold apH;rw [if_neg (by simp [rPr]),if_neg (by simp [rPr])]
 ·right
  show apS l [] [] (rPr (mPr 3 fs))=_;unfold apS;rw [if_pos (by simp [rPr])]
  have e:ppE l [] (rPr (mPr 3 fs))=0:=by
   unfold ppE;rw [if_neg (by simp [zal,Bt.no]),show (rPr (mPr 3 fs)).fs=fs from rfl,hf,if_neg (by simp)]
  unfold ppS;rw [if_pos e]
  rfl
 ·show ([]++zbg (zag (rPr (mPr 3 fs)))).length≤10000;rw [List.nil_append,zei,ynf];omega
section
variable {B nb lg pd:Nat} {v:Value} {p g mb:Nat} {hv dv:Value} {rows:List (List Value)} {l:List Dm} {ov:Value} {s:NS}
theorem yb4 {bv:Value} {fs:List Fc} {x0 x1 x2 x3 x4 x5 x6 x7 x8 x9 x10 x12 x14 x15 x16 x17 x18 x19 x20 x21 x22 x23 x24 x25 x26 x27 x28 x29 x30 x31 x32 x33 x34 x35 x36 x37 x38 x39 x40 x41 x42 x43 x44 x45 x46 x47 x48 x49 x50 x51 x52 x53 x54 x55 x56 x57 x58 x59 x60 x61 x62 x63 x64 x65 x66 x67 x68 x69 x70 x71 x72 x73 x74 x75 x76 x77 x78 x79 x80 x81 x82 x83 x84 x85 x86 x87 x88 x89 x90 x91 x92 x93 x94 x95 x96 x97 x98 x99 x100 x101 x102 x103 x104 x105 x106 x107 x108 x109 x110 x111 x112 x113 x114 x115 x116 x117 x118 x119 x120 x121 x122 x123 x124 x125 x126 x127 x128 x129 x130 x131 x132 x133 x134 x135 x136 x137 x138 x139 x140 x141 x142 x143 x144 x145 x146 x147 x148 x149:Value} (hE:E [] zcy) (H:zao F M B nb lg pd v s.bs s.ls 262144 p g mb hv dv rows l s.h s.bt s.tk 0 ov) (hB:B≤N) (hm:za6 M N) (hw0:(Hp.mk F M N).wf) (hl:zfm l) (hf:zd1 l fs=true) (h80:fs.length≤80) (h64:∀ f∈fs,zff f.2)
  (hs:zk4 s fs) (hbv:sF F 1 bv (zbw (mPr 3 fs)).length (bts (zbw (mPr 3 fs)))) (hbo:∀ q,bv.ownBlock=some q -> q<N) (k:∀ h,K (.bool true) h) :
  d4 [1,1,1,1,1,1,1,1,1] (q4 (λv h=>h.wf -> ∃ h',h.wk h'∧(h'.wf -> K v h')) E) #[x0,x1,x2,x3,x4,x5,x6,x7,x8,x9,x10,(.pointer (some ⟨nb,0,none⟩)),x12,bv,x14,x15,x16,x17,x18,x19,x20,x21,x22,x23,x24,x25,x26,x27,x28,x29,x30,x31,x32,x33,x34,x35,x36,x37,x38,x39,x40,x41,x42,x43,x44,x45,x46,x47,x48,x49,x50,x51,x52,x53,x54,x55,x56,x57,x58,x59,x60,x61,x62,x63,x64,x65,x66,x67,x68,x69,x70,x71,x72,x73,x74,x75,x76,x77,x78,x79,x80,x81,x82,x83,x84,x85,x86,x87,x88,x89,x90,x91,x92,x93,x94,x95,x96,x97,x98,x99,x100,x101,x102,x103,x104,x105,x106,x107,x108,x109,x110,x111,x112,x113,x114,x115,x116,x117,x118,x119,x120,x121,x122,x123,x124,x125,x126,x127,x128,x129,x130,x131,x132,x133,x134,x135,x136,x137,x138,x139,x140,x141,x142,x143,x144,x145,x146,x147,x148,x149] ⟨F,M,N⟩:=by
 rw [zod];have typ:=yeg (id:=3) (by decide) h64;have msnd:=zxc hl 3 hf;have mlen:=zxu hl 3 hf h80;have hl4:=hl.2.1;refine zab (v:=.agg (zh4 5 3).toArray) (by kernel_rfl) ?_;refine zqu (zuj 5 3) (zki 5 3) (zir (by decide)) (by decide) (by simp [zbn]) (by simp [zbn]) (by simp [zbn]) (by simp [zbn]) (by have := zoc (kind:=5) 3 (by simp); omega) (λhno=>absurd ⟨(zm4 (kind:=5) (id:=3) (by simp)).1,zoc 3 (by simp)⟩ hno) (λhs1 hle1 v1 F1 N1 hv1 ho1 hF1 hN1 hw1=>?_);refine zmh (s:=s) (H.keepN hF1 (λ_ _=>rfl)) (by omega) (by omega) (by omega) (by rw [hs.h0]; exact okH.nil _ _ _) (by omega) hv1 ho1 hs1 (zir (by decide)) hle1 (by decide) (by decide) (hs.fs (by omega)) hs.tm (yql hs l (by omega)) (λv2 hv2 F2 M2 N2 rows2 ov2 hF2 H2 O2 fr2 hN2 hm2 hw2=>?_);have hbA:=hs.bt l;have hhA:=hs.hh l;generalize abd s l=s2 at *;try simp only [sS]
 refine zmh (s:=s2) (m:=mPr 3 fs) H2 (by omega) (by omega) (by omega) (by rw [hhA]; exact okH.nil _ _ _) (by omega) (hbv.mono (hF1.trans hF2)) (λq hq=>by have := hbo q hq; omega) msnd typ (by omega) (by show (1:Int)≤1∧(1:Int)≤11; omega) (by show (1:Int)≠8; omega) (by rw [hbA]; show (zal bAb 3).fs.length≤_; decide) (by rw [hbA]; show 0≤(zal bAb 3).tm∧(zal bAb 3).tm<4294967296; decide) (yqa hbA fs _) (λv3 hv3 F3 M3 N3 rows3 ov3 hF3 H3 O3 fr3 hN3 hm3 hw3=>?_);try simp only [sS]
 refine zab (v:=.agg #[.int .u8 4,.int .u32 3,.int .u32 5,.slice none 0 0,.slice none 0 0,.int .i64 0,.int .i64 0,.slice none 0 0]) (by kernel_rfl) ?_;refine zqu (m:=zkr) (cs:=[.int .u8 4,.int .u32 3,.int .u32 5,.slice none 0 0,.slice none 0 0,.int .i64 0,.int .i64 0,.slice none 0 0]) ⟨_,_,_,_,rfl,sF.nil _ _ _,⟨[],sF.nil _ _ _,zaf.nil _ _⟩,zcb.nil⟩ yhe ybl (by decide) (by decide) (by decide) (by decide) (by simp [zkr]) (by have := yby.2; omega) (λhno=>absurd yby hno) (λhs4 hle4 v4 F4 N4 hv4 ho4 hF4 hN4 hw4=>?_);refine zmh (s:=s2) (H3.keepN hF4 (λ_ _=>rfl)) (by omega) (by omega) (by omega) (by rw [hhA]; exact okH.nil _ _ _) (by omega) hv4 ho4 hs4 ybl hle4 (by decide) (by decide) (by rw [hbA]; decide) (by rw [hbA]; decide) (yqn hbA _) (λv5 hv5 F5 M5 N5 rows5 ov5 hF5 H5 O5 fr5 hN5 hm5 hw5=>?_);try simp only [sS]
 refine zab (v:=.agg (zh4 7 3).toArray) (by kernel_rfl) ?_;refine zqu (zuj 7 3) (zki 7 3) (zir (by decide)) (by decide) (by simp [zbn]) (by simp [zbn]) (by simp [zbn]) (by simp [zbn]) (by have := zoc (kind:=7) 3 (by simp); omega) (λhno=>absurd ⟨(zm4 (kind:=7) (id:=3) (by simp)).1,zoc 3 (by simp)⟩ hno) (λhs6 hle6 v6 F6 N6 hv6 ho6 hF6 hN6 hw6=>?_);refine zmh (s:=s2) (H5.keepN hF6 (λ_ _=>rfl)) (by omega) (by omega) (by omega) (by rw [hhA]; exact okH.nil _ _ _) (by omega) hv6 ho6 hs6 (zir (by decide)) hle6 (by decide) (by decide) (by rw [hbA]; decide) (by rw [hbA]; decide) (ypy hbA _) (λv7 hv7 F7 M7 N7 rows7 ov7 hF7 H7 O7 fr7 hN7 hm7 hw7=>?_);have O2':=O2.mono (hF3.trans (hF4.trans (hF5.trans (hF6.trans hF7))));have O3':=O3.mono (hF4.trans (hF5.trans (hF6.trans hF7)));have O5':=O5.mono (hF6.trans hF7);try simp only [sS]
 refine O2'.len ?_;refine zcj rfl ?_;try simp only [sS]
 refine O3'.len ?_;refine zcj rfl ?_;try simp only [sS]
 refine zns (i:=0) (x:=3) O3' (by simp) rfl (λ_ _ _ _=>?_);refine zcj rfl ?_;try simp only [sS]
 refine O5'.len ?_;refine zcj rfl ?_;try simp only [sS]
 refine O7.len ?_;refine zcj rfl ?_;try simp only [sS]
 refine zns (i:=0) (x:=5) O7 (by simp) rfl (λ_ _ _ _=>?_);refine zcj rfl ?_;try simp only [sS]
 refine ztg (i:=0) O7 (by simp) (λ_ _=>?_);refine zcj rfl ?_;try simp only [sS]
 refine zl9 H7 (λhw8=>?_);try simp only [sS]
 refine ldM (v:=.pointer (some ⟨g,0,none⟩)) ?_ H7.pt.pp;refine ztu H7.pt.cc (by rw [hhA]; exact okH.nil _ _ _) (by omega) (λev F9 N9 hw9 hF9 hN9 he=>?_);rw [hhA] at he;obtain ⟨ea,ec,rfl⟩:=he.form;refine zab (v:=.int .i64 0) rfl ?_;refine zcj rfl ?_;try simp only [sS]
 have H9:=H7.keepN hF9 (M':=M7) (λ_ _=>rfl);refine zl9 H9 (λhw10=>?_);refine zwj hE H9.pt (by rw [hbA]; decide) (λwv ws F11 N11 hw11 hF11 hN11 hws hwv=>?_);rw [hbA] at hws;rw [yme hws] at hwv;refine zb1 hwv ?_;refine zcj rfl ?_;try simp only [sS]
 exact λhc=>⟨_,za0 hc,λ_=>k _⟩
end
theorem yak {um uk uv:Value} {m:List (Int×List Int)} {ks:List (List Int)} {c:List Int} {first:Bool} (hE:E [] zcy) (hm:zr5 F um m) (hml:m.length≤140737488351232) (hmc:∀ c∈m,(0≤c.1∧c.1<65536)∧∀ x∈c.2,0≤x∧x<256)
  (hk:ztn .u16 F uk ks) (hkl:ks.length≤140737488351232) (hkc:∀ k∈ks,∀ x∈k,0≤x∧x<65536) (hv:sF F 1 uv c.length (ic c)) (hcl:c.length≤140737488351232) (hcc:∀ x∈c,zff x) (k:∀ h,K (.bool true) h) :
  call Tryz.prog 4 #[um,uk,uv,.bool first] K E ⟨F,M,N⟩:=by
 refine zj4 mixed Tryz.func4 (by kernel_rfl) (t4 _ E _ _ _ _) (λhw=>?_);have hm0:za6 M N:=hw.m;have kn:∀ {M:Nat -> Option zah} {F:Nat -> Option (List Value)} {N:Nat},cF 9 #[] (λv h=>h.wf -> ∃ h',h.wk h'∧(h'.wf -> K v h')) E ⟨F,M,N⟩:=zyk hE (λF' N' _ _ _ hc=>⟨_,za0 hc,λ_=>k _⟩);have hlk:zac uk=some (.int .i64 (ks.length:Nat)):=by obtain ⟨rows,h1,_⟩:=hk; obtain ⟨a,c,e,_⟩:=h1.form; rw [e]; rfl
 refine zab hlk ?_;refine zby (λh1=>?_) (λh1=>?_)
 ·try simp only [sS]; exact kn
 try simp only [sS]
 refine zyk hE (λF2 N2 hF2 hN2 hw2=>?_);try simp only [sS]
 have hgd:=zs0 m (λc hc=>(hmc c hc).1);have hok:=yij (m:=m) (λc hc=>(hmc c hc).1);refine ysy (hm.mono hF2) hml hmc (λudv F3 N3 hw3 hF3 hN3 hd=>?_);generalize zj7 m=l at *;have hl4:=hgd.2.1;have hds:=zrn hgd;refine yi0 (by omega) (by omega) (λd M4 hd4 P4 hM4 hm4 hw4=>?_);refine zi5 ?_;try simp only [sS]
 refine zs7 (rs:=[]) (v:=.slice none 0 0) (lasts:=0) (room:=262144) (B:=d+1) P4 (by omega) hd (by omega) (λr hr=>absurd hr List.not_mem_nil) (by simp) (λi hi=>absurd hi (by simp)) (λh=>absurd h (by rw [hok]; decide)) (λ_ nb lg p g mb hv5 dv rows F5 M5 N5 hF5 H5 fr5 hN5 hm5 hw5=>?_);have H5':zao F5 M5 (d+1) nb lg d (.slice none 0 0) s18.bs s18.ls 262144 p g mb hv5 dv rows l s18.h s18.bt s18.tk 0 (.slice none 0 0):=H5;clear H5;try simp only [sS]
 refine zcv rfl ?_;try simp only [sS]
 refine zi5 ?_;try simp only [sS]
 refine zl9 H5' (λhw6=>?_);refine zi5 ?_;try simp only [sS]
 refine zd7 (cs:=[.int .i64 0]) (by kernel_rfl) (λb7 hb7=>?_);have x7:=za2 M5 b7 (some (.cells 3 [.int .i64 0] [Value.int .i64 0].length));refine ziq (λhc=>⟨_,zdw hm5 (λq hq=>za4 _ _ (by omega)) hc,?_⟩);have hs7:=zbb (N:=N5) hc;have y7:=zhl (F:=F5) (N:=N5) (b:=b7) (by omega) x7;generalize zd5 F5 _ N5=F7 at *;clear hc x7;have F37:=hF5.trans hs7;have F27:=hF3.trans F37;refine yp1 (hd.mono F37) ((hk.mono hF2).mono F27) ((hv.mono hF2).mono F27) (by omega) hds hkc hkl hcl (λfv F8 N8 hw8 hF8 hN8 hf=>?_);have hfit:=yh2 hgd ks c;have h80:(zdr l ks c).length≤80:=by rw [zkf]; omega
 have h64:=ycz (l:=l) (ks:=ks) hcc;generalize zdr l ks c=fs at *;obtain ⟨af,cf,ef⟩:=hf.form;subst ef;refine zab (v:=.agg #[.int .u8 1,.int .u32 3,.int .u32 0,.slice (some ⟨b7,0,none⟩) 1 1,.slice af fs.length cf,.int .i64 0,.int .i64 0,.slice none 0 0]) (by kernel_rfl) ?_;have hr:zfq F8 [.int .u8 1,.int .u32 3,.int .u32 0,.slice (some ⟨b7,0,none⟩) 1 1,.slice af fs.length cf,.int .i64 0,.int .i64 0,.slice none 0 0] (mPr 3 fs):=⟨_,_,_,_,rfl,(yqp y7).mono hF8,hf,zcb.nil⟩;have typ:=yeg (id:=3) (by decide) h64;have msnd:=zxc hgd 3 hfit;have mlen:=zxu hgd 3 hfit h80;refine zqu hr ⟨by simp [mPr],by show fs.length≤_; omega,by simp [mPr],by simp [mPr]⟩ typ (by show (1:Int)≤1∧(1:Int)≤11; omega) (by simp [mPr]) (by show fs.length≤_; omega) (by simp [mPr]) (by simp [mPr]) (by omega) (λhno=>absurd ⟨msnd,by omega⟩ hno) (λhs9 hle9 bv F9 N9 hbv hbo hF9 hN9 hw9=>?_);have H9:=H5'.keepN (M':=M5) (hs7.trans (hF8.trans hF9)) (λ_ _=>rfl);cases first
 ·refine zan ?_;exact yb4 (s:=s18) hE H9 (by omega) (hm5.up (by omega)) hw9 hgd hfit h80 h64 ⟨rfl,.inl rfl,by decide⟩ hbv hbo k
 ·refine zav ?_;obtain ⟨e0,pre⟩:=yqt hgd hfit h80 (room:=262144) (by omega);refine zmh (s:=s18) H9 (by omega) (by omega) (by omega) (okH.nil _ _ _) (by omega) hbv hbo msnd typ (by omega) (by show (1:Int)≤1∧(1:Int)≤11; omega) (by show (1:Int)≠8; omega) (by show (zal [] 3).fs.length≤_; decide) (by show 0≤(zal [] 3).tm∧(zal [] 3).tm<4294967296; decide) e0 (λv10 hv10 F10 M10 N10 rows10 ov10 hF10 H10 O10 fr10 hN10 hm10 hw10=>?_);exact yb4 hE H10 (by omega) hm10 hw10 hgd hfit h80 h64 pre (hbv.mono hF10) (λq hq=>by have := hbo q hq; omega) k
theorem yh9 {f:FuncId} {args:Array Value} {W:World} (h:call Tryz.prog f args (λv _=>v=.bool true) (λ_ h=>h=zcy) (h0 W)):Calls Tryz.prog f args W λe w'=>e=.returned (.bool true)∧Below W.heap.size W w' :=
 (yp7 (K:=λv=>v=.bool true) h).mono λe w' ⟨⟨v,he,hv⟩,hb⟩=>⟨by rw [he,hv],hb⟩
theorem ypa {x:Int} (h:(Lit.int .i64 x).wf=true):zff x:=by
 simp [Lit.wf,IntKind.min,IntKind.max,IntKind.bits,IntKind.signed] at h
 unfold zff; omega
theorem NodeAborts_true (v0 v1 v2:Value) (a3:Bool) {y0:List (Int×List Int)} {y1:List (List Int)} {y2:List Int} (W:World) (h0:rS 2 yrb (F0 W) [v0] y0) (h1:rS 1 (rS 1 (rI .u16)) (F0 W) [v1] y1) (h2:rS 1 (rI .i64) (F0 W) [v2] y2) (_:True) :
  Calls Tryz.prog 4 #[v0,v1,v2,.bool a3] W λe w'=>e=.returned (.bool true)∧Below W.heap.size W w' :=
 have b:=ynp h0;have d:=yjr h1;have v:=yp5 h2
 yh9 (yak rfl b.1 b.2.1 b.2.2 d.1 d.2.1 (λk hk x hx=>ygp (d.2.2 k hk x hx)) v.1 v.2.2 (λx hx=>ypa (v.2.1 x hx)) λ_=>rfl)
end Go.Proofs.YtlhlhpgjnjjhnaaGreatDoor.A
