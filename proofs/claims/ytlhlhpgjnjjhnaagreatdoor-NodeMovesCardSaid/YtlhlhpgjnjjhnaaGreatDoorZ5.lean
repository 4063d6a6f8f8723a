import Derived.Test.YtlhlhpgjnjjhnaaGreatDoorZ4
import Derived.Test.YtlhlhpgjnjjhnaaGreatDoorZ2
set_option maxHeartbeats 16000000
set_option maxRecDepth 20000
open Go Go.RowKit Go.Proofs.YtlhlhpgjnjjhnaaGreatDoor.K Go.Proofs.YtlhlhpgjnjjhnaaGreatDoor.T
set_option linter.unusedVariables false
set_option linter.unusedSimpArgs false
namespace Go.Proofs.YtlhlhpgjnjjhnaaGreatDoor.A
variable {F F':Nat -> Option (List Value)} {M M':Nat -> Option zak} {N N':Nat} {K:zae} {E:zb2}
theorem yq2 {A C:List Value} {x y u:Value} {n:Nat} (h:A.length=n):zb3 (A++x::y::C) n [u]=A++u::y::C:=by
 have := zfu A [x] [u] (y::C) rfl;rw [h] at this
 simpa using this
theorem yov {A C:List Value} {x y u:Value} {n:Nat} (h:A.length=n):zb3 (A++x::y::C) (n+1) [u]=A++x::u::C:=by
 have := zfu (A++[x]) [y] [u] C rfl;rw [List.length_append,h] at this
 simpa using this
theorem yvo {A C:List Value} {x y:Value} {n:Nat} (h:A.length=n):(A++x::y::C)[n]?=some x:=by rw [List.getElem?_append_right (by omega),h]; simp
theorem yi2 (z:List Value) {n i:Nat} (h:i<n):(List.replicate (n - i) z).flatten=z++(List.replicate (n - (i+1)) z).flatten:=by
 rw [show n - i=n - (i+1)+1 by omega,List.replicate_succ,List.flatten_cons]
theorem zx6 {M':Nat -> Option zak} (b:Nat):zex (upd M' b none) M':=λq c h=>by simp only [upd] at h; split at h; cases h; exact h
theorem yc1 {p:Nat} {v:Value} {l:List Int} (P:zdf F M p v l) (hm:za5 M N) (hv:∀ q,v.ownBlock=some q -> q<N)
  (k:∀ fv v' F' M' N' fs r,zfb l=some (fs,r) -> zdf F' M' p v' r -> v'.ownBlock=v.ownBlock -> za7 F F' -> zbo F' fv fs -> fs.length≤100000 -> N≤N' -> (∀ q,q≠p -> q<N -> M' q=M q) -> za5 M' N' -> (Hp.mk F' M' N').wf -> K fv ⟨F',M',N'⟩)
  (kE:zfb l=none -> eOK E F M N p) :
  cF 252 #[.pointer (some ⟨p,0,none⟩)] K E ⟨F,M,N⟩:=by
 refine za4 za8 Tryz.func252 (by kernel_rfl) (yvc _ E _) (λhw=>?_);refine zqn (size:=4) (least:=9) P hm (by omega) (by omega) (by omega) (by omega) (λv1 M1 n r1 h1 hn1 P1 e1 hM1 hm1 hw1=>?_) (λh=>kE (by unfold zfb; rw [h]));have hrN:zfb l=rdL rdF n r1:=by unfold zfb; rw [h1]
 have hln:=P1.ln;have hpN:p<N:=hm.lt P.pp;refine zz4 (by omega) (by unfold maxLen; omega) (λb hb=>?_);try simp only [sS]
 refine zt8 (σ:=Nat) (λi=>.int .i64 (i:Nat)) (λi h=>∃ F' M' N' v' pre rows r,h=⟨F',M',N'⟩∧za7 F F'∧b<N'∧zdf F' M' p v' r∧v'.ownBlock=v.ownBlock∧M' b=some (.cells 110 (rows.flatten++(List.replicate (n - i) [Value.slice none 0 0,.int .i64 0]).flatten) (n*2))∧zag (zcl F') 2 rows pre∧pre.length=i∧i≤n∧zfb l=rdA rdF pre (n - i) r∧(∀ q,q≠p -> q<N -> M' q=M q)∧za5 M' N') (λi=>n - i) 0 rfl
  (λhw2=>⟨_,za1 hw2,F,_,b+1,v1,[],[],r1,rfl,za7.refl _,by omega,P1.box hm1 hb _,e1,by rw [za0]; simp,zag.nil _ _,rfl,Nat.zero_le _,by rw [hrN,Nat.sub_zero,zqs],λq q1 q2=>(za3 _ _ (by omega)).trans (hM1 q q1),hm1.new hb _⟩) (λk1 i j h1 hI hw2 next=>?_)
 rw [zt1];obtain ⟨F2,M2,N2,v2,pre,rows,r2,rfl,hF2,hN2,P2,e2,hb2,hrows,hpl,hi,hrd,hM2,hm2⟩:=hI;have hv2:∀ q,v2.ownBlock=some q -> q<N:=λq hq=>hv q (by rw [← e2]; exact hq);have hfl:rows.flatten.length=i*2:=by rw [hrows.flen,hpl]
 refine zat (λhlt=>?_) (λhge=>?_)
 ·have i1:i<n:=by omega
  rw [yi2 _ i1] at hb2;try simp only [sS]
  refine zqn (size:=1) (least:=4) P2 hm2 (by omega) (by omega) (by omega) (by omega) (λv3 M3 kn r3 h3 hn3 P3 e3 hM3 hm3 hw3=>?_) (λh=>?_)
  rotate_left
  ·exact (kE (by rw [hrd,zj0 (by unfold rdF zin; rw [h]) (by omega)])).step hF2 (by omega) hM2
  have hln3:=P3.ln;have hb3:=(hM3 b (by omega)).trans hb2;refine zz4 (by omega) (by unfold maxLen; omega) (λkb hkb=>?_);have P4:=P3.box hm3 hkb (some (.cells 3 (List.replicate kn [Value.int .i64 0]).flatten (kn*1)));have hkb4:=za0 M3 kb (some (.cells 3 (List.replicate kn [Value.int .i64 0]).flatten (kn*1)));have hb4:upd M3 kb (some (.cells 3 (List.replicate kn [Value.int .i64 0]).flatten (kn*1))) b=_:=(za3 _ _ (by omega)).trans hb3;have hM4:∀ q,q≠p -> q<N -> upd M3 kb (some (.cells 3 (List.replicate kn [Value.int .i64 0]).flatten (kn*1))) q=M q:=λq q1 q2=>(za3 _ _ (by omega)).trans ((hM3 q q1).trans (hM2 q q1 q2));have hm4:=hm3.new hkb (some (.cells 3 (List.replicate kn [Value.int .i64 0]).flatten (kn*1)));generalize upd M3 kb _=M4 at *;refine zct i1 ?_;refine zaa rfl ?_;refine stM (cs':=rows.flatten ++ .slice (some ⟨kb,0,none⟩) kn kn :: .int .i64 0::(List.replicate (n - (i+1)) [Value.slice none 0 0,.int .i64 0]).flatten) ?_ hb4 (by rw [Nat.zero_add,Nat.add_zero]; exact yq2 hfl) rfl (List.all_eq_true.1 rfl) (by simp only [List.length_append,hfl,List.length_cons]; omega);refine zct i1 ?_;refine zaa rfl ?_;have hg0:(rows.flatten ++ .slice (some ⟨kb,0,none⟩) kn kn :: .int .i64 0::(List.replicate (n - (i+1)) [Value.slice none 0 0,.int .i64 0]).flatten)[0+i*2+0]?=some (.slice (some ⟨kb,0,none⟩) kn kn):=by rw [Nat.zero_add,Nat.add_zero]; exact yvo hfl
  refine ldM (v:=.slice (some ⟨kb,0,none⟩) kn kn) ?_ (za0 _ _ _) hg0;have hm5:=hm4.set (show b<kb+1 by omega) (some (.cells 110 (rows.flatten ++ .slice (some ⟨kb,0,none⟩) kn kn :: .int .i64 0::(List.replicate (n - (i+1)) [Value.slice none 0 0,.int .i64 0]).flatten) (n*2)))
  have P5:zdf F2 (upd M4 b (some (.cells 110 (rows.flatten ++ .slice (some ⟨kb,0,none⟩) kn kn :: .int .i64 0::(List.replicate (n - (i+1)) [Value.slice none 0 0,.int .i64 0]).flatten) (n*2)))) p v3 r3 :=
   P4.keep (za7.refl _) (za3 _ _ (by omega)) (λq c hq h=>(za3 _ _ (by have := hv2 q (by rw [← e3]; exact hq); omega)).trans h)
  have hM5:∀ q,q≠p -> q<N -> upd M4 b (some (.cells 110 (rows.flatten ++ .slice (some ⟨kb,0,none⟩) kn kn :: .int .i64 0::(List.replicate (n - (i+1)) [Value.slice none 0 0,.int .i64 0]).flatten) (n*2))) q=M q:=λq q1 q2=>(za3 _ _ (by omega)).trans (hM4 q q1 q2);have hb5:=za0 M4 b (some (.cells 110 (rows.flatten ++ .slice (some ⟨kb,0,none⟩) kn kn :: .int .i64 0::(List.replicate (n - (i+1)) [Value.slice none 0 0,.int .i64 0]).flatten) (n*2)));have hkb5:upd M4 b (some (.cells 110 (rows.flatten ++ .slice (some ⟨kb,0,none⟩) kn kn :: .int .i64 0::(List.replicate (n - (i+1)) [Value.slice none 0 0,.int .i64 0]).flatten) (n*2))) kb=_:=(za3 _ _ (by omega)).trans hkb4;generalize upd M4 b _=M5 at *;refine zaa rfl ?_;have hrdK:zin r2=rdL (rd 4) kn r3:=by unfold zin; rw [h3]
  simp only [Nat.zero_add,Nat.add_zero]
  refine zho (σ:=Nat) (λt=>.int .i64 (t:Nat)) (λt h=>∃ M' v' kp r,h=⟨F2,M',kb+1⟩∧zdf F2 M' p v' r∧v'.ownBlock=v.ownBlock∧M' b=some (.cells 110 (rows.flatten ++ .slice (some ⟨kb,0,none⟩) kn kn :: .int .i64 0::(List.replicate (n - (i+1)) [Value.slice none 0 0,.int .i64 0]).flatten) (n*2))∧M' kb=some (.cells 3 (ic kp++List.replicate (kn - t) (.int .i64 0)) kn)∧kp.length=t∧t≤kn∧zin r2=rdA (rd 4) kp (kn - t) r∧(∀ q,q≠p -> q<N -> M' q=M q)∧za5 M' (kb+1)) (λt=>kn - t) 0 rfl
   (λhw5=>⟨_,za1 hw5,M5,v3,[],r3,rfl,P5,e3.trans e2,hb5,by rw [hkb5,Nat.mul_one]; simp [ic],rfl,Nat.zero_le _,by rw [hrdK,Nat.sub_zero,zqs],hM5,hm5⟩) (λkk2 t j2 h2 hI2 hw5 next2=>?_)
  rw [zht];obtain ⟨M6,v6,kp,r6,rfl,P6,e6,hb6,hkb6,hkpl,ht,hrd6,hM6,hm6⟩:=hI2;have hv6:∀ q,v6.ownBlock=some q -> q<N:=λq hq=>hv q (by rw [← e6]; exact hq);refine zat (λhlt2=>?_) (λhge2=>?_)
  ·have t1:t<kn:=by omega
   try simp only [sS]
   refine zct i1 ?_;refine zaa rfl ?_;refine ldM (v:=.slice (some ⟨kb,0,none⟩) kn kn) ?_ hb6 hg0;refine zh5 (size:=4) P6 hm6 (by omega) (by omega) (λv7 M7 x r7 h7 P7 e7 hM7 hm7 hw7=>?_) (λh=>?_)
   rotate_left
   ·exact (kE (by rw [hrd,zj0 (by unfold rdF; rw [hrd6,zj0 h (by omega)]) (by omega)])).step hF2 (by omega) hM6
   have hb7:=(hM7 b (by omega)).trans hb6;have hkb7:=(hM7 kb (by omega)).trans hkb6;have hx:=zfv h7 P6.bt;refine ⟨⟨_,zb4 hb7,by simpa using hg0⟩,?_⟩;refine ztu hx.1 (by omega) ?_;refine zct t1 ?_;have hpi:(ic kp).length=t:=by simp [ic,hkpl]
   refine stM (cs':=ic (kp++[x])++List.replicate (kn - (t+1)) (.int .i64 0)) ?_ hkb7 ?_ rfl (List.all_eq_true.1 rfl) (by simp [hpi]; omega)
   ·refine zas (by omega) ?_;refine next2 (t+1) _ _ (by omega) (λhw8=>⟨_,za1 hw8,_,v7,kp++[x],r7,rfl,P7.keep (za7.refl _) (za3 _ _ (by omega)) (λq c hq h=>(za3 _ _ (by have := hv6 q (by rw [← e7]; exact hq); omega)).trans h),e7.trans e6,(za3 _ _ (by omega)).trans hb7,za0 _ _ _,by simp [hkpl],t1,?_,λq q1 q2=>(za3 _ _ (by omega)).trans ((hM7 q q1).trans (hM6 q q1 q2)),hm7.set (by omega) _⟩);rw [hrd6,zon h7 (by omega),show kn - t - 1=kn - (t+1) by omega]
   ·have := zfu (ic kp) [.int .i64 0] [.int .i64 x] (List.replicate (kn - (t+1)) (.int .i64 0)) rfl;rw [hpi] at this;rw [Nat.zero_add,Nat.mul_one,show (Value.int .i64 x).cells.toList=[.int .i64 x] from rfl,show List.replicate (kn - t) (Value.int .i64 0)=[.int .i64 0]++List.replicate (kn - (t+1)) (.int .i64 0) by rw [show kn - t=kn - (t+1)+1 by omega,List.replicate_succ]; rfl,← List.append_assoc,this]
    simp [ic]
  ·try simp only [sS]
   have es:t=kn:=by omega
   subst es;rw [Nat.sub_self,zqt] at hrd6;rw [Nat.sub_self,List.replicate_zero,List.append_nil] at hkb6;refine zh5 (size:=8) P6 hm6 (by omega) (by omega) (λv7 M7 x r7 h7 P7 e7 hM7 hm7 hw7=>?_) (λh=>?_)
   rotate_left
   ·exact (kE (by rw [hrd,zj0 (by unfold rdF; rw [hrd6]; simp only; rw [h]) (by omega)])).step hF2 (by omega) hM6
   have hb7:=(hM7 b (by omega)).trans hb6;have hkb7:=(hM7 kb (by omega)).trans hkb6;refine zaa (v:=.int .i64 (zgd x)) rfl ?_;refine zct i1 ?_;refine zaa rfl ?_;refine stM (cs':=rows.flatten ++ .slice (some ⟨kb,0,none⟩) t t :: .int .i64 (zgd x)::(List.replicate (n - (i+1)) [Value.slice none 0 0,.int .i64 0]).flatten) ?_ hb7 (by rw [Nat.zero_add]; exact yov hfl) rfl (List.all_eq_true.1 rfl) (by simp only [List.length_append,hfl,List.length_cons]; omega);refine zas (by omega) ?_;have hF3:za7 F2 (upd F2 kb (some (ic kp))):=znv hw3 hkb _;have hkb8:upd M7 b (some (.cells 110 (rows.flatten ++ .slice (some ⟨kb,0,none⟩) t t :: .int .i64 (zgd x)::(List.replicate (n - (i+1)) [Value.slice none 0 0,.int .i64 0]).flatten) (n*2))) kb=_:=(za3 _ _ (by omega)).trans hkb7;refine next (i+1) _ _ (by omega) (λhw8=>⟨⟨upd F2 kb (some (ic kp)),upd (upd M7 b (some (.cells 110 (rows.flatten ++ .slice (some ⟨kb,0,none⟩) t t :: .int .i64 (zgd x)::(List.replicate (n - (i+1)) [Value.slice none 0 0,.int .i64 0]).flatten) (n*2)))) kb none,kb+1⟩,znb hw8 (zx6 _) (za0 _ _ _) hkb8,_,_,_,v7,pre++[(kp,zgd x)],rows++[[.slice (some ⟨kb,0,none⟩) t t,.int .i64 (zgd x)]],r7,rfl,hF2.trans hF3,by omega,?_,e7.trans e6,?_,?_,by simp [hpl],i1,?_,?_,(hm7.set (by omega) _).set (by omega) _⟩)
   ·exact P7.keep hF3 ((za3 _ _ (by omega)).trans (za3 _ _ (by omega))) (λq c hq h=>(za3 _ _ (by have := hv6 q (by rw [← e7]; exact hq); omega)).trans ((za3 _ _ (by have := hv6 q (by rw [← e7]; exact hq); omega)).trans h))
   ·refine (za3 _ _ (by omega)).trans ((za0 _ _ _).trans ?_)
    simp
   ·refine (hrows.mono λr x hr=>hr.mono hF3).snoc rfl (List.all_eq_true.1 rfl) ⟨_,rfl,?_,by simp only; omega⟩;have := zjz (F:=F2) (b:=kb) (sz:=1) (m:=kp.length) (c:=kp.length) (cells:=ic kp) (by simp [ic]) (Nat.le_refl _);simp only;rw [hkpl] at this ⊢; exact this
   ·rw [hrd,zon (x:=(kp,zgd x)) (r:=r7) (by unfold rdF; rw [hrd6]; simp only; rw [h7]) (by omega),show n - i - 1=n - (i+1) by omega]
   ·exact λq q1 q2=>(za3 _ _ (by omega)).trans ((za3 _ _ (by omega)).trans ((hM7 q q1).trans (hM6 q q1 q2)))
 ·try simp only [sS]
  have es:i=n:=by omega
  subst es;try rw [t252_1_1_1]
  rw [Nat.sub_self,zqt] at hrd;rw [Nat.sub_self,List.replicate_zero,List.flatten_nil,List.append_nil] at hb2
  have hbF:F2 b=none:=by
   cases h:F2 b with
   | none=>rfl
   | some cs=>have:M2 b=none:=hw2.d b cs h; rw [hb2] at this; cases this
  have hF3:za7 F2 (upd F2 b (some rows.flatten)):=za7.upd hbF;refine λhc=>⟨⟨upd F2 b (some rows.flatten),upd M2 b none,N2⟩,znb hc (zx6 _) (za0 _ _ _) hb2,λhw'=>k _ v2 _ _ _ pre r2 hrd ?_ e2 (hF2.trans hF3) ?_ (by omega) (by omega) (λq q1 q2=>(za3 _ _ (by omega)).trans (hM2 q q1 q2)) (hm2.set hN2 _) hw'⟩
  ·exact P2.keep hF3 (za3 _ _ (by omega)) (λq c hq h=>(za3 _ _ (by have := hv2 q hq; omega)).trans h)
  ·refine ⟨rows,?_,hrows.mono λr x hr=>hr.mono hF3⟩;have := zjz (F:=F2) (b:=b) (sz:=2) (m:=pre.length) (c:=pre.length) (cells:=rows.flatten) (by rw [hfl,hpl]) (Nat.le_refl _);rw [hpl] at this ⊢; exact this
theorem ymz {p:Nat} {v:Value} {l:List Int} (P:zdf F M p v l) (hm:za5 M N) (hv:∀ q,v.ownBlock=some q -> q<N)
  (k:∀ ev v' F' M' N' es r,zgz l=some (es,r) -> zdf F' M' p v' r -> v'.ownBlock=v.ownBlock -> za7 F F' -> zc6 F' ev es -> es.length≤100000 -> N≤N' -> (∀ q,q≠p -> q<N -> M' q=M q) -> za5 M' N' -> (Hp.mk F' M' N').wf -> K ev ⟨F',M',N'⟩)
  (kE:zgz l=none -> eOK E F M N p) :
  cF 254 #[.pointer (some ⟨p,0,none⟩)] K E ⟨F,M,N⟩:=by
 refine za4 za8 Tryz.func254 (by kernel_rfl) (yvb _ E _) (λhw=>?_);refine zqn (size:=4) (least:=8) P hm (by omega) (by omega) (by omega) (by omega) (λv1 M1 n r1 h1 hn1 P1 e1 hM1 hm1 hw1=>?_) (λh=>kE (by unfold zgz; rw [h]));have hrN:zgz l=rdL rdE n r1:=by unfold zgz; rw [h1]
 have hln:=P1.ln;have hpN:p<N:=hm.lt P.pp;refine zz4 (by omega) (by unfold maxLen; omega) (λb hb=>?_);try simp only [sS]
 refine zt2 (σ:=Nat) (λi=>.int .i64 (i:Nat)) (λi h=>∃ F' M' N' v' pre rows r,h=⟨F',M',N'⟩∧za7 F F'∧b<N'∧zdf F' M' p v' r∧v'.ownBlock=v.ownBlock∧M' b=some (.cells 143 (rows.flatten++(List.replicate (n - i) [Value.int .u32 0,.slice none 0 0]).flatten) (n*2))∧zag (ze2 F') 2 rows pre∧pre.length=i∧i≤n∧zgz l=rdA rdE pre (n - i) r∧(∀ q,q≠p -> q<N -> M' q=M q)∧za5 M' N') (λi=>n - i) 0 rfl
  (λhw2=>⟨_,za1 hw2,F,_,b+1,v1,[],[],r1,rfl,za7.refl _,by omega,P1.box hm1 hb _,e1,by rw [za0]; simp,zag.nil _ _,rfl,Nat.zero_le _,by rw [hrN,Nat.sub_zero,zqs],λq q1 q2=>(za3 _ _ (by omega)).trans (hM1 q q1),hm1.new hb _⟩) (λk1 i j h1 hI hw2 next=>?_)
 rw [ztk];obtain ⟨F2,M2,N2,v2,pre,rows,r2,rfl,hF2,hN2,P2,e2,hb2,hrows,hpl,hi,hrd,hM2,hm2⟩:=hI;have hv2:∀ q,v2.ownBlock=some q -> q<N:=λq hq=>hv q (by rw [← e2]; exact hq);have hfl:rows.flatten.length=i*2:=by rw [hrows.flen,hpl]
 refine zat (λhlt=>?_) (λhge=>?_)
 ·have i1:i<n:=by omega
  rw [yi2 _ i1] at hb2;try simp only [sS]
  refine zh5 (size:=4) P2 hm2 (by omega) (by omega) (λv3 M3 x r3 h3 P3 e3 hM3 hm3 hw3=>?_) (λh=>?_)
  rotate_left
  ·exact (kE (by rw [hrd,zj0 (by unfold rdE; rw [h]) (by omega)])).step hF2 (by omega) hM2
  have hx:=zfv h3 P2.bt;have hb3:=(hM3 b (by omega)).trans hb2
  have hcv:cvV .u32 (.int .u64 x)=some (.int .u32 x):=by
   have:IntKind.u32.wrap x=x:=by rw [IntKind.wrap_u32]; have := hx.2.1; omega
   simp [cvV,this]
  refine zaa hcv ?_;refine zct i1 ?_;refine zaa rfl ?_;refine stM (cs':=rows.flatten ++ .int .u32 x :: .slice none 0 0::(List.replicate (n - (i+1)) [Value.int .u32 0,.slice none 0 0]).flatten) ?_ hb3 (by rw [Nat.zero_add,Nat.add_zero]; exact yq2 hfl) rfl (List.all_eq_true.1 rfl) (by simp only [List.length_append,hfl,List.length_cons]; omega);have hm4:=hm3.set (show b<N2 from hN2) (some (.cells 143 (rows.flatten ++ .int .u32 x :: .slice none 0 0::(List.replicate (n - (i+1)) [Value.int .u32 0,.slice none 0 0]).flatten) (n*2)))
  have P4:zdf F2 (upd M3 b (some (.cells 143 (rows.flatten ++ .int .u32 x :: .slice none 0 0::(List.replicate (n - (i+1)) [Value.int .u32 0,.slice none 0 0]).flatten) (n*2)))) p v3 r3 :=
   P3.keep (za7.refl _) (za3 _ _ (by omega)) (λq c hq h=>(za3 _ _ (by have := hv2 q (by rw [← e3]; exact hq); omega)).trans h)
  have hM4:∀ q,q≠p -> q<N -> upd M3 b (some (.cells 143 (rows.flatten ++ .int .u32 x :: .slice none 0 0::(List.replicate (n - (i+1)) [Value.int .u32 0,.slice none 0 0]).flatten) (n*2))) q=M q:=λq q1 q2=>(za3 _ _ (by omega)).trans ((hM3 q q1).trans (hM2 q q1 q2));have hb4:=za0 M3 b (some (.cells 143 (rows.flatten ++ .int .u32 x :: .slice none 0 0::(List.replicate (n - (i+1)) [Value.int .u32 0,.slice none 0 0]).flatten) (n*2)));generalize upd M3 b _=M4 at *;refine yc1 P4 hm4 (λq hq=>by have := hv2 q (by rw [← e3]; exact hq); omega) (λfv v5 F5 M5 N5 fs r5 h5 P5 e5 hF5 hfv hfs hN5 hM5 hm5 hw5=>?_) (λh=>?_)
  rotate_left
  ·exact (kE (by rw [hrd,zj0 (by unfold rdE; rw [h3]; simp only; rw [h]) (by omega)])).step hF2 (by omega) hM4
  have hb5:=(hM5 b (by omega) (by omega)).trans hb4;obtain ⟨fa,fc,rfl⟩:=hfv.form;refine zct i1 ?_;refine zaa rfl ?_;refine stM (cs':=rows.flatten ++ .int .u32 x :: .slice fa fs.length fc::(List.replicate (n - (i+1)) [Value.int .u32 0,.slice none 0 0]).flatten) ?_ hb5 (by rw [Nat.zero_add]; exact yov hfl) rfl (List.all_eq_true.1 rfl) (by simp only [List.length_append,hfl,List.length_cons]; omega);refine zas (by omega) ?_;refine next (i+1) _ _ (by omega) (λhw8=>⟨_,za1 hw8,F5,_,N5,v5,pre++[(x,fs)],rows++[[.int .u32 x,.slice fa fs.length fc]],r5,rfl,hF2.trans hF5,by omega,?_,(e5.trans e3).trans e2,?_,?_,by simp [hpl],i1,?_,?_,hm5.set (by omega) _⟩)
  ·exact P5.keep (za7.refl _) (za3 _ _ (by omega)) (λq c hq h=>(za3 _ _ (by have := hv2 q (by rw [← e3,← e5]; exact hq); omega)).trans h)
  ·refine (za0 _ _ _).trans ?_
   simp
  ·exact (hrows.mono λr x hr=>hr.mono hF5).snoc rfl (List.all_eq_true.1 rfl) ⟨_,rfl,hfv,by simp only; omega⟩
  ·rw [hrd,zon (x:=(x,fs)) (r:=r5) (by unfold rdE; rw [h3]; simp only; rw [h5]) (by omega),show n - i - 1=n - (i+1) by omega]
  ·exact λq q1 q2=>(za3 _ _ (by omega)).trans ((hM5 q q1 (by omega)).trans (hM4 q q1 q2))
 ·try simp only [sS]
  have es:i=n:=by omega
  subst es;try rw [t254_1_1_1]
  rw [Nat.sub_self,zqt] at hrd;rw [Nat.sub_self,List.replicate_zero,List.flatten_nil,List.append_nil] at hb2
  have hbF:F2 b=none:=by
   cases h:F2 b with
   | none=>rfl
   | some cs=>have:M2 b=none:=hw2.d b cs h; rw [hb2] at this; cases this
  have hF3:za7 F2 (upd F2 b (some rows.flatten)):=za7.upd hbF;refine λhc=>⟨⟨upd F2 b (some rows.flatten),upd M2 b none,N2⟩,znb hc (zx6 _) (za0 _ _ _) hb2,λhw'=>k _ v2 _ _ _ pre r2 hrd ?_ e2 (hF2.trans hF3) ?_ (by omega) (by omega) (λq q1 q2=>(za3 _ _ (by omega)).trans (hM2 q q1 q2)) (hm2.set hN2 _) hw'⟩
  ·exact P2.keep hF3 (za3 _ _ (by omega)) (λq c hq h=>(za3 _ _ (by have := hv2 q hq; omega)).trans h)
  ·refine ⟨rows,?_,hrows.mono λr x hr=>hr.mono hF3⟩;have := zjz (F:=F2) (b:=b) (sz:=2) (m:=pre.length) (c:=pre.length) (cells:=rows.flatten) (by rw [hfl,hpl]) (Nat.le_refl _);rw [hpl] at this ⊢; exact this
theorem zic {size:Nat} {l r:List Int} {x:Int} (h:rd size l=some (x,r)):size+r.length=l.length:=by
 unfold rd at h
 split at h
 ·cases h
 ·simp only [Option.some.injEq,Prod.mk.injEq] at h;rw [← h.2,List.length_drop]; omega
theorem zhw {size least n:Nat} {l r:List Int} (h:rdM size least l=some (n,r)):size+r.length=l.length∧∃ x,rd size l=some (x,r):=by
 unfold rdM at h;cases h1:rd size l with
 | none=>rw [h1] at h; cases h
 | some p=>
  rw [h1] at h;simp only at h
  split at h
  ·cases h
  ·simp only [Option.some.injEq,Prod.mk.injEq] at h;have := zic h1;exact ⟨by rw [← h.2]; exact this,p.1,by rw [← h.2]⟩
theorem zn1 {α:Type} {f:List Int -> Option (α×List Int)} {enc:α -> List Int} (hf:∀ l x r,f l=some (x,r) -> (enc x).length+r.length=l.length):∀ (n:Nat) (l:List Int) (xs:List α) (r:List Int),rdL f n l=some (xs,r) -> (xs.flatMap enc).length+r.length=l.length
 | 0,l,xs,r,h=>by simp only [rdL,Option.some.injEq,Prod.mk.injEq] at h; obtain ⟨rfl,rfl⟩:=h; simp
 | n+1,l,xs,r,h=>by
  simp only [rdL] at h;cases h1:f l with
  | none=>rw [h1] at h; cases h
  | some p=>
   rw [h1] at h;simp only at h;cases h2:rdL f n p.2 with
   | none=>rw [h2] at h; cases h
   | some q=>
    rw [h2] at h;simp only [Option.some.injEq,Prod.mk.injEq] at h;obtain ⟨rfl,rfl⟩:=h;have a1:=hf l p.1 p.2 h1;have a2:=zn1 hf n p.2 q.1 q.2 h2;rw [List.flatMap_cons,List.length_append]; omega
abbrev zbg (l:List Int):Prop:=∀ x∈l,0≤x∧x<256
theorem zyx {size:Nat} {l r:List Int} {x:Int} (h:rd size l=some (x,r)) (hb:zbg l):zbg r:=by
 have := zfv h hb;rw [this.2.2.1];exact λx hx=>hb x (List.mem_of_mem_drop hx)
theorem zzm {size least n:Nat} {l r:List Int} (h:rdM size least l=some (n,r)) (hb:zbg l):zbg r:=let ⟨_,x,hx⟩:=zhw h; zyx hx hb
theorem zr9 {α:Type} {f:List Int -> Option (α×List Int)} {Q:α -> Prop} (hf:∀ l x r,zbg l -> f l=some (x,r) -> Q x∧zbg r):∀ (n:Nat) (l:List Int) (xs:List α) (r:List Int),zbg l -> rdL f n l=some (xs,r) -> (∀ x∈xs,Q x)∧zbg r
 | 0,l,xs,r,hb,h=>by simp only [rdL,Option.some.injEq,Prod.mk.injEq] at h; obtain ⟨rfl,rfl⟩:=h; exact ⟨λx hx=>(by cases hx),hb⟩
 | n+1,l,xs,r,hb,h=>by
  simp only [rdL] at h;cases h1:f l with
  | none=>rw [h1] at h; cases h
  | some p=>
   rw [h1] at h;simp only at h;cases h2:rdL f n p.2 with
   | none=>rw [h2] at h; cases h
   | some q=>
    rw [h2] at h;simp only [Option.some.injEq,Prod.mk.injEq] at h;obtain ⟨rfl,rfl⟩:=h;have a1:=hf l p.1 p.2 hb h1;have a2:=zr9 hf n p.2 q.1 q.2 a1.2 h2;exact ⟨λx hx=>by rcases List.mem_cons.1 hx with rfl | hx; exact a1.1; exact a2.1 x hx,a2.2⟩
theorem yhb {l r:List Int} {k:List Int} (h:zin l=some (k,r)):1+((zfx k).length+r.length)=l.length:=by
 unfold zin at h;cases h1:rdM 1 4 l with
 | none=>rw [h1] at h; cases h
 | some p=>
  rw [h1] at h;have a1:=(zhw h1).1;have a2:=zn1 (enc:=λx=>zam (zb0 x) 4) (λl x r h=>by have := zic h; simp only [za9]; exact this) _ _ _ _ h;unfold zfx; omega
theorem ymw {l r:List Int} {f:Fc} (h:rdF l=some (f,r)):(zdk f).length+r.length=l.length:=by
 unfold rdF at h;cases h1:zin l with
 | none=>rw [h1] at h; cases h
 | some p=>
  rw [h1] at h;simp only at h;cases h2:rd 8 p.2 with
  | none=>rw [h2] at h; cases h
  | some q=>
   rw [h2] at h;simp only [Option.some.injEq,Prod.mk.injEq] at h;obtain ⟨rfl,rfl⟩:=h;have a1:=yhb h1;have a2:=zic h2;rw [ziy];rw [zpg] at a1;simp only; omega
theorem yah {l r:List Int} {fs:List Fc} (h:zfb l=some (fs,r)):(zc8 fs).length+r.length=l.length:=by
 unfold zfb at h;cases h1:rdM 4 9 l with
 | none=>rw [h1] at h; cases h
 | some p=>
  rw [h1] at h;have a1:=(zhw h1).1;have a2:=zn1 (enc:=zdk) (λl x r h=>ymw h) _ _ _ _ h;unfold zc8; rw [List.length_append,za9]; omega
theorem ymk {l r:List Int} {e:En} (h:rdE l=some (e,r)):(zdq e).length+r.length=l.length:=by
 unfold rdE at h;cases h1:rd 4 l with
 | none=>rw [h1] at h; cases h
 | some p=>
  rw [h1] at h;simp only at h;cases h2:zfb p.2 with
  | none=>rw [h2] at h; cases h
  | some q=>
   rw [h2] at h;simp only [Option.some.injEq,Prod.mk.injEq] at h;obtain ⟨rfl,rfl⟩:=h;have a1:=zic h1;have a2:=yah h2;unfold zdq; rw [List.length_append,za9]; simp only; omega
theorem yjn {l r:List Int} {es:List En} (h:zgz l=some (es,r)):(zc9 es).length+r.length=l.length:=by
 unfold zgz at h;cases h1:rdM 4 8 l with
 | none=>rw [h1] at h; cases h
 | some p=>
  rw [h1] at h;have a1:=(zhw h1).1;have a2:=zn1 (enc:=zdq) (λl x r h=>ymk h) _ _ _ _ h;unfold zc9; rw [List.length_append,za9]; omega
theorem zqz {l r:List Int} {ns:List Int} (h:rdN l=some (ns,r)):(zco ns).length+r.length=l.length:=by
 unfold rdN at h;cases h1:rdM 1 1 l with
 | none=>rw [h1] at h; cases h
 | some p=>
  rw [h1] at h;have a1:=(zhw h1).1;have a2:=zn1 (enc:=λx=>zam (zb0 x) 1) (λl x r h=>by have := zic h; simp only [za9]; exact this) _ _ _ _ h;unfold zco; rw [List.length_append,za9]; omega
theorem ypl {l r:List Int} {f:Fc} (hb:zbg l) (h:rdF l=some (f,r)):zet f.2∧zbg r:=by
 unfold rdF at h;cases h1:zin l with
 | none=>rw [h1] at h; cases h
 | some p=>
  rw [h1] at h;simp only at h;cases h2:rd 8 p.2 with
  | none=>rw [h2] at h; cases h
  | some q=>
   rw [h2] at h;simp only [Option.some.injEq,Prod.mk.injEq] at h;obtain ⟨rfl,rfl⟩:=h
   have hp:zbg p.2:=by
    unfold zin at h1;cases h3:rdM 1 4 l with
    | none=>rw [h3] at h1; cases h1
    | some u=>rw [h3] at h1; exact (zr9 (Q:=λ_=>True) (λl x r hb h=>⟨trivial,zyx h hb⟩) _ _ _ _ (zzm h3 hb) h1).2
   refine ⟨?_,zyx h2 hp⟩;unfold zet zgd; simp only; rw [IntKind.wrap_i64]; omega
theorem yd0 {l r:List Int} {fs:List Fc} (hb:zbg l) (h:zfb l=some (fs,r)):(∀ f∈fs,zet f.2)∧zbg r:=by
 unfold zfb at h;cases h1:rdM 4 9 l with
 | none=>rw [h1] at h; cases h
 | some p=>rw [h1] at h; exact zr9 (λl x r hb h=>ypl hb h) _ _ _ _ (zzm h1 hb) h
theorem yoj {l r:List Int} {e:En} (hb:zbg l) (h:rdE l=some (e,r)):(0≤e.1∧e.1<4294967296∧∀ f∈e.2,zet f.2)∧zbg r:=by
 unfold rdE at h;cases h1:rd 4 l with
 | none=>rw [h1] at h; cases h
 | some p=>
  rw [h1] at h;simp only at h;cases h2:zfb p.2 with
  | none=>rw [h2] at h; cases h
  | some q=>
   rw [h2] at h;simp only [Option.some.injEq,Prod.mk.injEq] at h;obtain ⟨rfl,rfl⟩:=h;have a1:=zfv h1 hb;have a2:=yd0 (zyx h1 hb) h2;exact ⟨⟨a1.1,by simpa using a1.2.1,a2.1⟩,a2.2⟩
theorem yo3 {l r:List Int} {es:List En} (hb:zbg l) (h:zgz l=some (es,r)):(∀ e∈es,0≤e.1∧e.1<4294967296∧∀ f∈e.2,zet f.2)∧zbg r:=by
 unfold zgz at h;cases h1:rdM 4 8 l with
 | none=>rw [h1] at h; cases h
 | some p=>rw [h1] at h; exact zr9 (λl x r hb h=>yoj hb h) _ _ _ _ (zzm h1 hb) h
theorem zy7 {l:List Int} {kind id:Int} {l1 l2:List Int} (h1:rd 1 l=some (kind,l1)) (h2:rd 4 l1=some (id,l2)):rdR l =
  if kind=1 then match rdN l2 with
   | none=>none
   | some (ns,l)=>match zfb l with
    | none=>none
    | some (fs,l)=>some (⟨kind,id,0,ns,fs,0,0,[]⟩,l)
  else if kind=2 then match rd 4 l2 with
   | none=>none
   | some (tm,l)=>match rdN l with
    | none=>none
    | some (ns,l)=>some (⟨kind,id,tm,ns,[],0,0,[]⟩,l)
  else if kind=7 then match rd 4 l2 with
   | none=>none
   | some (lo,l)=>match rd 4 l with
    | none=>none
    | some (hi,l)=>match zgz l with
     | none=>none
     | some (es,l)=>some (⟨kind,id,0,[],[],lo,hi,es⟩,l)
  else some (⟨kind,id,0,[],[],0,0,[]⟩,l2):=by
 unfold rdR; rw [h1]; simp only; rw [h2]; try rfl
theorem yog {p:Nat} {v:Value} {l:List Int} (P:zdf F M p v l) (hm:za5 M N) (hv:∀ q,v.ownBlock=some q -> q<N) (h6:∀ x r,rd 1 l=some (x,r) -> x≠6)
  (k:∀ cs F' M' N' r q,rdR l=some (r,q) -> r.kind≠6 -> zdr F' cs r -> r.lens -> r.typ -> za7 F F' -> N≤N' -> (∀ q,q≠p -> q<N -> M' q=M q) -> za5 M' N' -> (Hp.mk F' M' N').wf -> K (.agg cs.toArray) ⟨F',M',N'⟩)
  (kE:rdR l=none -> eOK E F M N p) :
  cF 191 #[.pointer (some ⟨p,0,none⟩)] K E ⟨F,M,N⟩:=by
 refine za4 za8 Tryz.func191 (by kernel_rfl) (yvh _ E _) (λhw=>?_);have hpN:p<N:=hm.lt P.pp;refine zap (cs:=[.int .u8 0,.int .u32 0,.int .u32 0,.slice none 0 0,.slice none 0 0,.int .u32 0,.slice none 0 0,.int .i64 0,.int .i64 0,.slice none 0 0]) (λb1 hb1=>?_);have P1:=P.box hm hb1 (some (.cells 77 [.int .u8 0,.int .u32 0,.int .u32 0,.slice none 0 0,.slice none 0 0,.int .u32 0,.slice none 0 0,.int .i64 0,.int .i64 0,.slice none 0 0] 10));have hm1:=hm.new hb1 (some (.cells 77 [.int .u8 0,.int .u32 0,.int .u32 0,.slice none 0 0,.slice none 0 0,.int .u32 0,.slice none 0 0,.int .i64 0,.int .i64 0,.slice none 0 0] 10));have hM1:∀ q,q≠p -> q<N -> upd M b1 (some (.cells 77 [.int .u8 0,.int .u32 0,.int .u32 0,.slice none 0 0,.slice none 0 0,.int .u32 0,.slice none 0 0,.int .i64 0,.int .i64 0,.slice none 0 0] 10)) q=M q:=λq _ hq=>za3 _ _ (by omega);have hb:=za0 M b1 (some (.cells 77 [.int .u8 0,.int .u32 0,.int .u32 0,.slice none 0 0,.slice none 0 0,.int .u32 0,.slice none 0 0,.int .i64 0,.int .i64 0,.slice none 0 0] 10));generalize upd M b1 _=M1 at *;refine zh5 (size:=1) P1 hm1 (by omega) (by omega) (λv2 M2 kind l2 h2 P2 e2 hM2 hm2 hw2=>?_) (λh=>(kE (by unfold rdR; rw [h])).step (za7.refl _) (by omega) hM1);have hx2:=zfv h2 P.bt;have hk6:=h6 _ _ h2;refine zaa (v:=.int .u8 kind) (by have:IntKind.u8.wrap kind=kind:=(by rw [IntKind.wrap_u8]; have := hx2.2.1; omega); simp [cvV,this]) ?_;refine zh5 (size:=4) P2 hm2 (by omega) (by omega) (λv3 M3 id l3 h3 P3 e3 hM3 hm3 hw3=>?_) (λh=>(kE (by unfold rdR; rw [h2]; simp only; rw [h])).step (za7.refl _) (by omega) (λq q1 q2=>(hM2 q q1).trans (hM1 q q1 q2)));have hx3:=zfv h3 P2.bt;have hR:=zy7 h2 h3;refine zaa (v:=.int .u32 id) (by have:IntKind.u32.wrap id=id:=(by rw [IntKind.wrap_u32]; have := hx3.2.1; omega); simp [cvV,this]) ?_;refine zaa (v:=.agg #[.int .u8 kind,.int .u32 id,.int .u32 0,.slice none 0 0,.slice none 0 0,.int .u32 0,.slice none 0 0,.int .i64 0,.int .i64 0,.slice none 0 0]) (by kernel_rfl) ?_;refine zap (cs:=[.int .u8 0,.int .u32 0,.int .u32 0,.slice none 0 0,.slice none 0 0,.int .u32 0,.slice none 0 0,.int .i64 0,.int .i64 0,.slice none 0 0]) (λb2 hb2=>?_);refine stM (cs':=[.int .u8 kind,.int .u32 id,.int .u32 0,.slice none 0 0,.slice none 0 0,.int .u32 0,.slice none 0 0,.int .i64 0,.int .i64 0,.slice none 0 0]) ?_ (za0 _ _ _) rfl rfl (List.all_eq_true.1 rfl);rw [zan];have P4:=P3.box hm3 hb2 (some (.cells 77 [.int .u8 kind,.int .u32 id,.int .u32 0,.slice none 0 0,.slice none 0 0,.int .u32 0,.slice none 0 0,.int .i64 0,.int .i64 0,.slice none 0 0] 10));have hm4:=hm3.new hb2 (some (.cells 77 [.int .u8 kind,.int .u32 id,.int .u32 0,.slice none 0 0,.slice none 0 0,.int .u32 0,.slice none 0 0,.int .i64 0,.int .i64 0,.slice none 0 0] 10));have hM4:∀ q,q≠p -> q<N -> upd M3 b2 (some (.cells 77 [.int .u8 kind,.int .u32 id,.int .u32 0,.slice none 0 0,.slice none 0 0,.int .u32 0,.slice none 0 0,.int .i64 0,.int .i64 0,.slice none 0 0] 10)) q=M q:=λq q1 q2=>(za3 _ _ (by omega)).trans ((hM3 q q1).trans ((hM2 q q1).trans (hM1 q q1 q2)));have hb1':upd M3 b2 (some (.cells 77 [.int .u8 kind,.int .u32 id,.int .u32 0,.slice none 0 0,.slice none 0 0,.int .u32 0,.slice none 0 0,.int .i64 0,.int .i64 0,.slice none 0 0] 10)) b1=_:=(za3 _ _ (by omega)).trans ((hM3 b1 (by omega)).trans ((hM2 b1 (by omega)).trans hb));have hb2':=za0 M3 b2 (some (.cells 77 [.int .u8 kind,.int .u32 id,.int .u32 0,.slice none 0 0,.slice none 0 0,.int .u32 0,.slice none 0 0,.int .i64 0,.int .i64 0,.slice none 0 0] 10));have hv4:∀ q,v3.ownBlock=some q -> q<b2+1:=λq hq=>by have := hv q (by rw [← e2,← e3]; exact hq); omega
 generalize upd M3 b2 _=M4 at *
 have fin:∀ (F5:Nat -> Option (List Value)) (M5:Nat -> Option zak) (N5:Nat) (r:zaj) (q:List Int) (na:Option Addr) (nc:Nat) (fv ev:Value),rdR l=some (r,q) -> r.kind≠6 -> za7 F F5 -> b2<N5 -> (∀ q,q≠p -> q<N -> M5 q=M q) -> za5 M5 N5 -> M5 b1=some (.cells 77 [.int .u8 0,.int .u32 0,.int .u32 0,.slice none 0 0,.slice none 0 0,.int .u32 0,.slice none 0 0,.int .i64 0,.int .i64 0,.slice none 0 0] 10) ->
   M5 b2=some (.cells 77 [.int .u8 r.kind,.int .u32 r.id,.int .u32 r.tm,.slice na r.ns.length nc,fv,.int .u32 0,.slice none 0 0,.int .i64 r.lo,.int .i64 r.hi,ev] 10) -> sF F5 1 (.slice na r.ns.length nc) r.ns.length (ic r.ns) -> zbo F5 fv r.fs -> zc6 F5 ev r.es -> r.lens -> r.typ ->
   ld true 10 (.pointer (some ⟨b2,0,none⟩)) (λt1=>st 10 (.pointer (some ⟨b1,0,none⟩)) t1 λ_=>ld true 10 (.pointer (some ⟨b1,0,none⟩)) λt2 h=>h.wf -> ∃ h',h.wk h'∧(h'.wf -> K t2 h')) ⟨F5,M5,N5⟩:=by
  intro F5 M5 N5 r q na nc fv ev g1 g2 g3 g4 g5 g6 g7 g8 g9 g10 g11 g12 g13;obtain ⟨fa,fc,rfl⟩:=g10.form;obtain ⟨ea,ec,rfl⟩:∃ ea ec,ev=.slice ea r.es.length ec:=by obtain ⟨rows,h1,_⟩:=g11; obtain ⟨a,c,h2,_⟩:=h1.form; exact ⟨a,c,h2⟩
  refine zb6 (vs:=[.int .u8 r.kind,.int .u32 r.id,.int .u32 r.tm,.slice na r.ns.length nc,.slice fa r.fs.length fc,.int .u32 0,.slice none 0 0,.int .i64 r.lo,.int .i64 r.hi,.slice ea r.es.length ec]) ?_ g8;refine stM (cs':=[.int .u8 r.kind,.int .u32 r.id,.int .u32 r.tm,.slice na r.ns.length nc,.slice fa r.fs.length fc,.int .u32 0,.slice none 0 0,.int .i64 r.lo,.int .i64 r.hi,.slice ea r.es.length ec]) ?_ g7 rfl rfl (List.all_eq_true.1 rfl);refine zb6 (vs:=[.int .u8 r.kind,.int .u32 r.id,.int .u32 r.tm,.slice na r.ns.length nc,.slice fa r.fs.length fc,.int .u32 0,.slice none 0 0,.int .i64 r.lo,.int .i64 r.hi,.slice ea r.es.length ec]) ?_ (za0 _ _ _);exact λhc=>⟨_,za1 hc,λhw'=>k _ F5 _ N5 r q g1 g2 ⟨na,nc,_,none,0,_,rfl,g9,g10,g11⟩ g12 g13 g3 (by omega) (λq q1 q2=>(za3 _ _ (by omega)).trans (g5 q q1 q2)) (g6.set (by omega) _) hw'⟩
 have hidr:0≤id∧id<4294967296:=⟨hx3.1,by have := hx3.2.1; simpa using this⟩;have sFn:∀ F':Nat -> Option (List Value),sF F' 1 (.slice none 0 0) 0 (ic []):=λF'=>by simpa [ic] using sF.nil F' 1 0
 have fn:∀ F':Nat -> Option (List Value),zbo F' (.slice none 0 0) []:=λF'=>⟨[],by simpa using sF.nil F' 2 0,zag.nil _ _⟩;have en:∀ F':Nat -> Option (List Value),zc6 F' (.slice none 0 0) []:=λF'=>⟨[],by simpa using sF.nil F' 2 0,zag.nil _ _⟩;try simp only [sS]
 refine ldM (v:=.int .u8 kind) ?_ hb2';refine zau (λg1=>?_) (λg1=>?_)
 ·rw [if_pos g1] at hR;refine zax ?_;refine ybp P4 hm4 hv4 (λnv v5 F5 M5 N5 ns l5 h5 P5 e5 hF5 hnv hN5 hM5 hm5 hw5=>?_) (λh=>(kE (by rw [hR,h])).step (za7.refl _) (by omega) hM4);obtain ⟨na,nc,rfl,_⟩:=hnv.form
  have hnl:ns.length≤100000:=by
   have a1:=zqz h5;have a2:=zgt (λx=>zam (zb0 x) 1) 1 ns λx _=>by rw [za9]; omega
   unfold zco at a1;rw [List.length_append,za9] at a1;have := P3.ln; omega
  have hb5:=(hM5 b2 (by omega) (by omega)).trans hb2';try simp only [sS]
  refine stM (cs':=[.int .u8 kind,.int .u32 id,.int .u32 0,.slice na ns.length nc,.slice none 0 0,.int .u32 0,.slice none 0 0,.int .i64 0,.int .i64 0,.slice none 0 0]) ?_ hb5 rfl rfl (List.all_eq_true.1 rfl)
  have P6:zdf F5 (upd M5 b2 (some (.cells 77 [.int .u8 kind,.int .u32 id,.int .u32 0,.slice na ns.length nc,.slice none 0 0,.int .u32 0,.slice none 0 0,.int .i64 0,.int .i64 0,.slice none 0 0] 10))) p v5 l5 :=
   P5.keep (za7.refl _) (za3 _ _ (by omega)) (λq c hq h=>(za3 _ _ (by have := hv q (by rw [← e2,← e3,← e5]; exact hq); omega)).trans h)
  refine yc1 P6 (hm5.set (by omega) _) (λq hq=>by have := hv q (by rw [← e2,← e3,← e5]; exact hq); omega) (λfv v7 F7 M7 N7 fs l7 h7 P7 e7 hF7 hfv hfl hN7 hM7 hm7 hw7=>?_) (λh=>(kE (by rw [hR,h5]; simp only; rw [h])).step hF5 (by omega) (λq q1 q2=>(za3 _ _ (by omega)).trans ((hM5 q q1 (by omega)).trans (hM4 q q1 q2))));obtain ⟨fa,fc,rfl⟩:=hfv.form;try simp only [sS]
  refine stM (cs':=[.int .u8 kind,.int .u32 id,.int .u32 0,.slice na ns.length nc,.slice fa fs.length fc,.int .u32 0,.slice none 0 0,.int .i64 0,.int .i64 0,.slice none 0 0]) ?_ ((hM7 b2 (by omega) (by omega)).trans (za0 _ _ _)) rfl rfl (List.all_eq_true.1 rfl);rw [zl1]
  refine fin F7 _ N7 ⟨kind,id,0,ns,fs,0,0,[]⟩ l7 na nc _ _ (by rw [hR,h5]; simp only; rw [h7]) hk6 (hF5.trans hF7) (by omega) (λq q1 q2=>(za3 _ _ (by omega)).trans ((hM7 q q1 (by omega)).trans ((za3 _ _ (by omega)).trans ((hM5 q q1 (by omega)).trans (hM4 q q1 q2))))) (hm7.set (by omega) _)
   ((za3 _ _ (by omega)).trans ((hM7 b1 (by omega) (by omega)).trans ((za3 _ _ (by omega)).trans ((hM5 b1 (by omega) (by omega)).trans hb1')))) (za0 _ _ _) (hnv.mono hF7) hfv (en F7) ⟨by simp only; omega,by simp only; omega,by simp,by simp⟩ ⟨hidr,by simp,(yd0 P5.bt h7).1,by simp⟩
 ·rw [if_neg g1] at hR;refine zaq ?_;refine zau (λg2=>?_) (λg2=>?_)
  ·rw [if_pos g2] at hR;refine zax ?_;refine zh5 (size:=4) P4 hm4 (by omega) (by omega) (λv5 M5 tm l5 h5 P5 e5 hM5 hm5 hw5=>?_) (λh=>(kE (by rw [hR,h])).step (za7.refl _) (by omega) hM4);have hx5:=zfv h5 P4.bt;have hb5:=(hM5 b2 (by omega)).trans hb2';refine zaa (v:=.int .u32 tm) (by have:IntKind.u32.wrap tm=tm:=(by rw [IntKind.wrap_u32]; have := hx5.2.1; omega); simp [cvV,this]) ?_;try simp only [sS]
   refine stM (cs':=[.int .u8 kind,.int .u32 id,.int .u32 tm,.slice none 0 0,.slice none 0 0,.int .u32 0,.slice none 0 0,.int .i64 0,.int .i64 0,.slice none 0 0]) ?_ hb5 rfl rfl (List.all_eq_true.1 rfl)
   have P6:zdf F (upd M5 b2 (some (.cells 77 [.int .u8 kind,.int .u32 id,.int .u32 tm,.slice none 0 0,.slice none 0 0,.int .u32 0,.slice none 0 0,.int .i64 0,.int .i64 0,.slice none 0 0] 10))) p v5 l5 :=
    P5.keep (za7.refl _) (za3 _ _ (by omega)) (λq c hq h=>(za3 _ _ (by have := hv q (by rw [← e2,← e3,← e5]; exact hq); omega)).trans h)
   refine ybp P6 (hm5.set (by omega) _) (λq hq=>by have := hv q (by rw [← e2,← e3,← e5]; exact hq); omega) (λnv v7 F7 M7 N7 ns l7 h7 P7 e7 hF7 hnv hN7 hM7 hm7 hw7=>?_) (λh=>(kE (by rw [hR,h5]; simp only; rw [h])).step (za7.refl _) (by omega) (λq q1 q2=>(za3 _ _ (by omega)).trans ((hM5 q q1).trans (hM4 q q1 q2))));obtain ⟨na,nc,rfl,_⟩:=hnv.form
   have hnl:ns.length≤100000:=by
    have a1:=zqz h7;have a2:=zgt (λx=>zam (zb0 x) 1) 1 ns λx _=>by rw [za9]; omega
    unfold zco at a1;rw [List.length_append,za9] at a1;have := P5.ln; omega
   try simp only [sS]
   refine stM (cs':=[.int .u8 kind,.int .u32 id,.int .u32 tm,.slice na ns.length nc,.slice none 0 0,.int .u32 0,.slice none 0 0,.int .i64 0,.int .i64 0,.slice none 0 0]) ?_ ((hM7 b2 (by omega) (by omega)).trans (za0 _ _ _)) rfl rfl (List.all_eq_true.1 rfl);rw [zl1]
   refine fin F7 _ N7 ⟨kind,id,tm,ns,[],0,0,[]⟩ l7 na nc _ _ (by rw [hR,h5]; simp only; rw [h7]) hk6 hF7 (by omega) (λq q1 q2=>(za3 _ _ (by omega)).trans ((hM7 q q1 (by omega)).trans ((za3 _ _ (by omega)).trans ((hM5 q q1).trans (hM4 q q1 q2))))) (hm7.set (by omega) _)
    ((za3 _ _ (by omega)).trans ((hM7 b1 (by omega) (by omega)).trans ((za3 _ _ (by omega)).trans ((hM5 b1 (by omega)).trans hb1')))) (za0 _ _ _) hnv (fn F7) (en F7) ⟨by simp only; omega,by simp,by simp,by simp⟩ ⟨hidr,⟨hx5.1,by have := hx5.2.1; simpa using this⟩,by simp,by simp⟩
  ·rw [if_neg g2] at hR;refine zaq ?_;refine zbj hk6 (zaq ?_);refine zau (λg7=>?_) (λg7=>?_)
   ·rw [if_pos g7] at hR;refine zax ?_;refine zh5 (size:=4) P4 hm4 (by omega) (by omega) (λv5 M5 lo l5 h5 P5 e5 hM5 hm5 hw5=>?_) (λh=>(kE (by rw [hR,h])).step (za7.refl _) (by omega) hM4);have hx5:=zfv h5 P4.bt;have hb5:=(hM5 b2 (by omega)).trans hb2';refine ztu hx5.1 (by have := hx5.2.1; omega) ?_;try simp only [sS]
    refine stM (cs':=[.int .u8 kind,.int .u32 id,.int .u32 0,.slice none 0 0,.slice none 0 0,.int .u32 0,.slice none 0 0,.int .i64 lo,.int .i64 0,.slice none 0 0]) ?_ hb5 rfl rfl (List.all_eq_true.1 rfl)
    have P6:zdf F (upd M5 b2 (some (.cells 77 [.int .u8 kind,.int .u32 id,.int .u32 0,.slice none 0 0,.slice none 0 0,.int .u32 0,.slice none 0 0,.int .i64 lo,.int .i64 0,.slice none 0 0] 10))) p v5 l5 :=
     P5.keep (za7.refl _) (za3 _ _ (by omega)) (λq c hq h=>(za3 _ _ (by have := hv q (by rw [← e2,← e3,← e5]; exact hq); omega)).trans h)
    have hM6:∀ q,q≠p -> q<N -> upd M5 b2 (some (.cells 77 [.int .u8 kind,.int .u32 id,.int .u32 0,.slice none 0 0,.slice none 0 0,.int .u32 0,.slice none 0 0,.int .i64 lo,.int .i64 0,.slice none 0 0] 10)) q=M q:=λq q1 q2=>(za3 _ _ (by omega)).trans ((hM5 q q1).trans (hM4 q q1 q2));refine zh5 (size:=4) P6 (hm5.set (by omega) _) (by omega) (by omega) (λv7 M7 hi l7 h7 P7 e7 hM7 hm7 hw7=>?_) (λh=>(kE (by rw [hR,h5]; simp only; rw [h])).step (za7.refl _) (by omega) hM6);have hx7:=zfv h7 P6.bt;refine ztu hx7.1 (by have := hx7.2.1; omega) ?_;try simp only [sS]
    refine stM (cs':=[.int .u8 kind,.int .u32 id,.int .u32 0,.slice none 0 0,.slice none 0 0,.int .u32 0,.slice none 0 0,.int .i64 lo,.int .i64 hi,.slice none 0 0]) ?_ ((hM7 b2 (by omega)).trans (za0 _ _ _)) rfl rfl (List.all_eq_true.1 rfl)
    have P8:zdf F (upd M7 b2 (some (.cells 77 [.int .u8 kind,.int .u32 id,.int .u32 0,.slice none 0 0,.slice none 0 0,.int .u32 0,.slice none 0 0,.int .i64 lo,.int .i64 hi,.slice none 0 0] 10))) p v7 l7 :=
     P7.keep (za7.refl _) (za3 _ _ (by omega)) (λq c hq h=>(za3 _ _ (by have := hv q (by rw [← e2,← e3,← e5,← e7]; exact hq); omega)).trans h)
    have hM8:∀ q,q≠p -> q<N -> upd M7 b2 (some (.cells 77 [.int .u8 kind,.int .u32 id,.int .u32 0,.slice none 0 0,.slice none 0 0,.int .u32 0,.slice none 0 0,.int .i64 lo,.int .i64 hi,.slice none 0 0] 10)) q=M q:=λq q1 q2=>(za3 _ _ (by omega)).trans ((hM7 q q1).trans (hM6 q q1 q2));refine ymz P8 (hm7.set (by omega) _) (λq hq=>by have := hv q (by rw [← e2,← e3,← e5,← e7]; exact hq); omega) (λev v9 F9 M9 N9 es l9 h9 P9 e9 hF9 hev hel hN9 hM9 hm9 hw9=>?_) (λh=>(kE (by rw [hR,h5]; simp only; rw [h7]; simp only; rw [h])).step (za7.refl _) (by omega) hM8);have hev':=hev;obtain ⟨ea,ec,e0⟩:∃ ea ec,ev=.slice ea es.length ec:=by obtain ⟨rows,h1,_⟩:=hev; obtain ⟨a,c,h2,_⟩:=h1.form; exact ⟨a,c,h2⟩
    try simp only [sS]
    refine stM (cs':=[.int .u8 kind,.int .u32 id,.int .u32 0,.slice none 0 0,.slice none 0 0,.int .u32 0,.slice none 0 0,.int .i64 lo,.int .i64 hi,ev]) ?_ ((hM9 b2 (by omega) (by omega)).trans (za0 _ _ _)) (by rw [e0]; rfl) (by rw [e0]; rfl) (by rw [e0]; exact List.all_eq_true.1 rfl);rw [zl1];have hes:=yo3 P7.bt h9
    refine fin F9 _ N9 ⟨kind,id,0,[],[],lo,hi,es⟩ l9 none 0 _ _ (by rw [hR,h5]; simp only; rw [h7]; simp only; rw [h9]) hk6 hF9 (by omega) (λq q1 q2=>(za3 _ _ (by omega)).trans ((hM9 q q1 (by omega)).trans (hM8 q q1 q2))) (hm9.set (by omega) _)
     ((za3 _ _ (by omega)).trans ((hM9 b1 (by omega) (by omega)).trans ((za3 _ _ (by omega)).trans ((hM7 b1 (by omega)).trans ((za3 _ _ (by omega)).trans ((hM5 b1 (by omega)).trans hb1')))))) (za0 _ _ _) (sFn F9) (fn F9) hev' ⟨by simp,by simp,by simp only; omega,λx hx=>(hes.1 x hx).1⟩ ⟨hidr,by simp,by simp,hes.1⟩
   ·rw [if_neg g7] at hR;refine zaq ?_;rw [zl1];exact fin F _ (b2+1) ⟨kind,id,0,[],[],0,0,[]⟩ l3 none 0 _ _ hR hk6 (za7.refl _) (by omega) hM4 hm4 hb1' hb2' (sFn F) (fn F) (en F) ⟨by simp,by simp,by simp,by simp⟩ ⟨hidr,by simp,by simp,by simp⟩
def zac:List Value:=[.int .u8 0,.int .u32 0,.int .u32 0,.slice none 0 0,.slice none 0 0,.int .u32 0,.slice none 0 0,.int .i64 0,.int .i64 0,.slice none 0 0]
theorem yhf {R:Ending -> FrameMode -> Hp -> Prop} {h:Hp} {a b:Value} (k:R (.returned (.tuple #[])) .returning h):zqr Tryz.prog 190 #[a,b] .returning R h:=by
 refine zoh za8 Tryz.func190 (id:=0) (rest:=sel (zaf Tryz.f190) [1]) (ops:=zgs (sel (zaf Tryz.f190) [0])) (d:=some 5) (by kernel_rfl) (by kernel_rfl) (by kernel_rfl)
  (X:=pv (zo2 .eql .nilIface) λt1=>cnd t1 (R (.returned (.tuple #[])) .returning) (pv (taV 286 (.agg #[]) .nilIface) λt2=>pv (exV 1 t2) λt3=>pv (exV 0 t2) λt4=>cnd t3
   (nw 286 [] λt5=>st 0 t5 t4 λ_=>pv (bdC zac.toArray [(0,1),(1,1),(2,1),(3,1),(4,1),(5,2),(7,1),(8,1),(9,1)] #[]) λt6=>st 10 a t6 λ_=>st 1 b (.bool false) λ_=>R (.returned (.tuple #[])) .returning)
   (pnc .nilIface (λc h=>c≠[]∧R (.panicked c) .returning h) λ_=>R (.returned (.tuple #[])) .returning))) (by kernel_rfl) ?_
 exact zaa rfl (zax k)
theorem yho {R:Ending -> FrameMode -> Hp -> Prop} {xb ib:Nat} {cs:List Value} {i0:Value} (hx:M xb=some (.cells 77 cs 10)) (hl:cs.length=10) (hi:M ib=some (.cells 4 [i0] 1)) (hne:xb≠ib) (hm:za5 M N)
  (k:∀ M' N',(∀ q,q≠xb -> q≠ib -> q<N -> M' q=M q) -> M' xb=some (.cells 77 zac 10) -> M' ib=some (.cells 4 [.bool false] 1) -> N≤N' -> za5 M' N' -> R (.returned (.tuple #[])) (.panicking [{ v:=.iface 286 (.agg #[]),recovered:=true }]) ⟨F,M',N'⟩) :
  zqr Tryz.prog 190 #[.pointer (some ⟨xb,0,none⟩),.pointer (some ⟨ib,0,none⟩)] (.panicking zkp) R ⟨F,M,N⟩:=by
 refine zoh za8 Tryz.func190 (id:=0) (rest:=sel (zaf Tryz.f190) [1]) (ops:=zgs (sel (zaf Tryz.f190) [0])) (d:=some 5) (by kernel_rfl) (by kernel_rfl) (by kernel_rfl)
  (X:=pv (zo2 .eql (.iface 286 (.agg #[]))) λt1=>cnd t1 (R (.returned (.tuple #[])) (zi4 (.panicking zkp)).2) (pv (taV 286 (.agg #[]) (.iface 286 (.agg #[]))) λt2=>pv (exV 1 t2) λt3=>pv (exV 0 t2) λt4=>cnd t3
   (nw 286 [] λt5=>st 0 t5 t4 λ_=>pv (bdC zac.toArray [(0,1),(1,1),(2,1),(3,1),(4,1),(5,2),(7,1),(8,1),(9,1)] #[]) λt6=>st 10 (.pointer (some ⟨xb,0,none⟩)) t6 λ_=>st 1 (.pointer (some ⟨ib,0,none⟩)) (.bool false) λ_=>R (.returned (.tuple #[])) (zi4 (.panicking zkp)).2)
   (pnc (.iface 286 (.agg #[])) (λc h=>c≠[]∧R (.panicked c) (zi4 (.panicking zkp)).2 h) λ_=>R (.returned (.tuple #[])) (zi4 (.panicking zkp)).2))) (by kernel_rfl) ?_
 refine zaa rfl (zaq ?_);refine zaa (v:=.tuple #[.agg #[],.bool true]) rfl (zaa rfl (zaa rfl (zax ?_)));refine zap (cs:=[]) (λb5 hb5=>?_);refine stM (cs':=[]) ?_ (za0 _ _ _) rfl rfl (λc hc=>by cases hc) (by simp);rw [zan];refine zaa (v:=.agg zac.toArray) (by kernel_rfl) ?_;have hxN:=hm.lt hx;have hiN:=hm.lt hi;refine stM (cs':=zac) ?_ ((za3 _ _ (by omega)).trans hx) ?_ rfl (List.all_eq_true.1 rfl) (by omega)
 ·refine stM (cs':=[.bool false]) ?_ ((za3 _ _ (λe=>hne e.symm)).trans ((za3 _ _ (by omega)).trans hi)) rfl rfl (List.all_eq_true.1 rfl);refine k _ _ (λq q1 q2 q3=>(za3 _ _ q2).trans ((za3 _ _ q1).trans (za3 _ _ (by omega)))) ((za3 _ _ hne).trans (za0 _ _ _)) (za0 _ _ _) (by omega) ?_;exact ((hm.new hb5 _).set (by omega) _).set (by omega) _
 ·show zb3 cs 0 zac=zac;unfold zb3;rw [List.drop_eq_nil_of_le (by simp [zac]; omega)]; simp
theorem yn6 {v:Value} {l:List Int} (hv:sR F M 1 v l.length (bts l)) (ho:∀ q,v.ownBlock=some q -> q<N) (hb8:zbg l) (hln:l.length≤100000) (h6:∀ x r,rd 1 l=some (x,r) -> x≠6)
  (k1:∀ cs F' M' N' r q,rdR l=some (r,q) -> r.kind≠6 -> zdr F' cs r -> r.lens -> r.typ -> za7 F F' -> N≤N' -> (∀ q,q<N -> M' q=M q) -> za5 M' N' -> (Hp.mk F' M' N').wf -> K (.tuple #[.agg cs.toArray,.bool true]) ⟨F',M',N'⟩)
  (k0:rdR l=none -> ∀ F' M' N',za7 F F' -> N≤N' -> (∀ q,q<N -> M' q=M q) -> za5 M' N' -> (Hp.mk F' M' N').wf -> K (.tuple #[.agg zac.toArray,.bool false]) ⟨F',M',N'⟩) :
  cF 137 #[v] K E ⟨F,M,N⟩:=by
 refine zsm Tryz.func137 (by kernel_rfl) (λhw=>?_);have hm:za5 M N:=hw.m;obtain ⟨va,vc,rfl,_⟩:=hv.form;refine zd0 (a:=sel (zaf Tryz.f137) [0]) (b:=sel (zaf Tryz.f137) [1]) (by kernel_rfl) ?_;refine zcz za8 (zc0 zd2) (yok ..) ?_;refine zap (cs:=zac) (λxb hxb=>?_);refine zap (cs:=[.bool false]) (λib hib=>?_);have hx:upd (upd M xb (some (.cells 77 zac 10))) ib (some (.cells 4 [.bool false] 1)) xb=some (.cells 77 zac 10):=(za3 _ _ (by omega)).trans (za0 _ _ _);have hi:upd (upd M xb (some (.cells 77 zac 10))) ib (some (.cells 4 [.bool false] 1)) ib=some (.cells 4 [.bool false] 1):=za0 _ _ _;have hM1:∀ q,q<N -> upd (upd M xb (some (.cells 77 zac 10))) ib (some (.cells 4 [.bool false] 1)) q=M q:=λq hq=>(za3 _ _ (by omega)).trans (za3 _ _ (by omega));have hm1:za5 (upd (upd M xb (some (.cells 77 zac 10))) ib (some (.cells 4 [.bool false] 1))) (ib+1):=(hm.new hxb _).new hib _;show zbi _ _ _ _ _ ⟨F,upd (upd M xb (some (.cells 77 zac 10))) ib (some (.cells 4 [.bool false] 1)),ib+1⟩;generalize upd (upd M xb (some (.cells 77 zac 10))) ib (some (.cells 4 [.bool false] 1))=M1 at *;refine zd0 (a:=sel (zaf Tryz.f137) [1,0]) (b:=sel (zaf Tryz.f137) [1,1]) (by kernel_rfl) ?_;refine zxq (id:=1) (by kernel_rfl) (zc0 zd2) (yio ..) ⟨_,_,_,rfl,?_⟩;refine zcz za8 zd2 (yke ..) ?_;refine zaa (v:=.agg #[.slice va l.length vc]) (by kernel_rfl) ?_;refine zap (cs:=[.slice va l.length vc]) (λp hp=>?_);have hv1:sR F M1 1 (.slice va l.length vc) l.length (bts l):=hv.keep (za7.refl _) λq c hq h=>(hM1 q (ho q hq)).trans h;have P:zdf F (upd M1 p (some (.cells 289 [.slice va l.length vc] 1))) p (.slice va l.length vc) l:=⟨za0 _ _ _,hv1.keep (za7.refl _) (λq c hq h=>(za3 _ _ (by have := ho q hq; omega)).trans h),λh=>by have := ho p h; omega,hb8,hln⟩;have hm2:=hm1.new hp (some (.cells 289 [.slice va l.length vc] 1));have hM2:∀ q,q<p -> upd M1 p (some (.cells 289 [.slice va l.length vc] 1)) q=M1 q:=λq hq=>za3 _ _ (by omega);show zbs _ _ _ _ _ ⟨F,upd M1 p (some (.cells 289 [.slice va l.length vc] 1)),p+1⟩;generalize upd M1 p (some (.cells 289 [.slice va l.length vc] 1))=M2 at *;refine yog P hm2 (λq hq=>by have := ho q hq; omega) h6 (λcs F3 M3 N3 r q h1 h2 h3 h4 h5 hF3 hN3 hM3 hm3 hw3=>?_) (λh0 F3 M3 N3 hF3 hN3 hM3 hm3 hw3=>?_)
 ·have hx3:=(hM3 xb (by omega) (by omega)).trans ((hM2 xb (by omega)).trans hx);have hi3:=(hM3 ib (by omega) (by omega)).trans ((hM2 ib (by omega)).trans hi);have hlen:cs.length=10:=(h3.rec.one).1;refine stM (cs':=cs) ?_ hx3 ?_ (by simpa [Value.cells] using hlen) (by simpa [Value.cells] using h3.rec.one.2) (by simp [zac])
  ·refine stM (cs':=[.bool true]) ?_ ((za3 _ _ (by omega)).trans hi3) rfl rfl (List.all_eq_true.1 rfl);refine ⟨by simp,by kernel_rfl,yhf ?_⟩;refine zb6 (vs:=cs) ?_ ((za3 _ _ (by omega)).trans (za0 _ _ _)) (by exact (show (List.drop 0 cs).take 10=cs by rw [List.drop_zero,← hlen,List.take_length])) (by exact (show 0+10≤cs.length by omega));refine ldM (v:=.bool true) ?_ (za0 _ _ _);exact λhc=>⟨_,za1 hc,λhw'=>k1 cs F3 _ N3 r q h1 h2 h3 h4 h5 hF3 (by omega) (λq hq=>(za3 _ _ (by omega)).trans ((za3 _ _ (by omega)).trans ((hM3 q (by omega) (by omega)).trans ((hM2 q (by omega)).trans (hM1 q hq))))) ((hm3.set (by omega) _).set (by omega) _) hw'⟩
  ·show zb3 zac 0 cs.toArray.toList=cs;unfold zb3;rw [List.drop_eq_nil_of_le (by simp [zac]; omega)]; simp
 ·have hx3:=(hM3 xb (by omega) (by omega)).trans ((hM2 xb (by omega)).trans hx);have hi3:=(hM3 ib (by omega) (by omega)).trans ((hM2 ib (by omega)).trans hi);refine ⟨by simp [zkp],by simp,by kernel_rfl,?_⟩;refine yho hx3 rfl hi3 (by omega) hm3 (λM4 N4 hM4 hx4 hi4 hN4 hm4=>?_);refine zb6 (vs:=zac) ?_ hx4 rfl (by exact (show 0+10≤zac.length by decide));refine ldM (v:=.bool false) ?_ hi4;exact λhc=>⟨_,za1 hc,λhw'=>k0 h0 F3 M4 N4 hF3 (by omega) (λq hq=>(hM4 q (by omega) (by omega) (by omega)).trans ((hM3 q (by omega) (by omega)).trans ((hM2 q (by omega)).trans (hM1 q hq)))) hm4 hw'⟩
def tb (l:List Int):List UInt8:=l.map λn=>UInt8.ofNat (Int.toNat n)
theorem yhn:∀ {l m:List Int},(∀ x∈l,0≤x∧x<256) -> (∀ x∈m,0≤x∧x<256) -> tb l=tb m -> l=m
 | [],[],_,_,_=>rfl
 | [],y::m,_,_,h=>by cases h
 | x::l,[],_,_,h=>by cases h
 | x::l,y::m,h1,h2,h=>by
  simp only [tb,List.map_cons,List.cons.injEq] at h;have hx:=h1 x (List.mem_cons_self ..);have hy:=h2 y (List.mem_cons_self ..);have h3:=congrArg UInt8.toNat h.1;rw [UInt8.toNat_ofNat',UInt8.toNat_ofNat',Nat.mod_eq_of_lt (by omega),Nat.mod_eq_of_lt (by omega)] at h3;rw [yhn (λz hz=>h1 z (List.mem_cons_of_mem _ hz)) (λz hz=>h2 z (List.mem_cons_of_mem _ hz)) h.2]
  congr 1; omega
theorem yr9 {e:EqK} {l m:List Int} {h:Hp} (h1:zbg l) (h2:zbg m) (k:K (.bool (decide (l=m))) h):pv (za2 e .eql (.string ⟨(l.map (λn=>UInt8.ofNat (Int.toNat n))).toArray⟩) (.string ⟨(m.map (λn=>UInt8.ofNat (Int.toNat n))).toArray⟩)) K h:=by
 refine ⟨_,by simp [za2,zvy]; rfl,?_⟩
 have:(tb l == tb m)=decide (l=m):=by
  by_cases hlm:l=m
  ·subst hlm; simp
  ·rw [decide_eq_false hlm];exact beq_eq_false_iff_ne.2 λh=>hlm (yhn h1 h2 h)
 show K (.bool (tb l == tb m)) h;rw [this]; exact k
theorem ye7 {u v:Value} {l m:List Int} (hu:sR F M 1 u l.length (bts l)) (hv:sR F M 1 v m.length (bts m)) (h1:zbg l) (h2:zbg m) (k:(Hp.mk F M N).wf -> K (.bool (decide (l=m))) ⟨F,M,N⟩) :
  cF 97 #[u,v] K E ⟨F,M,N⟩:=by
 refine za4 za8 Tryz.func97 (by kernel_rfl) (t97 _ E _ _) (λhw=>?_);refine zm5 hu.read (zm5 hv.read (yr9 h1 h2 ?_));exact λhc=>⟨_,za1 hc,k⟩
theorem zda (x:Int) (n:Nat):zbg (zam x n):=λy hy=>by
 simp only [zam,zgb,List.mem_map] at hy;obtain ⟨j,_,rfl⟩:=hy;unfold zja; rw [IntKind.wrap_u8]; omega
theorem zfk {l m:List Int} (h1:zbg l) (h2:zbg m):zbg (l++m):=λx hx=>by
 rcases List.mem_append.1 hx with h | h
 ·exact h1 x h
 ·exact h2 x h
theorem zn5 {α:Type} {f:α -> List Int} {l:List α} (h:∀ a∈l,zbg (f a)):zbg (l.flatMap f):=λx hx=>by
 obtain ⟨a,ha,hx⟩:=List.mem_flatMap.1 hx;exact h a ha x hx
theorem yo8 (f:Fc):zbg (zdk f):=zfk (zda _ _) (zfk (zn5 λ_ _=>zda _ _) (zda _ _))
theorem yb4 (l:List Fc):zbg (zc8 l):=zfk (zda _ _) (zn5 λf _=>yo8 f)
theorem yip (l:List En):zbg (zc9 l):=zfk (zda _ _) (zn5 λe _=>zfk (zda _ _) (yb4 _))
theorem ydk (l:List Int):zbg (zco l):=zfk (zda _ _) (zn5 λ_ _=>zda _ _)
theorem zl9 (r:zaj):zbg (zah r):=by
 unfold zah;refine zfk (zda _ _) (zfk (zda _ _) ?_)
 split
 ·exact zfk (ydk _) (yb4 _)
 ·split
  ·exact zfk (zda _ _) (ydk _)
  ·split
   ·exact zfk (zda _ _) (zfk (zda _ _) (yip _))
   ·exact λx hx=>by cases hx
theorem yn4 {l q:List Int} {r:zaj} (h:rdR l=some (r,q)):(zah r).length+q.length=l.length:=by
 cases h1:rd 1 l with
 | none=>unfold rdR at h; rw [h1] at h; cases h
 | some p=>
  cases h2:rd 4 p.2 with
  | none=>unfold rdR at h; rw [h1] at h; simp only at h; rw [h2] at h; cases h
  | some s=>
   rw [zy7 (l1:=p.2) (kind:=p.1) h1 h2] at h;have a1:=zic h1;have a2:=zic h2
   have fin:∀ r':zaj,r'.kind=p.1 -> (zah r').length=5+((if p.1=1 then zco r'.ns++zc8 r'.fs else if p.1=2 then zam r'.tm 4++zco r'.ns else if p.1=7 then zam (zb0 r'.lo) 4++(zam (zb0 r'.hi) 4++zc9 r'.es) else []:List Int)).length:=λr' e=>by
    unfold zah; rw [e]; simp only [List.length_append,za9]; omega
   split at h
   ·rename_i g
    cases h3:rdN s.2 with
    | none=>rw [h3] at h; cases h
    | some t=>
     rw [h3] at h;simp only at h;cases h4:zfb t.2 with
     | none=>rw [h4] at h; cases h
     | some u=>
      rw [h4] at h;simp only [Option.some.injEq,Prod.mk.injEq] at h;obtain ⟨rfl,rfl⟩:=h;have a3:=zqz h3;have a4:=yah h4;rw [fin _ rfl,if_pos g,List.length_append]; simp only; omega
   ·rename_i g
    split at h
    ·rename_i g2
     cases h3:rd 4 s.2 with
     | none=>rw [h3] at h; cases h
     | some t=>
      rw [h3] at h;simp only at h;cases h4:rdN t.2 with
      | none=>rw [h4] at h; cases h
      | some u=>
       rw [h4] at h;simp only [Option.some.injEq,Prod.mk.injEq] at h;obtain ⟨rfl,rfl⟩:=h;have a3:=zic h3;have a4:=zqz h4;rw [fin _ rfl,if_neg g,if_pos g2,List.length_append,za9]; simp only; omega
    ·rename_i g2
     split at h
     ·rename_i g7
      cases h3:rd 4 s.2 with
      | none=>rw [h3] at h; cases h
      | some t=>
       rw [h3] at h;simp only at h;cases h4:rd 4 t.2 with
       | none=>rw [h4] at h; cases h
       | some u=>
        rw [h4] at h;simp only at h;cases h5:zgz u.2 with
        | none=>rw [h5] at h; cases h
        | some w=>
         rw [h5] at h
         simp only [Option.some.injEq,Prod.mk.injEq] at h
         obtain ⟨rfl,rfl⟩:=h
         have a3:=zic h3
         have a4:=zic h4
         have a5:=yjn h5
         rw [fin _ rfl,if_neg g,if_neg g2,if_pos g7,List.length_append,List.length_append,za9,za9]; simp only; omega
     ·rename_i g7
      simp only [Option.some.injEq,Prod.mk.injEq] at h;obtain ⟨rfl,rfl⟩:=h;rw [fin _ rfl,if_neg g,if_neg g2,if_neg g7]; simp; omega
def zg2 (l:List Int):Option zaj:=match rdR l with
 | some (r,_)=>if zbn r=true∧zah r=l then some r else none
 | none=>none
theorem yau {r:zaj} (h:zbn r=true) (t:r.typ):zg2 (zah r)=some r:=by
 have := ydr h t [];rw [List.append_nil] at this;unfold zg2; rw [this]; simp only;rw [if_pos ⟨h,by trivial⟩]
theorem zdr.keep {cs:List Value} {r:zaj} (h:zdr F cs r):cs.length=10∧∀ c∈cs,c.oneCell'=true:=h.rec.one
theorem yi8 {v:Value} {l:List Int} (hv:sR F M 1 v l.length (bts l)) (ho:∀ q,v.ownBlock=some q -> q<N) (hb8:zbg l) (hln:l.length≤60000) (h6:∀ x r,rd 1 l=some (x,r) -> x≠6)
  (k1:∀ cs F' M' N' r,zg2 l=some r -> zdr F' cs r -> r.lens -> r.typ -> za7 F F' -> N≤N' -> (∀ q,q<N -> M' q=M q) -> za5 M' N' -> (Hp.mk F' M' N').wf -> K (.tuple #[.agg cs.toArray,.int .u16 0]) ⟨F',M',N'⟩)
  (k0:zg2 l=none -> ∀ F' M' N',za7 F F' -> N≤N' -> (∀ q,q<N -> M' q=M q) -> za5 M' N' -> (Hp.mk F' M' N').wf -> K (.tuple #[.agg zac.toArray,.int .u16 70]) ⟨F',M',N'⟩) :
  cF 95 #[v] K E ⟨F,M,N⟩:=by
 refine za4 za8 Tryz.func95 (by kernel_rfl) (t95 _ E _) (λhw=>?_);have hm:za5 M N:=hw.m;have hlv:zab v=some (.int .i64 (l.length:Nat)):=by obtain ⟨a,c,h,_⟩:=hv.form; rw [h]; rfl
 refine zap (cs:=zac) (λxb hxb=>?_);refine zaa hlv ?_;refine zr2 (by omega) (zaq ?_);have hv1:sR F (upd M xb (some (.cells 77 zac 10))) 1 v l.length (bts l):=hv.keep (za7.refl _) λq c hq h=>(za3 _ _ (by have := ho q hq; omega)).trans h
 have no:zg2 l=none -> ∀ F3 M3 N3,za7 F F3 -> xb<N3 -> (∀ q,q<N -> M3 q=M q) -> M3 xb=some (.cells 77 zac 10) -> za5 M3 N3 ->
   pv (bdC zac.toArray [(0,1),(1,1),(2,1),(3,1),(4,1),(5,2),(7,1),(8,1),(9,1)] #[]) (λt4=>st 10 (.pointer (some ⟨xb,0,none⟩)) t4 λ_=>ld true 10 (.pointer (some ⟨xb,0,none⟩)) λt5 h=>h.wf -> ∃ h',h.wk h'∧(h'.wf -> K (.tuple #[t5,.int .u16 70]) h')) ⟨F3,M3,N3⟩:=by
  intro h0 F3 M3 N3 hF3 hN3 hM3 hx3 hm3;refine zaa (v:=.agg zac.toArray) (by kernel_rfl) ?_;refine stM (cs':=zac) ?_ hx3 rfl rfl (List.all_eq_true.1 rfl);refine zb6 (vs:=zac) ?_ (za0 _ _ _) rfl (by exact (show 0+10≤zac.length by decide));exact λhc=>⟨_,za1 hc,λhw'=>k0 h0 F3 _ N3 hF3 (by omega) (λq hq=>(za3 _ _ (by omega)).trans (hM3 q hq)) (hm3.set hN3 _) hw'⟩
 refine yn6 hv1 (λq hq=>by have := ho q hq; omega) hb8 (by omega) h6 (λcs F3 M3 N3 r q h1 h2 h3 h4 h5 hF3 hN3 hM3 hm3 hw3=>?_) (λh0 F3 M3 N3 hF3 hN3 hM3 hm3 hw3=>?_)
 ·have hc1:=h3.keep;have hx3:=(hM3 xb (by omega)).trans (za0 _ _ _);have hM3':∀ q,q<N -> M3 q=M q:=λq hq=>(hM3 q (by omega)).trans (za3 _ _ (by omega));try simp only [sS]
  refine zap (cs:=zac) (λrb hrb=>?_);refine stM (cs':=cs) ?_ (za0 _ _ _) (by show zb3 zac 0 cs.toArray.toList=cs; unfold zb3; rw [List.drop_eq_nil_of_le (by simp [zac]; omega)]; simp) (by simpa [Value.cells] using hc1.1) (by simpa [Value.cells] using hc1.2) (by simp [zac]);rw [zan];have hrb4:=za0 M3 rb (some (.cells 77 cs 10));have hx4:upd M3 rb (some (.cells 77 cs 10)) xb=_:=(za3 _ _ (by omega)).trans hx3;have hM4:∀ q,q<N -> upd M3 rb (some (.cells 77 cs 10)) q=M q:=λq hq=>(za3 _ _ (by omega)).trans (hM3' q hq);have hm4:=hm3.new hrb (some (.cells 77 cs 10));have hel:zac.length=10:=rfl;try simp only [hel]
  generalize upd M3 rb _=M4 at *;try simp only [sS]
  refine zb6 (vs:=cs) ?_ hrb4 (by exact (show (List.drop 0 cs).take 10=cs by rw [List.drop_zero,← hc1.1,List.take_length])) (by exact (show 0+10≤cs.length by omega));have hlen:=yn4 h1;refine yb8 h3 h4 h5 h2 (by omega) (λhs N5 hN5 hw5=>?_) (λhs hbig=>by omega) (λhs _ w M5 N5 hw5 hM5 hN5 hm5 hwf5=>?_)
  ·try simp only [sS]
   refine zim (by decide) ?_;try simp only [sS]
   exact no (by unfold zg2; rw [h1]; simp only; rw [if_neg (by rw [hs]; simp)]) F3 M4 N5 hF3 (by omega) hM4 hx4 (hm4.up hN5)
  ·try simp only [sS]
   refine zc3 rfl ?_;try simp only [sS]
   have hv5:sR F3 M5 1 v l.length (bts l):=hv.keep hF3 λq c hq h=>((hM5 q (by have := ho q hq; omega)).trans (hM4 q (ho q hq))).trans h;refine ye7 (hw5.rd) hv5 (zl9 r) hb8 (λhw6=>?_);have hx5:=(hM5 xb (by omega)).trans hx4;have hM5':∀ q,q<N -> M5 q=M q:=λq hq=>(hM5 q (by omega)).trans (hM4 q hq)
   by_cases he:zah r=l
   ·rw [decide_eq_true he];try simp only [sS]
    refine zb6 (vs:=cs) ?_ ((hM5 rb (by omega)).trans hrb4) (by exact (show (List.drop 0 cs).take 10=cs by rw [List.drop_zero,← hc1.1,List.take_length])) (by exact (show 0+10≤cs.length by omega));refine stM (cs':=cs) ?_ hx5 (by show zb3 zac 0 cs.toArray.toList=cs; unfold zb3; rw [List.drop_eq_nil_of_le (by simp [zac]; omega)]; simp) (by simpa [Value.cells] using hc1.1) (by simpa [Value.cells] using hc1.2) (by simp [zac]);refine zb6 (vs:=cs) ?_ (za0 _ _ _) (by exact (show (List.drop 0 cs).take 10=cs by rw [List.drop_zero,← hc1.1,List.take_length])) (by exact (show 0+10≤cs.length by omega));exact λhc=>⟨_,za1 hc,λhw'=>k1 cs F3 _ N5 r (by unfold zg2; rw [h1]; simp only; rw [if_pos ⟨hs,he⟩]) h3 h4 h5 hF3 (by omega) (λq hq=>(za3 _ _ (by omega)).trans (hM5' q hq)) (hm5.set (by omega) _) hw'⟩
   ·rw [decide_eq_false he];try simp only [sS]
    exact no (by unfold zg2; rw [h1]; simp only; rw [if_neg (λh=>he h.2)]) F3 M5 N5 hF3 (by omega) hM5' hx5 hm5
 ·have hx3:=(hM3 xb (by omega)).trans (za0 _ _ _);have hM3':∀ q,q<N -> M3 q=M q:=λq hq=>(hM3 q (by omega)).trans (za3 _ _ (by omega));try simp only [sS]
  refine zap (cs:=zac) (λrb hrb=>?_);refine stM (cs':=zac) ?_ (za0 _ _ _) rfl rfl (List.all_eq_true.1 rfl);rw [zan];try simp only [sS]
  exact no (by unfold zg2; rw [h0]) F3 _ (rb+1) hF3 (by omega) (λq hq=>(za3 _ _ (by omega)).trans (hM3' q hq)) ((za3 _ _ (by omega)).trans hx3) (hm3.new hrb _)
theorem zmy (l:List Int):∀ c∈bts l,c.oneCell'=true:=zs9 _
theorem ymt (l m:List Int):bts (l++m)=bts l++bts m:=by simp [bts]
theorem zfi (hm:za5 M N) {v:Value} {n:Nat} {cs:List Value} (hv:sR F M 1 v n cs) (hM:∀ q,q<N -> M' q=M q):sR F M' 1 v n cs :=
 hv.keep (za7.refl _) λq c _ h=>zmz hm hM q c h
theorem yb9 {v:Value} {l:List Int} (hv:sR F M 1 v l.length (bts l)) (hl:l.length≤1000000000)
  (k:∀ v' M' N',own M' N 5 1 v' l.length (bts l) -> (∀ q,q<N -> M' q=M q) -> N≤N' -> za5 M' N' -> (Hp.mk F M' N').wf -> K v' ⟨F,M',N'⟩) :
  cF 84 #[v] K E ⟨F,M,N⟩:=by
 refine za4 za8 Tryz.func84 (by kernel_rfl) (t84 _ E _) (λhw=>?_);have hm:za5 M N:=hw.m;obtain ⟨a,c,rfl,hc⟩:=hv.form;cases a with
 | none=>
  have h0:l.length=0:=by rcases hv.2 with ⟨a',c',h1,h2⟩ | ⟨b,o,c',cs,h1,_⟩; exact h2; simp at h1
  have hl0:l=[]:=List.eq_nil_of_length_eq_zero h0;subst hl0;exact zaa rfl (zax λhc=>⟨_,za1 hc,λhw'=>k _ M N own.nil (λ_ _=>rfl) (Nat.le_refl _) hm hw'⟩)
 | some ad=>
  refine zaa rfl (zaq ?_);refine zcx (cs:=[]) (by kernel_rfl) (λb0 hb0=>?_);have ho:own (upd M b0 (some (.cells 5 [] 0))) N 5 1 (.slice (some ⟨b0,0,none⟩) 0 0) 0 []:=⟨by simp,.inr ⟨b0,0,[],rfl,Nat.le_refl _,by unfold maxLen; omega,hb0,za0 _ _ _⟩⟩;refine ho.app (hm.new hb0 _) (by omega) (hv.new hm hb0) (zmy l) (by omega) (by unfold maxLen; omega) (λv' M1 N1 h1 h2 h3 h4=>?_);refine λhc=>⟨_,za1 hc,λhw'=>k v' M1 N1 (by rw [Nat.zero_add] at h1; exact h1) (λq hq=>?_) (by omega) h4 hw'⟩;exact ((h2 q (by simp [Value.ownBlock]; omega) (by omega)).1).trans (za3 _ _ (by omega))
theorem yh5 {v:Value} {l:List Int} (hv:sR F M 1 v l.length (bts l)) (hl:l.length≤1000000000)
  (k:∀ v' M' N',own M' N 5 1 v' l.length (bts l) -> (∀ q,q<N -> M' q=M q) -> N≤N' -> za5 M' N' -> (Hp.mk F M' N').wf -> K v' ⟨F,M',N'⟩) :
  cF 245 #[v] K E ⟨F,M,N⟩:=by
 refine za4 za8 Tryz.func245 (by kernel_rfl) (yuj _ E _) (λhw=>?_);have hm:za5 M N:=hw.m;obtain ⟨a,c,rfl,hc⟩:=hv.form;cases a with
 | none=>
  have h0:l.length=0:=by rcases hv.2 with ⟨a',c',h1,h2⟩ | ⟨b,o,c',cs,h1,_⟩; exact h2; simp at h1
  have hl0:l=[]:=List.eq_nil_of_length_eq_zero h0;subst hl0;exact zaa rfl (zax λhc=>⟨_,za1 hc,λhw'=>k _ M N own.nil (λ_ _=>rfl) (Nat.le_refl _) hm hw'⟩)
 | some ad=>
  refine zaa rfl (zaq ?_);refine zcx (cs:=[]) (by kernel_rfl) (λb0 hb0=>?_);have ho:own (upd M b0 (some (.cells 5 [] 0))) N 5 1 (.slice (some ⟨b0,0,none⟩) 0 0) 0 []:=⟨by simp,.inr ⟨b0,0,[],rfl,Nat.le_refl _,by unfold maxLen; omega,hb0,za0 _ _ _⟩⟩;refine ho.app (hm.new hb0 _) (by omega) (hv.new hm hb0) (zmy l) (by omega) (by unfold maxLen; omega) (λv' M1 N1 h1 h2 h3 h4=>?_);refine λhc=>⟨_,za1 hc,λhw'=>k v' M1 N1 (by rw [Nat.zero_add] at h1; exact h1) (λq hq=>?_) (by omega) h4 hw'⟩;exact ((h2 q (by simp [Value.ownBlock]; omega) (by omega)).1).trans (za3 _ _ (by omega))
theorem yn5 {n:Nat} (hm:za5 M N) (hn:n≤1000000000000) (k:∀ v' M' N',own M' N 5 1 v' 0 [] -> (∀ q,q<N -> M' q=M q) -> N≤N' -> za5 M' N' -> (Hp.mk F M' N').wf -> K v' ⟨F,M',N'⟩) :
  cF 200 #[.slice none 0 0,.int .i64 (n:Nat)] K E ⟨F,M,N⟩:=by
 refine za4 za8 Tryz.func200 (by kernel_rfl) (yvp _ E _ _) (λhw=>?_);refine zke (by omega) ?_;try simp only [sS]
 rw [yja];try simp only [sS]
 refine zky (a:=0) (b:=0) (by omega) (by omega) ?_;refine zky (a:=n) (b:=0) (by omega) (by omega) ?_;rw [Nat.sub_zero];refine zbw (λh0=>?_) (λh0=>?_)
 ·try simp only [sS]
  refine zor 0 0 0 (Nat.le_refl _) (Nat.le_refl _) (Nat.le_refl _) ?_;refine ⟨none,0,0,[],n,.i64,rfl,rfl,⟨by simp,.inl ⟨_,_,rfl,rfl⟩⟩,Nat.le_refl _,by omega,by omega,by simp [maxLen]; omega,λb c hb0 hc hcm=>?_⟩;have hb:N≤b:=hb0;try simp only [sS]
  refine zhj 0 (Nat.zero_le _) ?_;try simp only [sS]
  rw [zvp];refine λhc'=>⟨_,za1 hc',λhw'=>k _ _ _ ⟨by simp,.inr ⟨b,c,_,rfl,Nat.zero_le _,hcm,hb,za0 _ _ _⟩⟩ (λq hq=>za3 _ _ (by omega)) (Nat.le_succ_of_le hb) (hm.new hb _) hw'⟩
 ·try simp only [sS]
  rw [zvp];exact λhc'=>⟨_,za1 hc',λhw'=>k _ _ _ own.nil (λ_ _=>rfl) (Nat.le_refl _) hm hw'⟩
def zlj (F:Nat -> Option (List Value)) (M:Nat -> Option zak) (v:Value) (ts:List (List Int)):Prop:=∃ us,sR F M 1 v ts.length us∧zfy (λu t=>sR F M 1 u t.length (bts t)) us ts
theorem zlj.blk (hm:za5 M N) {v:Value} {ts:List (List Int)} (h:zlj F M v ts) (hM:∀ q,q<N -> M' q=M q):zlj F M' v ts :=
 let ⟨us,h1,h2⟩:=h; ⟨us,zfi hm h1 hM,h2.mono λ_ _ h=>zfi hm h hM⟩
theorem ym4 {v:Value} {ts:List (List Int)} {K:Value -> zae} (hv:zlj F M v ts) {i:Nat} (hi:i<ts.length) (k:∀ p u,sR F M 1 u ts[i].length (bts ts[i]) -> K p u ⟨F,M,N⟩):pv (iaV none 1 v (.int .i64 (i:Nat))) (λp=>ld false 1 p (K p)) ⟨F,M,N⟩:=by
 obtain ⟨us,h1,h2⟩:=hv;obtain ⟨u,hu,hR⟩:=h2.get (List.getElem?_eq_getElem hi)
 rcases h1.2 with ⟨a,c,e1,e2⟩ | ⟨b,o,c,cs,rfl,h3,h4,h5⟩
 ·omega
 refine zct hi (zfo (zaz (cs:=cs) ?_ ?_) (k _ u hR))
 ·rcases h4 with h4 | ⟨e,tot,h4⟩
  ·exact zh9 h4
  ·exact zb4 h4
 ·rw [← h5,List.getElem?_take,List.getElem?_drop] at hu
  split at hu
  ·rw [Nat.mul_one]; exact hu
  ·cases hu
theorem zy2 {v:Value} {ts:List (List Int)} (hv:zlj F M v ts) (hl:ts.flatten.length≤1000000000) (htl:ts.length≤1000000000)
  (k:∀ v' M' N',own M' N 5 1 v' ts.flatten.length (bts ts.flatten) -> (∀ q,q<N -> M' q=M q) -> N≤N' -> za5 M' N' -> (Hp.mk F M' N').wf -> K v' ⟨F,M',N'⟩) :
  cF 141 #[v] K E ⟨F,M,N⟩:=by
 refine za4 za8 Tryz.func141 (by kernel_rfl) (yv7 _ E _) (λhw=>?_);have hm:za5 M N:=hw.m;have hlv:zab v=some (.int .i64 (ts.length:Nat)):=by obtain ⟨us,h1,_⟩:=hv; obtain ⟨a,c,rfl,_⟩:=h1.form; rfl
 have hfl:∀ i,i≤ts.length -> (ts.take i).flatten.length≤ts.flatten.length:=λi hi=>by
  have h:=congrArg List.flatten (List.take_append_drop i ts);rw [List.flatten_append] at h;have := congrArg List.length h;rw [List.length_append] at this;omega
 try simp only [hlv]
 try simp only [sS]
 refine zsu (σ:=Nat) (λi=>.int .i64 ((ts.take i).flatten.length:Nat)) (λi=>.int .i64 (i:Nat)) (λi h=>h=⟨F,M,N⟩∧i≤ts.length) (λi=>ts.length - i) 0 rfl rfl
  (λhw1=>⟨_,za1 hw1,rfl,Nat.zero_le _⟩) (λk1 i j h1 hI hw1 next=>?_)
 rw [zt9];obtain ⟨rfl,hi⟩:=hI;refine zat (λhlt=>?_) (λhge=>?_)
 ·have h1:i<ts.length:=by omega
  try simp only [sS]
  refine ym4 hv h1 λp u hu=>?_;obtain ⟨a,c,rfl,_⟩:=hu.form;have h2:=hfl (i+1) h1;have e:=zjl ts h1;rw [e,List.length_append] at h2;try simp only [sS]
  refine zji (by omega) (zke (by omega) ?_);try simp only [sS]
  rw [zmh];refine zas (by omega) ?_;rw [← List.length_append,← e];exact next (i+1) _ _ (by omega) (λhw2=>⟨_,za1 hw2,rfl,h1⟩)
 ·try simp only [sS]
  rw [List.take_of_length_le (by omega)];refine yn5 hm (by omega) (λu M1 N1 ho hM1 hN1 hm1 hw1=>?_);try simp only [hlv]
  try simp only [sS]
  refine zov (σ:=Nat×Value) (λs=>s.2) (λs=>.int .i64 (s.1:Nat))
   (λs h=>∃ M' N',h=⟨F,M',N'⟩∧N≤N'∧(∀ q,q<N -> M' q=M q)∧za5 M' N'∧s.1≤ts.length∧own M' N 5 1 s.2 (ts.take s.1).flatten.length (bts (ts.take s.1).flatten)) (λs=>ts.length - s.1) (0,u) rfl rfl
   (λhw2=>⟨_,za1 hw2,M1,N1,rfl,hN1,hM1,hm1,Nat.zero_le _,ho⟩) (λk1 s j h1 hI hw2 next=>?_)
  rw [zno];obtain ⟨M2,N2,rfl,hN2,hM2,hm2,hi,ho2⟩:=hI;refine zat (λhlt=>?_) (λhge=>?_)
  ·have h1:s.1<ts.length:=by omega
   try simp only [sS]
   refine ym4 (hv.blk hm hM2) h1 λp w hwt=>?_;have h2:=hfl (s.1+1) h1;have e:=zjl ts h1;rw [e,List.length_append] at h2;refine ho2.app hm2 hN2 hwt (zmy _) (by omega) (by unfold maxLen; omega) (λw' M3 N3 h4 h5 h6 h7=>?_);refine zas (by omega) ?_;refine next (s.1+1,w') _ _ (by simp only; omega) (λhw4=>⟨_,za1 hw4,M3,N3,rfl,by omega,λq hq=>?_,h7,h1,?_⟩)
   ·have q1:s.2.ownBlock≠some q:=λe=>by have := (ho2.ge q e).1; omega
    exact ((h5 q q1 (by omega)).1).trans (hM2 q hq)
   ·simp only;rw [e,List.length_append,ymt]; exact h4
  ·try simp only [sS]
   rw [List.take_of_length_le (by omega)] at ho2;exact λhc=>⟨_,za1 hc,λhw'=>k _ _ _ ho2 hM2 hN2 hm2 hw'⟩
theorem zvl {v:Value} {l:List Int} (hv:sR F M 1 v l.length (bts l)) {i:Nat} (hi:i<l.length) :
  ∃ b o,(∀ (K:zae) (h:Hp),K (.pointer (some ⟨b,o,none⟩)) h -> pv (iaV none 1 v (.int .i64 (i:Nat))) K h)∧(∀ {F' M'},sR F' M' 1 v l.length (bts l) -> ∀ N',ldV ⟨F',M',N'⟩ false 1 (.pointer (some ⟨b,o,none⟩)) (.int .u8 l[i])):=by
 rcases hv.2 with ⟨a,c,e1,e2⟩ | ⟨b,o,c,cs,rfl,h3,h4,h5⟩
 ·omega
 refine ⟨b,o+i*1,λK h k=>zct hi k,λ{F' M'} hv' N'=>?_⟩
 rcases hv'.2 with ⟨a,c',e1,e2⟩ | ⟨b',o',c',cs',e,h3',h4',h5'⟩
 ·omega
 simp only [Value.slice.injEq,Option.some.injEq,Addr.mk.injEq] at e;obtain ⟨⟨rfl,rfl,_⟩,_,rfl⟩:=e;have hx:(bts l)[i]?=some (.int .u8 l[i]):=by simp [bts,List.getElem?_eq_getElem hi]
 have hy:cs'[o+i*1]?=some (.int .u8 l[i]):=by
  rw [← h5',List.getElem?_take,List.getElem?_drop] at hx
  split at hx
  ·rw [Nat.mul_one]; exact hx
  ·cases hx
 rcases h4' with h4' | ⟨e,tot,h4'⟩
 ·exact zaz (zh9 h4') hy
 ·exact zaz (zb4 h4') hy
theorem yng (l:List Int) (i n:Nat):((bts l).drop i).take n=bts ((l.drop i).take n):=by simp [bts]
theorem yae {a:Option Addr} {c:Nat} {l:List Int} (hv:sR F M 1 (.slice a l.length c) l.length (bts l)) {i j m:Nat} (h1:i≤j) (h2:j≤m) (h3:j≤l.length) (h4:m≤c) :
  sR F M 1 (.slice (if m=i then a else a.map (·.add (i*1))) (j - i) (m - i)) ((l.drop i).take (j - i)).length (bts ((l.drop i).take (j - i))):=by
 have hle:((l.drop i).take (j - i)).length=j - i:=by simp; omega
 refine ⟨by simp [bts],?_⟩;rw [hle]
 rcases hv.2 with ⟨a',c',e1,e2⟩ | ⟨b,o,c',cs,e,h5,h6,h7⟩
 ·rw [show j - i=0 by omega]; exact .inl ⟨_,_,rfl,rfl⟩
 ·simp only [Value.slice.injEq] at e;obtain ⟨rfl,_,rfl⟩:=e
  by_cases hmi:m=i
  ·rw [show j - i=0 by omega]; exact .inl ⟨_,_,rfl,rfl⟩
  ·rw [if_neg hmi];refine .inr ⟨b,o+i*1,m - i,cs,by simp [Addr.add_plain],by omega,h6,?_⟩;have := yng l i (j - i);rw [← this,← h7];simp only [Nat.mul_one,List.drop_take,List.drop_drop,List.take_take];rw [Nat.min_eq_left (by omega)]
theorem zx2 {a:Option Addr} {i n m len c q:Nat} (h:(Value.slice (if m=i then a else a.map (·.add (i*1))) n (m - i)).ownBlock=some q):(Value.slice a len c).ownBlock=some q:=by
 revert h
 cases a with
 | none=>split<;>simp [Value.ownBlock]
 | some ad=>
  split
  ·simp [Value.ownBlock]
  ·simp only [Option.map_some,Value.ownBlock,Addr.add]; intro h; rw [← h]; split<;>rfl
theorem ybo {v:Value} {l:List Int} {K:zae} (hv:sR F M 1 v l.length (bts l)) {i:Nat} (hi:i≤l.length)
  (k:∀ u,sR F M 1 u (l.drop i).length (bts (l.drop i)) -> (∀ q,u.ownBlock=some q -> v.ownBlock=some q) -> K u ⟨F,M,N⟩):pv (slV 1 v (some (.int .i64 (i:Nat))) none none) K ⟨F,M,N⟩:=by
 obtain ⟨a,c,rfl,hc⟩:=hv.form;refine zor i l.length c hi hc (Nat.le_refl _) (k _ ?_ (λq=>zx2)) (h4:=λ_=>⟨rfl,hc⟩);have := yae hv hi hc (Nat.le_refl _) (Nat.le_refl _)
 rwa [List.take_of_length_le (by simp)] at this
theorem yhq {v:Value} {l:List Int} {K:zae} (hv:sR F M 1 v l.length (bts l)) {i j:Nat} (h1:i≤j) (h2:j≤l.length)
  (k:∀ u,sR F M 1 u ((l.drop i).take (j - i)).length (bts ((l.drop i).take (j - i))) -> (∀ q,u.ownBlock=some q -> v.ownBlock=some q) -> K u ⟨F,M,N⟩):pv (slV 1 v (some (.int .i64 (i:Nat))) (some (.int .i64 (j:Nat))) none) K ⟨F,M,N⟩:=by
 obtain ⟨a,c,rfl,hc⟩:=hv.form;exact zor i j c h1 (by omega) (Nat.le_refl _) (k _ (yae hv h1 (by omega) h2 (Nat.le_refl _)) (λq=>zx2))
theorem yq8 {v:Value} {l:List Int} {K:zae} (hv:sR F M 1 v l.length (bts l)) {j:Nat} (h2:j≤l.length)
  (k:∀ u,sR F M 1 u (l.take j).length (bts (l.take j)) -> (∀ q,u.ownBlock=some q -> v.ownBlock=some q) -> K u ⟨F,M,N⟩):pv (slV 1 v none (some (.int .i64 (j:Nat))) (some (.int .i64 (j:Nat)))) K ⟨F,M,N⟩:=by
 obtain ⟨a,c,rfl,hc⟩:=hv.form;refine zor 0 j j (Nat.zero_le _) (Nat.le_refl _) (by omega) (k _ ?_ (λq=>zx2));exact yae hv (Nat.zero_le _) (Nat.le_refl _) h2 (by omega)
def zbv (k:Int):Int:=if k=1 then 1 else if k=4 then 2 else if k=8∨k=9∨k=10 then 7 else if k=2∨k=3∨k=5∨k=6∨k=7∨k=11 then 4 else 0
def zav (m:zaj):zaj:=⟨zbv m.kind,m.id,m.tm,m.ns,m.fs,m.lo,m.hi,m.es⟩
theorem zj6 (k:Int):zbv k≠6:=by unfold zbv; split; omega; split; omega; split; omega; split<;>omega
def zfz (F:Nat -> Option (List Value)) (cs:List Value) (m:zaj):Prop :=
 ∃ na nc fv ev,cs=[.int .u8 m.kind,.int .u32 m.id,.int .u32 m.tm,.slice na m.ns.length nc,fv,.int .i64 m.lo,.int .i64 m.hi,ev]∧sF F 1 (.slice na m.ns.length nc) m.ns.length (ic m.ns)∧zbo F fv m.fs∧zc6 F ev m.es
theorem zfz.one {cs:List Value} {m:zaj} (h:zfz F cs m):cs.length=8∧∀ c∈cs,c.oneCell'=true:=by
 obtain ⟨na,nc,fv,ev,rfl,h1,h2,h3⟩:=h;obtain ⟨a2,c2,rfl⟩:=h2.form;obtain ⟨a3,c3,rfl⟩:=h3.form;exact ⟨rfl,List.all_eq_true.1 rfl⟩
theorem yo2 {x:Int} (k:(Hp.mk F M N).wf -> K (.int .u8 (zbv x)) ⟨F,M,N⟩) :
  cF 199 #[.int .u8 x] K E ⟨F,M,N⟩:=by
 refine za4 za8 Tryz.func199 (by kernel_rfl) (yxa _ E _) (λhw=>?_)
 have fin:∀ y,zbv x=y -> ∀ h',h'=(⟨F,M,N⟩:Hp) -> h'.wf -> ∃ h'',h'.wk h''∧(h''.wf -> K (.int .u8 y) h''):=λy e h' e' hc=>by
  subst e; subst e';exact ⟨_,za1 hc,k⟩
 refine zau (λh1=>zax ?_) (λh1=>zaq ?_)
 ·exact fin 1 (by unfold zbv; rw [if_pos h1]) _ rfl
 refine zau (λh4=>zax ?_) (λh4=>zaq ?_)
 ·exact fin 2 (by unfold zbv; rw [if_neg h1,if_pos h4]) _ rfl
 have t7:(x=8∨x=9∨x=10) -> zbv x=7:=λh=>by unfold zbv; rw [if_neg h1,if_neg h4,if_pos h]
 refine zau (λh8=>zax ?_) (λh8=>zaq ?_)
 ·rw [zec];exact zax (fin 7 (t7 (.inl h8)) _ rfl)
 refine zau (λh9=>zax ?_) (λh9=>zaq ?_)
 ·rw [zec];exact zax (fin 7 (t7 (.inr (.inl h9))) _ rfl)
 refine zau (λh10=>?_) (λh10=>?_)
 ·rw [zec];exact zax (fin 7 (t7 (.inr (.inr h10))) _ rfl)
 rw [zec];refine zaq ?_;have t4:(x=2∨x=3∨x=5∨x=6∨x=7∨x=11) -> zbv x=4:=λh=>by unfold zbv; rw [if_neg h1,if_neg h4,if_neg (by omega),if_pos h]
 refine zau (λh2=>zax ?_) (λh2=>zaq ?_)
 ·rw [zby];exact zax (fin 4 (t4 (by omega)) _ rfl)
 refine zau (λh3=>zax ?_) (λh3=>zaq ?_)
 ·rw [zby];exact zax (fin 4 (t4 (by omega)) _ rfl)
 refine zau (λh5=>zax ?_) (λh5=>zaq ?_)
 ·rw [zby];exact zax (fin 4 (t4 (by omega)) _ rfl)
 refine zau (λh6=>zax ?_) (λh6=>zaq ?_)
 ·rw [zby];exact zax (fin 4 (t4 (by omega)) _ rfl)
 refine zau (λh7=>zax ?_) (λh7=>zaq ?_)
 ·rw [zby];exact zax (fin 4 (t4 (by omega)) _ rfl)
 refine zau (λh11=>?_) (λh11=>?_)
 ·rw [zby];exact zax (fin 4 (t4 (by omega)) _ rfl)
 rw [zby];exact zaq (fin 0 (by unfold zbv; rw [if_neg h1,if_neg h4,if_neg (by omega),if_neg (by omega)]) _ rfl)
theorem zqb {cs:List Value} {m:zaj} (hr:zfz F cs m) (k:∀ cs' N',zdr F cs' (zav m) -> N≤N' -> (Hp.mk F M N').wf -> K (.agg cs'.toArray) ⟨F,M,N'⟩) :
  cF 140 #[.agg cs.toArray] K E ⟨F,M,N⟩:=by
 refine za4 za8 Tryz.func140 (by kernel_rfl) (ytm _ E _) (λhw=>?_);have hm:za5 M N:=hw.m;obtain ⟨na,nc,fv,ev,rfl,hn,hf,he⟩:=hr;obtain ⟨fa,fc,rfl⟩:=hf.form;obtain ⟨ea,ec,rfl⟩:=he.form;refine zap (cs:=[.int .u8 m.kind,.int .u32 m.id,.int .u32 m.tm,.slice na m.ns.length nc,.slice fa m.fs.length fc,.int .i64 m.lo,.int .i64 m.hi,.slice ea m.es.length ec]) (λb1 hb1=>?_);refine zap (cs:=zac) (λb2 hb2=>?_);have hb1':=(za3 (upd M b1 (some (.cells 49 [.int .u8 m.kind,.int .u32 m.id,.int .u32 m.tm,.slice na m.ns.length nc,.slice fa m.fs.length fc,.int .i64 m.lo,.int .i64 m.hi,.slice ea m.es.length ec] 8))) (b:=b2) (v:=some (.cells 77 zac 10)) (by omega:b1≠b2)).trans (za0 _ _ _);try simp only [sS]
 refine ldM (v:=.int .u8 m.kind) ?_ hb1';try simp only [sS]
 refine ldM (v:=.int .u32 m.id) ?_ hb1';try simp only [sS]
 refine ldM (v:=.int .u32 m.tm) ?_ hb1';try simp only [sS]
 refine ldM (v:=.slice na m.ns.length nc) ?_ hb1';try simp only [sS]
 refine ldM (v:=.slice fa m.fs.length fc) ?_ hb1';try simp only [sS]
 refine ldM (v:=.int .i64 m.lo) ?_ hb1';try simp only [sS]
 refine ldM (v:=.int .i64 m.hi) ?_ hb1';try simp only [sS]
 refine ldM (v:=.slice ea m.es.length ec) ?_ hb1';refine yo2 (λhw1=>?_);refine ⟨zaz (zb4 hb1') rfl,zaz (zb4 hb1') rfl,zaz (zb4 hb1') rfl,zaz (zb4 hb1') rfl,zaz (zb4 hb1') rfl,zaz (zb4 hb1') rfl,zaz (zb4 hb1') rfl,?_⟩;refine zaa (v:=.agg #[.int .u8 (zbv m.kind),.int .u32 m.id,.int .u32 m.tm,.slice na m.ns.length nc,.slice fa m.fs.length fc,.int .u32 0,.slice none 0 0,.int .i64 m.lo,.int .i64 m.hi,.slice ea m.es.length ec]) (by kernel_rfl) ?_;refine stM (cs':=[.int .u8 (zbv m.kind),.int .u32 m.id,.int .u32 m.tm,.slice na m.ns.length nc,.slice fa m.fs.length fc,.int .u32 0,.slice none 0 0,.int .i64 m.lo,.int .i64 m.hi,.slice ea m.es.length ec]) ?_ (za0 _ _ _) rfl rfl (List.all_eq_true.1 rfl);refine zb6 (vs:=[.int .u8 (zbv m.kind),.int .u32 m.id,.int .u32 m.tm,.slice na m.ns.length nc,.slice fa m.fs.length fc,.int .u32 0,.slice none 0 0,.int .i64 m.lo,.int .i64 m.hi,.slice ea m.es.length ec]) ?_ (za0 _ _ _);refine λhc=>⟨⟨F,M,b2+1⟩,zbl hc ?_,λhw'=>k _ _ ⟨na,nc,_,none,0,_,rfl,hn,hf,he⟩ (by omega) hw'⟩;rw [zan];exact zb5 (zb5 (zbb _) (hm _ hb1)) (hm _ (by omega))
def zbp (m:zaj):Bool:=!decide (m.kind=4∧m.ns≠[])&&(!decide (m.kind=8∧m.es≠[])&&(!decide (m.kind=9∧(m.lo≠0∨m.hi≠0))&&zbn (zav m)))
theorem zgp {m:zaj} (h:m.lens):(zav m).lens:=⟨h.nl,h.fl,h.el,h.et⟩
theorem znz {m:zaj} (h:m.typ):(zav m).typ:=⟨h.i0,h.t0,h.fv,h.ev⟩
theorem zft {α:Type} {l:List α}:l≠[]↔0<l.length:=by cases l<;>simp
theorem yj0 {cs:List Value} {m:zaj} (hr:zfz F cs m) (hL:m.lens) (k:∀ N',N≤N' -> (Hp.mk F M N').wf -> K (.bool (zbp m)) ⟨F,M,N'⟩) :
  cF 139 #[.agg cs.toArray] K E ⟨F,M,N⟩:=by
 refine za4 za8 Tryz.func139 (by kernel_rfl) (yta _ E _) (λhw=>?_);have hm:za5 M N:=hw.m;have hr0:=hr;obtain ⟨na,nc,fv,ev,rfl,hn,hf,he⟩:=hr;obtain ⟨fa,fc,rfl⟩:=hf.form;obtain ⟨ea,ec,rfl⟩:=he.form;refine zap (cs:=[.int .u8 m.kind,.int .u32 m.id,.int .u32 m.tm,.slice na m.ns.length nc,.slice fa m.fs.length fc,.int .i64 m.lo,.int .i64 m.hi,.slice ea m.es.length ec]) (λb hb=>?_);have hx:=za0 M b (some (.cells 49 [.int .u8 m.kind,.int .u32 m.id,.int .u32 m.tm,.slice na m.ns.length nc,.slice fa m.fs.length fc,.int .i64 m.lo,.int .i64 m.hi,.slice ea m.es.length ec] 8));have hd:zex M (upd M b (some (.cells 49 [.int .u8 m.kind,.int .u32 m.id,.int .u32 m.tm,.slice na m.ns.length nc,.slice fa m.fs.length fc,.int .i64 m.lo,.int .i64 m.hi,.slice ea m.es.length ec] 8))):=zb5 (zbb _) (hm _ hb);have hm1:=hm.new hb (some (.cells 49 [.int .u8 m.kind,.int .u32 m.id,.int .u32 m.tm,.slice na m.ns.length nc,.slice fa m.fs.length fc,.int .i64 m.lo,.int .i64 m.hi,.slice ea m.es.length ec] 8));have hlen:([.int .u8 m.kind,.int .u32 m.id,.int .u32 m.tm,.slice na m.ns.length nc,.slice fa m.fs.length fc,.int .i64 m.lo,.int .i64 m.hi,.slice ea m.es.length ec]:List Value).length=8:=rfl;try simp only [hlen]
 generalize upd M b _=M1 at *
 have fin:∀ y,zbp m=y -> ∀ N',b+1≤N' -> ∀ h',h'=(⟨F,M1,N'⟩:Hp) -> h'.wf -> ∃ h'',h'.wk h''∧(h''.wf -> K (.bool y) h''):=λy e N' hN' h' e' hc=>by
  subst e; subst e';exact ⟨⟨F,M,N'⟩,zbl hc hd,λhw'=>k _ (by omega) hw'⟩
 try simp only [sS]
 refine ldM (v:=.int .u8 m.kind) ?_ hx;refine zau (λh4=>?_) (λh4=>?_)
 ·try simp only [sS]
  refine ldM (v:=.slice na m.ns.length nc) ?_ hx;try simp only [sS]
  refine zbw (λhg=>?_) (λhg=>?_)
  ·try simp only [sS]
   rw [zhh];exact zax (fin _ (by unfold zbp; rw [decide_eq_true ⟨h4,zft.2 (by omega)⟩]; rfl) _ (Nat.le_refl _) _ rfl)
  ·try simp only [sS]
   refine ldM (v:=.int .u8 m.kind) ?_ hx;refine zbj (by omega) ?_;try simp only [sS]
   rw [zhh];refine zaq ?_;try simp only [sS]
   refine ldM (v:=.int .u8 m.kind) ?_ hx;refine zbj (by omega) ?_;try simp only [sS]
   refine zb6 (vs:=[.int .u8 m.kind,.int .u32 m.id,.int .u32 m.tm,.slice na m.ns.length nc,.slice fa m.fs.length fc,.int .i64 m.lo,.int .i64 m.hi,.slice ea m.es.length ec]) ?_ hx;refine zqb hr0 (λcs' N2 hr2 hN2 hw2=>?_);refine zla hr2 (zgp hL) (zj6 _) (λN3 hN3 hw3=>?_);exact fin _ (by unfold zbp; rw [decide_eq_false (λe=>hg (by have := zft.1 e.2; omega)),decide_eq_false (by omega),decide_eq_false (by omega)]; simp) _ (by omega) _ rfl
 ·try simp only [sS]
  refine ldM (v:=.int .u8 m.kind) ?_ hx;refine zau (λh8=>?_) (λh8=>?_)
  ·try simp only [sS]
   refine ldM (v:=.slice ea m.es.length ec) ?_ hx;try simp only [sS]
   refine zbw (λhg=>?_) (λhg=>?_)
   ·try simp only [sS]
    rw [zhh];exact zax (fin _ (by unfold zbp; rw [decide_eq_true (show m.kind=8∧m.es≠[] from ⟨h8,zft.2 (by omega)⟩)]; simp) _ (Nat.le_refl _) _ rfl)
   ·try simp only [sS]
    rw [zhh];refine zaq ?_;try simp only [sS]
    refine ldM (v:=.int .u8 m.kind) ?_ hx;refine zbj (by omega) ?_;try simp only [sS]
    refine zb6 (vs:=[.int .u8 m.kind,.int .u32 m.id,.int .u32 m.tm,.slice na m.ns.length nc,.slice fa m.fs.length fc,.int .i64 m.lo,.int .i64 m.hi,.slice ea m.es.length ec]) ?_ hx;refine zqb hr0 (λcs' N2 hr2 hN2 hw2=>?_);refine zla hr2 (zgp hL) (zj6 _) (λN3 hN3 hw3=>?_);exact fin _ (by unfold zbp; rw [decide_eq_false (by omega),decide_eq_false (λe=>hg (by have := zft.1 e.2; omega)),decide_eq_false (by omega)]; simp) _ (by omega) _ rfl
  ·try simp only [sS]
   rw [zhh];refine zaq ?_;try simp only [sS]
   refine ldM (v:=.int .u8 m.kind) ?_ hx;refine zau (λh9=>?_) (λh9=>?_)
   ·try simp only [sS]
    refine ldM (v:=.int .i64 m.lo) ?_ hx;refine zio (λhlo=>?_) (λhlo=>?_)
    ·try simp only [sS]
     exact fin _ (by unfold zbp; rw [decide_eq_true (show m.kind=9∧(m.lo≠0∨m.hi≠0) from ⟨h9,.inl hlo⟩)]; simp) _ (Nat.le_refl _) _ rfl
    ·try simp only [sS]
     refine ldM (v:=.int .i64 m.hi) ?_ hx;refine zio (λhhi=>?_) (λhhi=>?_)
     ·try simp only [sS]
      exact fin _ (by unfold zbp; rw [decide_eq_true (show m.kind=9∧(m.lo≠0∨m.hi≠0) from ⟨h9,.inr hhi⟩)]; simp) _ (Nat.le_refl _) _ rfl
     ·try simp only [sS]
      refine zb6 (vs:=[.int .u8 m.kind,.int .u32 m.id,.int .u32 m.tm,.slice na m.ns.length nc,.slice fa m.fs.length fc,.int .i64 m.lo,.int .i64 m.hi,.slice ea m.es.length ec]) ?_ hx;refine zqb hr0 (λcs' N2 hr2 hN2 hw2=>?_);refine zla hr2 (zgp hL) (zj6 _) (λN3 hN3 hw3=>?_);exact fin _ (by simp at hlo hhi; unfold zbp; rw [decide_eq_false (by omega),decide_eq_false (by omega),decide_eq_false (show ¬ (m.kind=9∧(m.lo≠0∨m.hi≠0)) by simp [hlo,hhi])]; simp) _ (by omega) _ rfl
   ·try simp only [sS]
    refine zb6 (vs:=[.int .u8 m.kind,.int .u32 m.id,.int .u32 m.tm,.slice na m.ns.length nc,.slice fa m.fs.length fc,.int .i64 m.lo,.int .i64 m.hi,.slice ea m.es.length ec]) ?_ hx;refine zqb hr0 (λcs' N2 hr2 hN2 hw2=>?_);refine zla hr2 (zgp hL) (zj6 _) (λN3 hN3 hw3=>?_);exact fin _ (by unfold zbp; rw [decide_eq_false (by simp [h4]),decide_eq_false (by simp [h8]),decide_eq_false (by simp [h9])]; simp) _ (by omega) _ rfl
def zbe (m:zaj):List Int:=m.kind::zah (zav m)
theorem yhw {cs:List Value} {m:zaj} (hr:zfz F cs m) (hL:m.lens) (ht:m.typ) (hE:(zah (zav m)).length≤2097152)
  (k0:zbp m=false -> ∀ N',N≤N' -> (Hp.mk F M N').wf -> K (.tuple #[.slice none 0 0,.int .u16 1]) ⟨F,M,N'⟩)
  (k1:zbp m=true -> (zah (zav m)).length>60000 -> ∀ N',N≤N' -> (Hp.mk F M N').wf -> K (.tuple #[.slice none 0 0,.int .u16 3]) ⟨F,M,N'⟩)
  (k2:zbp m=true -> (zah (zav m)).length≤60000 -> ∀ v M' N',own M' N 5 1 v (zbe m).length (bts (zbe m)) -> (∀ q,q<N -> M' q=M q) -> N≤N' -> za5 M' N' -> (Hp.mk F M' N').wf -> K (.tuple #[v,.int .u16 0]) ⟨F,M',N'⟩) :
  cF 96 #[.agg cs.toArray] K E ⟨F,M,N⟩:=by
 refine za4 za8 Tryz.func96 (by kernel_rfl) (t96 _ E _) (λhw=>?_);have hm:za5 M N:=hw.m;have hr0:=hr;obtain ⟨na,nc,fv,ev,rfl,hn,hf,he⟩:=hr;obtain ⟨fa,fc,rfl⟩:=hf.form;obtain ⟨ea,ec,rfl⟩:=he.form;refine zap (cs:=[.int .u8 m.kind,.int .u32 m.id,.int .u32 m.tm,.slice na m.ns.length nc,.slice fa m.fs.length fc,.int .i64 m.lo,.int .i64 m.hi,.slice ea m.es.length ec]) (λb hb=>?_);have hx:=za0 M b (some (.cells 49 [.int .u8 m.kind,.int .u32 m.id,.int .u32 m.tm,.slice na m.ns.length nc,.slice fa m.fs.length fc,.int .i64 m.lo,.int .i64 m.hi,.slice ea m.es.length ec] 8));have hd:zex M (upd M b (some (.cells 49 [.int .u8 m.kind,.int .u32 m.id,.int .u32 m.tm,.slice na m.ns.length nc,.slice fa m.fs.length fc,.int .i64 m.lo,.int .i64 m.hi,.slice ea m.es.length ec] 8))):=zb5 (zbb _) (hm _ hb);have hm1:=hm.new hb (some (.cells 49 [.int .u8 m.kind,.int .u32 m.id,.int .u32 m.tm,.slice na m.ns.length nc,.slice fa m.fs.length fc,.int .i64 m.lo,.int .i64 m.hi,.slice ea m.es.length ec] 8));have hM1:∀ q,q<N -> upd M b (some (.cells 49 [.int .u8 m.kind,.int .u32 m.id,.int .u32 m.tm,.slice na m.ns.length nc,.slice fa m.fs.length fc,.int .i64 m.lo,.int .i64 m.hi,.slice ea m.es.length ec] 8)) q=M q:=λq hq=>za3 _ _ (by omega);have hlen:([.int .u8 m.kind,.int .u32 m.id,.int .u32 m.tm,.slice na m.ns.length nc,.slice fa m.fs.length fc,.int .i64 m.lo,.int .i64 m.hi,.slice ea m.es.length ec]:List Value).length=8:=rfl;try simp only [hlen]
 generalize upd M b _=M1 at *;refine zb6 (vs:=[.int .u8 m.kind,.int .u32 m.id,.int .u32 m.tm,.slice na m.ns.length nc,.slice fa m.fs.length fc,.int .i64 m.lo,.int .i64 m.hi,.slice ea m.es.length ec]) ?_ hx;refine yj0 hr0 hL (λN1 hN1 hw1=>?_);cases hs:zbp m
 ·try simp only [sS]
  exact λhc=>⟨⟨F,M,N1⟩,zbl hc hd,λhw'=>k0 hs _ (by omega) hw'⟩
 try simp only [sS]
 refine zb6 (vs:=[.int .u8 m.kind,.int .u32 m.id,.int .u32 m.tm,.slice na m.ns.length nc,.slice fa m.fs.length fc,.int .i64 m.lo,.int .i64 m.hi,.slice ea m.es.length ec]) ?_ hx;refine zqb hr0 (λcs2 N2 hr2 hN2 hw2=>?_);refine yb8 hr2 (zgp hL) (znz ht) (zj6 _) hE (λh0=>?_) (λh0 hbig N3 hN3 hw3=>?_) (λh0 hle v M3 N3 hv hM3 hN3 hm3 hw3=>?_)
 ·rw [zbp,h0] at hs; simp at hs
 ·try simp only [sS]
  refine zim (by decide) ?_;try simp only [sS]
  exact λhc=>⟨⟨F,M,N3⟩,zbl hc hd,λhw'=>k1 hs hbig _ (by omega) hw'⟩
 try simp only [sS]
 refine zc3 rfl ?_;try simp only [sS]
 have hx3:=(hM3 b (by omega)).trans hx;refine ldM (v:=.int .u8 m.kind) ?_ hx3;refine zcx (cs:=bts [m.kind]) (by kernel_rfl) (λb2 hb2=>?_);have hv4:sR F (upd M3 b2 (some (.cells 5 (bts [m.kind]) 1))) 1 v (zah (zav m)).length (bts (zah (zav m))):=(hv.rd).new hm3 hb2;have hk4:sR F (upd M3 b2 (some (.cells 5 (bts [m.kind]) 1))) 1 (.slice (some ⟨b2,0,none⟩) 1 1) 1 (bts [m.kind]):=⟨rfl,.inr ⟨b2,0,1,bts [m.kind],rfl,Nat.le_refl _,.inr ⟨_,_,za0 _ _ _⟩,rfl⟩⟩;have hm4:=hm3.new hb2 (some (.cells 5 (bts [m.kind]) 1));have hM4:∀ q,q<N -> upd M3 b2 (some (.cells 5 (bts [m.kind]) 1)) q=M q:=λq hq=>(za3 _ _ (by omega)).trans ((hM3 q (by omega)).trans (hM1 q hq));have hl1:(bts [m.kind]).length=1:=rfl;try simp only [hl1]
 generalize upd M3 b2 _=M4 at *;obtain ⟨va,vc,rfl,_⟩:=hv.form;refine zcx (cs:=[.slice (some ⟨b2,0,none⟩) 1 1,.slice va (zah (zav m)).length vc]) (by kernel_rfl) (λb3 hb3=>?_)
 have hts:zlj F (upd M4 b3 (some (.cells 44 [.slice (some ⟨b2,0,none⟩) 1 1,.slice va (zah (zav m)).length vc] 2))) (.slice (some ⟨b3,0,none⟩) 2 2) [[m.kind],zah (zav m)]:=by
  refine ⟨[.slice (some ⟨b2,0,none⟩) 1 1,.slice va (zah (zav m)).length vc],⟨rfl,.inr ⟨b3,0,2,_,rfl,Nat.le_refl _,.inr ⟨_,_,za0 _ _ _⟩,rfl⟩⟩,?_⟩;exact ((zfy.nil (λ(u:Value) (t:List Int)=>sR F (upd M4 b3 (some (.cells 44 [.slice (some ⟨b2,0,none⟩) 1 1,.slice va (zah (zav m)).length vc] 2))) 1 u t.length (bts t))).snoc (y:=[m.kind]) (hk4.new hm4 hb3)).snoc (y:=zah (zav m)) (hv4.new hm4 hb3)
 have hm5:=hm4.new hb3 (some (.cells 44 [.slice (some ⟨b2,0,none⟩) 1 1,.slice va (zah (zav m)).length vc] 2));have hfl:[[m.kind],zah (zav m)].flatten=zbe m:=by simp [zbe]
 refine zy2 hts (by rw [hfl]; simp [zbe]; omega) (by simp) (λw M6 N6 hw6 hM6 hN6 hm6 hwf6=>?_);rw [hfl] at hw6;try simp only [sS]
 exact λhc=>⟨_,za1 hc,λhw'=>k2 hs hle w M6 N6 (hw6.keep (λ_ _=>rfl) (by omega)) (λq hq=>(hM6 q (by omega)).trans ((za3 _ _ (by omega)).trans (hM4 q hq))) (by omega) hm6 hw'⟩
theorem zcw (r:zaj):(zah r).length=5+(if r.kind=1 then (zco r.ns).length+(zc8 r.fs).length else if r.kind=2 then 4+(zco r.ns).length else if r.kind=7 then 8+(zc9 r.es).length else 0):=by
 unfold zah;rw [List.length_append,List.length_append,za9,za9]
 split
 ·rw [List.length_append]; omega
 ·split
  ·rw [List.length_append,za9]; omega
  ·split
   ·rw [List.length_append,List.length_append,za9,za9]; omega
   ·rfl
theorem yo5 {r:zaj} (h:zbn r=true) (x:Int):(zah ⟨x,r.id,r.tm,r.ns,r.fs,r.lo,r.hi,r.es⟩).length≤(zah r).length+40:=by
 rw [zcw,zcw];simp only;have n0:(zco []).length=1:=rfl;have f0:(zc8 []).length=4:=rfl;have e0:(zc9 []).length=4:=rfl;unfold zbn at h
 split at h
 ·rename_i g
  simp only [Bool.and_eq_true,decide_eq_true_eq] at h;rw [if_pos g,h.1.1.2.2.2,e0]; (repeat' split)<;>omega
 ·rename_i g1
  split at h
  ·rename_i g2
   simp only [Bool.and_eq_true,decide_eq_true_eq] at h;rw [if_neg g1,if_pos g2,h.1.2.2.1,h.1.2.2.2,e0,f0]; (repeat' split)<;>omega
  ·rename_i g2
   split at h
   ·rename_i g3
    simp only [decide_eq_true_eq] at h;rw [h.2.2.2.1,h.2.2.2.2.1,h.2.2.2.2.2,e0,f0,n0]; (repeat' split)<;>omega
   ·split at h
    ·rename_i g7
     simp only [Bool.and_eq_true,decide_eq_true_eq] at h;rw [if_neg g1,if_neg g2,if_pos g7,h.1.2.1,h.1.2.2.1,f0,n0]; (repeat' split)<;>omega
    ·cases h
def zg4 (x:Int) (r:zaj):zaj:=⟨x,r.id,r.tm,r.ns,r.fs,r.lo,r.hi,r.es⟩
def zml (l:List Int):Option zaj:=match l with
 | []=>none
 | x::q=>match zg2 q with
  | none=>none
  | some r=>if zbp (zg4 x r)=true∧(zah (zav (zg4 x r))).length≤60000∧zbe (zg4 x r)=x::q then some (zg4 x r) else none
def zc4:List Value:=[.int .u8 0,.int .u32 0,.int .u32 0,.slice none 0 0,.slice none 0 0,.int .i64 0,.int .i64 0,.slice none 0 0]
theorem ygk {q:List Int} {r:zaj} (h:zg2 q=some r):zbn r=true∧zah r=q:=by
 unfold zg2 at h
 split at h
 ·split at h
  ·rename_i g
   simp only [Option.some.injEq] at h; subst h; exact g
  ·cases h
 ·cases h
theorem yqr {v:Value} {l:List Int} (hv:sR F M 1 v l.length (bts l)) (ho:∀ q,v.ownBlock=some q -> q<N) (hb8:zbg l) (hln:l.length≤60001) (h6:∀ x r,rd 1 (l.drop 1)=some (x,r) -> x≠6)
  (k1:∀ cs F' M' N' m,zml l=some m -> zfz F' cs m -> m.lens -> m.typ -> za7 F F' -> N≤N' -> (∀ q,q<N -> M' q=M q) -> za5 M' N' -> (Hp.mk F' M' N').wf -> K (.tuple #[.agg cs.toArray,.int .u16 0]) ⟨F',M',N'⟩)
  (k0:zml l=none -> ∀ F' M' N',za7 F F' -> N≤N' -> (∀ q,q<N -> M' q=M q) -> za5 M' N' -> (Hp.mk F' M' N').wf -> K (.tuple #[.agg zc4.toArray,.int .u16 160]) ⟨F',M',N'⟩) :
  cF 42 #[v] K E ⟨F,M,N⟩:=by
 refine za4 za8 Tryz.func42 (by kernel_rfl) (t42 _ E _) (λhw=>?_);have hm:za5 M N:=hw.m;have hlv:zab v=some (.int .i64 (l.length:Nat)):=by obtain ⟨a,c,h,_⟩:=hv.form; rw [h]; rfl
 refine zap (cs:=zc4) (λxb hxb=>?_);have hx1:=za0 M xb (some (.cells 49 zc4 8));have hm1:=hm.new hxb (some (.cells 49 zc4 8));have hM1:∀ q,q<N -> upd M xb (some (.cells 49 zc4 8)) q=M q:=λq hq=>za3 _ _ (by omega);have hv1:sR F (upd M xb (some (.cells 49 zc4 8))) 1 v l.length (bts l):=hv.new hm hxb;have hel:zc4.length=8:=rfl;try simp only [hel]
 generalize upd M xb _=M1 at *
 have no:zml l=none -> ∀ F3 M3 N3,za7 F F3 -> xb<N3 -> (∀ q,q<N -> M3 q=M q) -> M3 xb=some (.cells 49 zc4 8) -> za5 M3 N3 ->
   pv (bdC zc4.toArray [(0,1),(1,1),(2,1),(3,1),(4,1),(5,1),(6,1),(7,1)] #[]) (λt4=>st 8 (.pointer (some ⟨xb,0,none⟩)) t4 λ_=>ld true 8 (.pointer (some ⟨xb,0,none⟩)) λt5 h=>h.wf -> ∃ h',h.wk h'∧(h'.wf -> K (.tuple #[t5,.int .u16 160]) h')) ⟨F3,M3,N3⟩:=by
  intro h0 F3 M3 N3 hF3 hN3 hM3 hx3 hm3;refine zaa (v:=.agg zc4.toArray) (by kernel_rfl) ?_;refine stM (cs':=zc4) ?_ hx3 rfl rfl (List.all_eq_true.1 rfl);refine zb6 (vs:=zc4) ?_ (za0 _ _ _) rfl (by exact (show 0+8≤zc4.length by decide));exact λhc=>⟨_,za1 hc,λhw'=>k0 h0 F3 _ N3 hF3 (by omega) (λq hq=>(za3 _ _ (by omega)).trans (hM3 q hq)) (hm3.set hN3 _) hw'⟩
 refine zaa hlv ?_;cases l with
 | nil=>
  refine zeg rfl ?_;try simp only [sS]
  exact no rfl F M1 (xb+1) (za7.refl _) (by omega) hM1 hx1 hm1
 | cons x q=>
  refine zbj (by simp only [List.length_cons]; omega) ?_;try simp only [sS]
  refine ybo (i:=1) hv1 (by simp) (λu hu hub=>?_);have hb8q:zbg q:=λy hy=>hb8 y (List.mem_cons_of_mem _ hy);have hlq:q.length≤60000:=by simp only [List.length_cons] at hln; omega
  refine yi8 (l:=q) hu (λb hb=>by have := ho b (hub b hb); omega) hb8q hlq h6 (λcs F3 M3 N3 r h1 h2 h3 h4 hF3 hN3 hM3 hm3 hw3=>?_) (λh0 F3 M3 N3 hF3 hN3 hM3 hm3 hw3=>?_)
  ·have hdr:=ygk h1;have hx3:=(hM3 xb (by omega)).trans hx1;have hM3':∀ p,p<N -> M3 p=M p:=λp hp=>(hM3 p (by omega)).trans (hM1 p hp)
   have hz:zfz F3 [.int .u8 x,.int .u32 r.id,.int .u32 r.tm,cs[3]?.getD undef,cs[4]?.getD undef,.int .i64 r.lo,.int .i64 r.hi,cs[9]?.getD undef] (zg4 x r):=by
    obtain ⟨na,nc,fv,sa,sc,ev,rfl,hn,hf,he⟩:=h2;exact ⟨na,nc,fv,ev,rfl,hn,hf,he⟩
   have hLm:(zg4 x r).lens:=⟨h3.nl,h3.fl,h3.el,h3.et⟩;have hTm:(zg4 x r).typ:=⟨h4.i0,h4.t0,h4.fv,h4.ev⟩
   have hEm:(zah (zav (zg4 x r))).length≤2097152:=by
    have := yo5 hdr.1 (zbv x);rw [hdr.2] at this;have e:zav (zg4 x r)=⟨zbv x,r.id,r.tm,r.ns,r.fs,r.lo,r.hi,r.es⟩:=rfl;rw [e]; omega
   obtain ⟨na,nc,fv,sa,sc,ev,rfl,hn,hf,he⟩:=h2;obtain ⟨fa,fc,rfl⟩:=hf.form;obtain ⟨ea,ec,rfl⟩:=he.form;simp only [List.getElem?_cons_succ,List.getElem?_cons_zero,Option.getD_some] at hz;try simp only [sS]
   refine zap (cs:=zac) (λrb hrb=>?_);refine stM (cs':=[.int .u8 r.kind,.int .u32 r.id,.int .u32 r.tm,.slice na r.ns.length nc,.slice fa r.fs.length fc,.int .u32 0,.slice sa 0 sc,.int .i64 r.lo,.int .i64 r.hi,.slice ea r.es.length ec]) ?_ (za0 _ _ _) rfl rfl (List.all_eq_true.1 rfl);rw [zan];have hr4:=za0 M3 rb (some (.cells 77 [.int .u8 r.kind,.int .u32 r.id,.int .u32 r.tm,.slice na r.ns.length nc,.slice fa r.fs.length fc,.int .u32 0,.slice sa 0 sc,.int .i64 r.lo,.int .i64 r.hi,.slice ea r.es.length ec] 10));have hx4:upd M3 rb (some (.cells 77 [.int .u8 r.kind,.int .u32 r.id,.int .u32 r.tm,.slice na r.ns.length nc,.slice fa r.fs.length fc,.int .u32 0,.slice sa 0 sc,.int .i64 r.lo,.int .i64 r.hi,.slice ea r.es.length ec] 10)) xb=_:=(za3 _ _ (by omega)).trans hx3;have hM4:∀ p,p<N -> upd M3 rb (some (.cells 77 [.int .u8 r.kind,.int .u32 r.id,.int .u32 r.tm,.slice na r.ns.length nc,.slice fa r.fs.length fc,.int .u32 0,.slice sa 0 sc,.int .i64 r.lo,.int .i64 r.hi,.slice ea r.es.length ec] 10)) p=M p:=λp hp=>(za3 _ _ (by omega)).trans (hM3' p hp);have hm4:=hm3.new hrb (some (.cells 77 [.int .u8 r.kind,.int .u32 r.id,.int .u32 r.tm,.slice na r.ns.length nc,.slice fa r.fs.length fc,.int .u32 0,.slice sa 0 sc,.int .i64 r.lo,.int .i64 r.hi,.slice ea r.es.length ec] 10));have hre:zac.length=10:=rfl;try simp only [hre]
   generalize upd M3 rb _=M4 at *;refine zc3 rfl ?_;try simp only [sS]
   have hv4:sR F3 M4 1 v (x::q).length (bts (x::q)):=hv.keep hF3 λp c hp h=>(hM4 p (ho p hp)).trans h;obtain ⟨pb,po,hp1,hp2⟩:=zvl hv4 (i:=0) (by simp);refine hp1 _ _ (zfo (hp2 hv4 _) ?_);try simp only [sS]
   refine ldM (v:=.int .u32 r.id) ?_ hr4;try simp only [sS]
   refine ldM (v:=.int .u32 r.tm) ?_ hr4;try simp only [sS]
   refine ldM (v:=.slice na r.ns.length nc) ?_ hr4;try simp only [sS]
   refine ldM (v:=.slice fa r.fs.length fc) ?_ hr4;try simp only [sS]
   refine ldM (v:=.int .i64 r.lo) ?_ hr4;try simp only [sS]
   refine ldM (v:=.int .i64 r.hi) ?_ hr4;try simp only [sS]
   refine ldM (v:=.slice ea r.es.length ec) ?_ hr4;refine zaa (v:=.agg #[.int .u8 x,.int .u32 r.id,.int .u32 r.tm,.slice na r.ns.length nc,.slice fa r.fs.length fc,.int .i64 r.lo,.int .i64 r.hi,.slice ea r.es.length ec]) (by kernel_rfl) ?_;refine zap (cs:=zc4) (λmb hmb=>?_);have hr5:=(za3 M4 (some (.cells 49 zc4 8)) (show rb≠mb by omega)).trans hr4;refine ⟨zaz (zb4 hr5) rfl,zaz (zb4 hr5) rfl,zaz (zb4 hr5) rfl,zaz (zb4 hr5) rfl,zaz (zb4 hr5) rfl,zaz (zb4 hr5) rfl,zaz (zb4 hr5) rfl,hp2 (hv4.new hm4 hmb) _,?_⟩;refine stM (cs':=[.int .u8 x,.int .u32 r.id,.int .u32 r.tm,.slice na r.ns.length nc,.slice fa r.fs.length fc,.int .i64 r.lo,.int .i64 r.hi,.slice ea r.es.length ec]) ?_ (za0 _ _ _) rfl rfl (List.all_eq_true.1 rfl);rw [zan];have hmb5:=za0 M4 mb (some (.cells 49 [.int .u8 x,.int .u32 r.id,.int .u32 r.tm,.slice na r.ns.length nc,.slice fa r.fs.length fc,.int .i64 r.lo,.int .i64 r.hi,.slice ea r.es.length ec] 8));have hx5:upd M4 mb (some (.cells 49 [.int .u8 x,.int .u32 r.id,.int .u32 r.tm,.slice na r.ns.length nc,.slice fa r.fs.length fc,.int .i64 r.lo,.int .i64 r.hi,.slice ea r.es.length ec] 8)) xb=_:=(za3 _ _ (by omega)).trans hx4;have hM5:∀ p,p<N -> upd M4 mb (some (.cells 49 [.int .u8 x,.int .u32 r.id,.int .u32 r.tm,.slice na r.ns.length nc,.slice fa r.fs.length fc,.int .i64 r.lo,.int .i64 r.hi,.slice ea r.es.length ec] 8)) p=M p:=λp hp=>(za3 _ _ (by omega)).trans (hM4 p hp);have hm5:=hm4.new hmb (some (.cells 49 [.int .u8 x,.int .u32 r.id,.int .u32 r.tm,.slice na r.ns.length nc,.slice fa r.fs.length fc,.int .i64 r.lo,.int .i64 r.hi,.slice ea r.es.length ec] 8));try simp only [hel]
   clear hr5;generalize upd M4 mb _=M5 at *;refine zb6 (vs:=[.int .u8 x,.int .u32 r.id,.int .u32 r.tm,.slice na r.ns.length nc,.slice fa r.fs.length fc,.int .i64 r.lo,.int .i64 r.hi,.slice ea r.es.length ec]) ?_ hmb5
   have dn:¬ (zbp (zg4 x r)=true∧(zah (zav (zg4 x r))).length≤60000∧zbe (zg4 x r)=x::q) -> zml (x::q)=none:=λh=>by
    unfold zml; simp only [h1]; rw [if_neg h]
   refine yhw hz hLm hTm hEm (λhs N6 hN6 hw6=>?_) (λhs hbig N6 hN6 hw6=>?_) (λhs hle w M6 N6 hw6 hM6 hN6 hm6 hwf6=>?_)
   ·try simp only [sS]
    refine zim (by decide) ?_;try simp only [sS]
    exact no (dn λh=>by rw [hs] at h; cases h.1) F3 M5 N6 hF3 (by omega) hM5 hx5 (hm5.up hN6)
   ·try simp only [sS]
    refine zim (by decide) ?_;try simp only [sS]
    exact no (dn λh=>by omega) F3 M5 N6 hF3 (by omega) hM5 hx5 (hm5.up hN6)
   ·try simp only [sS]
    refine zc3 rfl ?_;try simp only [sS]
    have hM6':∀ p,p<N -> M6 p=M p:=λp hp=>(hM6 p (by omega)).trans (hM5 p hp);have hv6:sR F3 M6 1 v (x::q).length (bts (x::q)):=hv.keep hF3 λp c hp h=>(hM6' p (ho p hp)).trans h;have hx6:=(hM6 xb (by omega)).trans hx5
    have hb8w:zbg (zbe (zg4 x r)):=λy hy=>by
     rcases List.mem_cons.1 hy with rfl | hy
     ·exact hb8 _ (List.mem_cons_self ..)
     ·exact zl9 _ y hy
    refine ye7 hw6.rd hv6 hb8w hb8 (λhw7=>?_)
    by_cases he2:zbe (zg4 x r)=x::q
    ·rw [decide_eq_true he2];try simp only [sS]
     refine zb6 (vs:=[.int .u8 x,.int .u32 r.id,.int .u32 r.tm,.slice na r.ns.length nc,.slice fa r.fs.length fc,.int .i64 r.lo,.int .i64 r.hi,.slice ea r.es.length ec]) ?_ ((hM6 mb (by omega)).trans hmb5);refine stM (cs':=[.int .u8 x,.int .u32 r.id,.int .u32 r.tm,.slice na r.ns.length nc,.slice fa r.fs.length fc,.int .i64 r.lo,.int .i64 r.hi,.slice ea r.es.length ec]) ?_ hx6 rfl rfl (List.all_eq_true.1 rfl);refine zb6 (vs:=[.int .u8 x,.int .u32 r.id,.int .u32 r.tm,.slice na r.ns.length nc,.slice fa r.fs.length fc,.int .i64 r.lo,.int .i64 r.hi,.slice ea r.es.length ec]) ?_ (za0 _ _ _);exact λhc=>⟨_,za1 hc,λhw'=>k1 _ F3 _ N6 (zg4 x r) (by unfold zml; simp only [h1]; rw [if_pos ⟨hs,hle,he2⟩]) hz hLm hTm hF3 (by omega) (λp hp=>(za3 _ _ (by omega)).trans (hM6' p hp)) (hm6.set (by omega) _) hw'⟩
    ·rw [decide_eq_false he2];try simp only [sS]
     exact no (dn λh=>he2 h.2.2) F3 M6 N6 hF3 (by omega) hM6' hx6 hm6
  ·have hx3:=(hM3 xb (by omega)).trans hx1;have hM3':∀ p,p<N -> M3 p=M p:=λp hp=>(hM3 p (by omega)).trans (hM1 p hp);try simp only [sS]
   refine zap (cs:=zac) (λrb hrb=>?_);refine stM (cs':=zac) ?_ (za0 _ _ _) rfl rfl (List.all_eq_true.1 rfl);rw [zan];refine zim (by decide) ?_;try simp only [sS]
   exact no (by unfold zml; simp only [h0]) F3 _ (rb+1) hF3 (by omega) (λp hp=>(za3 _ _ (by omega)).trans (hM3' p hp)) ((za3 _ _ (by omega)).trans hx3) (hm3.new hrb _)
theorem yid {e:EqK} {a b:Int} {h:Hp} (h0:0≤a+b) (h1:a+b<4294967296) (k:K (.int .u32 (a+b)) h):pv (za2 e .add (.int .u32 a) (.int .u32 b)) K h :=
 ⟨_,by simp [za2,zfa]; rfl,by rw [IntKind.wrap_u32,show (a+b)%4294967296=a+b by omega]; exact k⟩
theorem yi4 {e:EqK} {a b:Int} {h:Hp} (h0:0≤a - b) (h1:a - b<4294967296) (k:K (.int .u32 (a - b)) h):pv (za2 e .sub (.int .u32 a) (.int .u32 b)) K h :=
 ⟨_,by simp [za2,zfa]; rfl,by rw [IntKind.wrap_u32,show (a - b)%4294967296=a - b by omega]; exact k⟩
theorem ylx {kk:IntKind} {x:Int} {h:Hp} (h0:0≤x) (h1:x<4294967296) (k:K (.int .u32 x) h):pv (cvV .u32 (.int kk x)) K h :=
 ⟨_,rfl,by rw [IntKind.wrap_u32,show x%4294967296=x by omega]; exact k⟩
def zdh (x:Int):Int:=if x≥65521 then x - 65521 else x
def zlm (p:Int×Int) (c:Int):Int×Int:=(zdh (p.1+c),zdh (p.2+zdh (p.1+c)))
def zk7 (l:List Int):Int×Int:=l.foldl zlm (1,0)
def zjr (p:Int×Int):Prop:=(0≤p.1∧p.1<65521)∧0≤p.2∧p.2<65521
theorem ymg {p:Int×Int} {c:Int} (h:zjr p) (hc:0≤c∧c<256):zjr (zlm p c):=by
 unfold zjr zlm zdh at *;simp only
 split<;>split<;>omega
theorem ygp (l:List Int) (c:Int):zk7 (l++[c])=zlm (zk7 l) c:=by simp [zk7]
theorem yd8:∀ (l:List Int) (p:Int×Int),zbg l -> zjr p -> zjr (l.foldl zlm p)
 | [],p,_,h=>h
 | x::l,p,hb,h=>yd8 l _ (λy hy=>hb y (List.mem_cons_of_mem _ hy)) (ymg h (hb x (List.mem_cons_self ..)))
theorem yj9 {l:List Int} (h:zbg l):zjr (zk7 l):=yd8 l _ h (by unfold zjr; simp)
def zjd (p:Int×Int):Option zak:=some (.cells 337 [.int .u32 p.1,.int .u32 p.2] 2)
theorem ypu {b:Nat} {p:Int×Int} {c:Int} (hb:M b=zjd p) (hp:zjr p) (hc:0≤c∧c<256) (k:(Hp.mk F (upd M b (zjd (zlm p c))) N).wf -> K (.tuple #[]) ⟨F,upd M b (zjd (zlm p c)),N⟩) :
  zbs Tryz.prog (.func (.func 246) #[.pointer (some ⟨b,0,none⟩)] #[]) #[.int .u8 c] K E ⟨F,M,N⟩:=by
 refine za4 za8 Tryz.func246 (by kernel_rfl) (yu4 _ E _ _) (λhw=>?_);obtain ⟨⟨p1,p2⟩,p3,p4⟩:=hp;unfold zjd at hb
 have tail:∀ M1,M1 b=zjd (zdh (p.1+c),p.2) -> (∀ x,upd M1 b x=upd M b x) -> 0≤zdh (p.1+c) -> zdh (p.1+c)<65521 ->
   (pv (zai (.pointer (some ⟨b,0,none⟩))) λt1=>pv (faV 1 t1) λt2=>ld false 1 t2 λt3=>pv (zai (.pointer (some ⟨b,0,none⟩))) λt4=>pv (faV 0 t4) λt5=>ld false 1 t5 λt6=>pv (za2 .none .add t3 t6) λt7=>pv (zai (.pointer (some ⟨b,0,none⟩))) λt8=>pv (faV 1 t8) λt9=>st 1 t9 t7 λ_=>pv (zai (.pointer (some ⟨b,0,none⟩))) λt10=>pv (faV 1 t10) λt11=>ld false 1 t11 λt12=>pv (za2 .none .geq t12 (.int .u32 65521)) λt13=>
    cnd t13 (pv (zai (.pointer (some ⟨b,0,none⟩))) λt14=>pv (faV 1 t14) λt15=>ld false 1 t15 λt16=>pv (za2 .none .sub t16 (.int .u32 65521)) λt17=>pv (zai (.pointer (some ⟨b,0,none⟩))) λt18=>pv (faV 1 t18) λt19=>st 1 t19 t17 λ_=>λh=>h.wf -> ∃ h',h.wk h'∧(h'.wf -> K (.tuple #[]) h')) (λh=>h.wf -> ∃ h',h.wk h'∧(h'.wf -> K (.tuple #[]) h'))) ⟨F,M1,N⟩:=by
  intro M1 h1 hM l1 l2;unfold zjd at h1;try simp only [sS]
  refine ldM (v:=.int .u32 p.2) ?_ h1;try simp only [sS]
  refine ldM (v:=.int .u32 (zdh (p.1+c))) ?_ h1;refine yid (by omega) (by omega) ?_;try simp only [sS]
  refine stM (cs':=[.int .u32 (zdh (p.1+c)),.int .u32 (p.2+zdh (p.1+c))]) ?_ h1 rfl;try simp only [sS]
  refine ldM (v:=.int .u32 (p.2+zdh (p.1+c))) ?_ (za0 _ _ _);refine zg8 (λhg=>zax ?_) (λhg=>zaq ?_)
  ·try simp only [sS]
   refine ldM (v:=.int .u32 (p.2+zdh (p.1+c))) ?_ (za0 _ _ _);refine yi4 (by omega) (by omega) ?_;try simp only [sS]
   refine stM (cs':=[.int .u32 (zdh (p.1+c)),.int .u32 (p.2+zdh (p.1+c) - 65521)]) ?_ (za0 _ _ _) rfl;rw [zan]
   have e:zlm p c=(zdh (p.1+c),p.2+zdh (p.1+c) - 65521):=by
    unfold zlm; rw [show zdh (p.2+zdh (p.1+c))=p.2+zdh (p.1+c) - 65521 by rw [zdh,if_pos hg]]
   rw [e] at k;unfold zjd at k;rw [hM];exact λhc=>⟨_,za1 hc,k⟩
  ·have e:zlm p c=(zdh (p.1+c),p.2+zdh (p.1+c)):=by
    unfold zlm; rw [show zdh (p.2+zdh (p.1+c))=p.2+zdh (p.1+c) by rw [zdh,if_neg hg]]
   rw [e] at k;unfold zjd at k;rw [hM];exact λhc=>⟨_,za1 hc,k⟩
 try simp only [sS]
 refine ldM (v:=.int .u32 p.1) ?_ hb;refine ylx hc.1 (by omega) (yid (by omega) (by omega) ?_);try simp only [sS]
 refine stM (cs':=[.int .u32 (p.1+c),.int .u32 p.2]) ?_ hb rfl;try simp only [sS]
 refine ldM (v:=.int .u32 (p.1+c)) ?_ (za0 _ _ _);refine zg8 (λhg=>zax ?_) (λhg=>zaq ?_)
 ·try simp only [sS]
  refine ldM (v:=.int .u32 (p.1+c)) ?_ (za0 _ _ _);refine yi4 (by omega) (by omega) ?_;try simp only [sS]
  refine stM (cs':=[.int .u32 (p.1+c - 65521),.int .u32 p.2]) ?_ (za0 _ _ _) rfl;rw [yg7,zan];have e:zdh (p.1+c)=p.1+c - 65521:=by rw [zdh,if_pos hg]
  exact tail _ (by rw [e]; exact za0 _ _ _) (λx=>by rw [zan]) (by omega) (by omega)
 ·rw [yg7];have e:zdh (p.1+c)=p.1+c:=by rw [zdh,if_neg hg]
  exact tail _ (by rw [e]; exact za0 _ _ _) (λx=>by rw [zan]) (by omega) (by omega)
def orU (a b:Int):Int:=IntKind.u32.wrap (BitVec.ofInt 32 a|||BitVec.ofInt 32 b).toNat
def zle (l:List Int):Int:=orU (IntKind.u32.wrap ((zk7 l).2*65536)) (zk7 l).1
theorem ye4 {ts:List (List Int)} (h:∀ t∈ts,zbg t):zbg ts.flatten:=λx hx=>by
 obtain ⟨t,ht,hx⟩:=List.mem_flatten.1 hx;exact h t ht x hx
theorem znf {l:List Int} {n:Nat} (h:zbg l):zbg (l.take n):=λx hx=>h x (List.mem_of_mem_take hx)
theorem zne {l:List Int} {n:Nat} (h:zbg l):zbg (l.drop n):=λx hx=>h x (List.mem_of_mem_drop hx)
theorem yoy {M0:Nat -> Option zak} {N0:Nat} {v:Value} {ts:List (List Int)} {K:Value -> zae} (hm0:za5 M0 N0) (hv:zlj F M0 v ts) (hM:∀ q,q<N0 -> M q=M0 q) {i:Nat} (hi:i<ts.length) (k:∀ p u,sR F M0 1 u ts[i].length (bts ts[i]) -> K p u ⟨F,M,N⟩):pv (iaV none 1 v (.int .i64 (i:Nat))) (λp=>ld false 1 p (K p)) ⟨F,M,N⟩:=by
 obtain ⟨us,h1,h2⟩:=hv;obtain ⟨u,hu,hR⟩:=h2.get (List.getElem?_eq_getElem hi)
 rcases (zfi hm0 h1 hM).2 with ⟨a,c,e1,e2⟩ | ⟨b,o,c,cs,rfl,h3,h4,h5⟩
 ·omega
 refine zct hi (zfo (zaz (cs:=cs) ?_ ?_) (k _ u hR))
 ·rcases h4 with h4 | ⟨e,tot,h4⟩
  ·exact zh9 h4
  ·exact zb4 h4
 ·rw [← h5,List.getElem?_take,List.getElem?_drop] at hu
  split at hu
  ·rw [Nat.mul_one]; exact hu
  ·cases hu
theorem ym2 {v:Value} {ts:List (List Int)} (hv:zlj F M v ts) (hb8:∀ t∈ts,zbg t) (hl:∀ t∈ts,t.length≤1000000000) (htl:ts.length≤1000000000)
  (k:∀ N',N≤N' -> (Hp.mk F M N').wf -> K (.int .u32 (zle ts.flatten)) ⟨F,M,N'⟩) :
  cF 185 #[v] K E ⟨F,M,N⟩:=by
 refine za4 za8 Tryz.func185 (by kernel_rfl) (yva _ E _) (λhw=>?_);have hm:za5 M N:=hw.m;have hlv:zab v=some (.int .i64 (ts.length:Nat)):=by obtain ⟨us,h1,_⟩:=hv; obtain ⟨a,c,rfl,_⟩:=h1.form; rfl
 refine zaa (v:=.agg #[.int .u32 1,.int .u32 0]) (by kernel_rfl) ?_;refine zap (cs:=[.int .u32 0,.int .u32 0]) (λb hb=>?_);refine stM (cs':=[.int .u32 1,.int .u32 0]) ?_ (za0 _ _ _) rfl rfl (List.all_eq_true.1 rfl);rw [zan];refine zaa hlv ?_
 refine zq5 (σ:=Nat) (λi=>.int .i64 (i:Nat)) (λi h=>h=⟨F,upd M b (zjd (zk7 (ts.take i).flatten)),b+1⟩∧i≤ts.length) (λi=>ts.length - i) 0 rfl
  (λhw1=>⟨_,za1 hw1,rfl,Nat.zero_le _⟩) (λk1 i j h1 hI hw1 next=>?_)
 rw [zq6];obtain ⟨rfl,hi⟩:=hI;refine zat (λhlt=>?_) (λhge=>?_)
 ·have h1:i<ts.length:=by omega
  have hmem:ts[i]∈ts:=List.getElem_mem h1;try simp only [sS]
  refine yoy hm hv (λq hq=>za3 _ _ (by omega)) h1 λp u hu=>?_;have hlu:zab u=some (.int .i64 (ts[i].length:Nat)):=by obtain ⟨a,c,rfl,_⟩:=hu.form; rfl
  refine zaa hlu ?_
  refine zi8 (σ:=Nat) (λn=>.int .i64 (n:Nat)) (λn h=>h=⟨F,upd M b (zjd (zk7 ((ts.take i).flatten++ts[i].take n))),b+1⟩∧n≤ts[i].length) (λn=>ts[i].length - n) 0 rfl
   (λhw2=>⟨_,za1 hw2,by simp,Nat.zero_le _⟩) (λk2 n j2 h2 hI2 hw2 next2=>?_)
  rw [zi5];obtain ⟨rfl,hn⟩:=hI2;have hu2:sR F (upd M b (zjd (zk7 ((ts.take i).flatten++ts[i].take n)))) 1 u ts[i].length (bts ts[i]):=zfi hm hu (λq hq=>za3 _ _ (by omega));refine zat (λhlt2=>?_) (λhge2=>?_)
  ·have h2:n<ts[i].length:=by omega
   try simp only [sS]
   obtain ⟨pb,po,hp1,hp2⟩:=zvl hu2 h2;refine hp1 _ _ (zfo (hp2 hu2 _) ?_);have ok:zjr (zk7 ((ts.take i).flatten++ts[i].take n)):=yj9 (zfk (ye4 λt ht=>hb8 t (List.mem_of_mem_take ht)) (znf (hb8 _ hmem)));refine ypu (za0 _ _ _) ok (hb8 _ hmem _ (List.getElem_mem h2)) (λhw3=>?_);have hl2:=hl _ hmem;refine zas (by omega) ?_;refine next2 (n+1) _ _ (by omega) (λhw4=>⟨_,za1 hw4,?_,h2⟩);rw [zan,← ygp,List.append_assoc,List.take_append_getElem h2]
  ·try simp only [sS]
   refine zas (by omega) ?_;refine next (i+1) _ _ (by omega) (λhw4=>⟨_,za1 hw4,?_,h1⟩);rw [zjl ts h1,List.take_of_length_le (show ts[i].length≤n by omega)]
 ·try simp only [sS]
  rw [List.take_of_length_le (by omega)];refine ldM (v:=.int .u32 (zk7 ts.flatten).2) ?_ (za0 _ _ _);refine zaa (v:=.int .u32 (IntKind.u32.wrap ((zk7 ts.flatten).2*65536))) (by kernel_rfl) ?_;try simp only [sS]
  refine ldM (v:=.int .u32 (zk7 ts.flatten).1) ?_ (za0 _ _ _);refine zaa (v:=.int .u32 (zle ts.flatten)) (by kernel_rfl) ?_;exact λhc=>⟨⟨F,M,b+1⟩,zbl hc (zb5 (zbb _) (hm _ hb)),λhw'=>k _ (by omega) hw'⟩
theorem zzh {x:Int} {k:Nat} {h:Hp} (kk:K (.int .u32 (x.fdiv (2 ^ (min k 32)))) h):pv (za2 .none .shr (.int .u32 x) (.int .u64 (k:Nat))) K h :=
 ⟨_,by
  have e:za2 .none .shr (.int .u32 x) (.int .u64 (k:Nat))=zgf .shr .u32 x (k:Nat):=rfl;rw [e]; unfold zgf; rw [if_neg (by omega)]; simp only [Int.toNat_natCast]; rfl,kk⟩
theorem ymc (n:Int):bts (zam n 4)=[.int .u8 (IntKind.u8.wrap (n.fdiv (2 ^ 24))),.int .u8 (IntKind.u8.wrap (n.fdiv (2 ^ 16))),.int .u8 (IntKind.u8.wrap (n.fdiv (2 ^ 8))),.int .u8 (IntKind.u8.wrap n)]:=by
 have:IntKind.u8.wrap (n.fdiv (2 ^ 0))=IntKind.u8.wrap n:=by simp
 rw [← this]; rfl
theorem yh8 (n:Int) {size:Nat} (h:size≤4):(zam n 4).drop (4 - size)=zam n size:=by
 have:size=0∨size=1∨size=2∨size=3∨size=4:=by omega
 rcases this with rfl | rfl | rfl | rfl | rfl<;>rfl
theorem zx9 {n:Int} {size:Nat} (hs:size≤4) (k:∀ v' M' N',own M' N 5 1 v' size (bts (zam n size)) -> (∀ q,q<N -> M' q=M q) -> N≤N' -> za5 M' N' -> (Hp.mk F M' N').wf -> K v' ⟨F,M',N'⟩) :
  cF 184 #[.int .u32 n,.int .i64 (size:Nat)] K E ⟨F,M,N⟩:=by
 refine za4 za8 Tryz.func184 (by kernel_rfl) (ywn _ E _ _) (λhw=>?_);have hm:za5 M N:=hw.m;refine zzh (k:=24) (zaa rfl (zzh (k:=16) (zaa rfl (zzh (k:=8) (zaa rfl (zaa rfl ?_))))));refine zaa (v:=.agg (bts (zam n 4)).toArray) (by rw [ymc]; kernel_rfl) ?_;refine zap (cs:=[.int .u8 0,.int .u8 0,.int .u8 0,.int .u8 0]) (λb hb=>?_);refine stM (cs':=bts (zam n 4)) ?_ (za0 _ _ _) (by rw [ymc]; rfl) rfl (zmy _);rw [zan];have e4:((4:Nat):Int) - (size:Nat)=((4 - size:Nat):Int):=by omega
 refine zcr (a:=(4:Nat)) (by omega) (by omega) ?_;rw [e4];have hv:sR F (upd M b (some (.cells 335 (bts (zam n 4)) 4))) 1 (.slice (some ⟨b,0,none⟩) 4 4) (zam n 4).length (bts (zam n 4)):=⟨by simp [bts],.inr ⟨b,0,4,_,rfl,by rw [za9]; exact Nat.le_refl _,.inr ⟨_,_,za0 _ _ _⟩,by rw [List.drop_zero]; exact List.take_of_length_le (by simp [bts])⟩⟩;refine ybo hv (i:=4 - size) (by rw [za9]; omega) (λu hu _=>?_);rw [yh8 n hs] at hu;refine yh5 hu (by rw [za9]; omega) (λw M' N' h1 h2 h3 h4 h5=>?_);rw [za9] at h1;exact λhc=>⟨_,za1 hc,λhw'=>k w M' N' (h1.keep (λ_ _=>rfl) (by omega)) (λq hq=>(h2 q (by omega)).trans (za3 _ _ (by omega))) (by omega) h4 hw'⟩
def zbd (l:List Int):List Int:=zam (l.length:Nat) 3++(l++zam (zle (zam (l.length:Nat) 3++l)) 4)
theorem zdp (l:List Int):(zbd l).length=l.length+7:=by unfold zbd; rw [List.length_append,List.length_append,za9,za9]; omega
theorem yiy {l:List Int} (h:zbg l):zbg (zbd l):=zfk (zda _ _) (zfk h (zda _ _))
theorem yhu {v:Value} {l:List Int} (hv:sR F M 1 v l.length (bts l)) (hb8:zbg l) (hl:l.length≤2097152)
  (k0:l.length>60000 -> (Hp.mk F M N).wf -> K (.tuple #[.slice none 0 0,.int .u16 3]) ⟨F,M,N⟩)
  (k1:l.length≤60000 -> ∀ w M' N',own M' N 5 1 w (zbd l).length (bts (zbd l)) -> (∀ q,q<N -> M' q=M q) -> N≤N' -> za5 M' N' -> (Hp.mk F M' N').wf -> K (.tuple #[w,.int .u16 0]) ⟨F,M',N'⟩) :
  cF 131 #[v] K E ⟨F,M,N⟩:=by
 refine za4 za8 Tryz.func131 (by kernel_rfl) (ywh _ E _) (λhw=>?_);have hm:za5 M N:=hw.m;have hlv:zab v=some (.int .i64 (l.length:Nat)):=by obtain ⟨a,c,h,_⟩:=hv.form; rw [h]; rfl
 refine zaa hlv ?_;refine zbw (λhg=>zax ?_) (λhg=>zaq ?_)
 ·exact λhc=>⟨_,za1 hc,λhw'=>k0 (by omega) hw'⟩
 refine zaa hlv (ylx (by omega) (by omega) ?_);refine zx9 (size:=3) (by omega) (λn M1 N1 hn hM1 hN1 hm1 hw1=>?_);have hv1:sR F M1 1 v l.length (bts l):=zfi hm hv hM1;obtain ⟨na,nc,rfl,_⟩:=hn.form;obtain ⟨va,vc,rfl,_⟩:=hv.form;refine zcx (cs:=[.slice na 3 nc,.slice va l.length vc]) (by kernel_rfl) (λb1 hb1=>?_)
 have hts:zlj F (upd M1 b1 (some (.cells 44 [.slice na 3 nc,.slice va l.length vc] 2))) (.slice (some ⟨b1,0,none⟩) 2 2) [zam (l.length:Nat) 3,l] :=
  ⟨[.slice na 3 nc,.slice va l.length vc],⟨rfl,.inr ⟨b1,0,2,_,rfl,Nat.le_refl _,.inr ⟨_,_,za0 _ _ _⟩,rfl⟩⟩,
   ((zfy.nil (λ(u:Value) (t:List Int)=>sR F (upd M1 b1 (some (.cells 44 [.slice na 3 nc,.slice va l.length vc] 2))) 1 u t.length (bts t))).snoc (y:=zam (l.length:Nat) 3) (by rw [za9]; exact (hn.rd).new hm1 hb1)).snoc (y:=l) (hv1.new hm1 hb1)⟩
 refine ym2 hts (by simp only [List.mem_cons,List.not_mem_nil,or_false]; rintro t (rfl | rfl); exact zda _ _; exact hb8) (by simp only [List.mem_cons,List.not_mem_nil,or_false]; rintro t (rfl | rfl); rw [za9]; omega; omega) (by simp) (λN2 hN2 hw2=>?_);have hm2:za5 (upd M1 b1 (some (.cells 44 [.slice na 3 nc,.slice va l.length vc] 2))) (b1+1):=hm1.new hb1 _;have hM2:∀ q,q<N1 -> upd M1 b1 (some (.cells 44 [.slice na 3 nc,.slice va l.length vc] 2)) q=M1 q:=λq hq=>za3 _ _ (by omega);simp only [List.length_cons,List.length_nil,Nat.zero_add] at hw2 ⊢;generalize upd M1 b1 _=M2 at *;have hf:[zam (l.length:Nat) 3,l].flatten=zam (l.length:Nat) 3++l:=by simp
 rw [hf];refine zx9 (size:=4) (by omega) (λt M3 N3 ht hM3 hN3 hm3 hw3=>?_);have hn3:sR F M3 1 (.slice na 3 nc) 3 (bts (zam (l.length:Nat) 3)):=zfi hm2 (zfi hm1 hn.rd hM2) (λq hq=>hM3 q (by omega));have hv3:sR F M3 1 (.slice va l.length vc) l.length (bts l):=zfi hm2 (zfi hm1 hv1 hM2) (λq hq=>hM3 q (by omega));obtain ⟨ta,tc,rfl,_⟩:=ht.form;refine zcx (cs:=[.slice na 3 nc,.slice va l.length vc,.slice ta 4 tc]) (by kernel_rfl) (λb2 hb2=>?_)
 have hts2:zlj F (upd M3 b2 (some (.cells 44 [.slice na 3 nc,.slice va l.length vc,.slice ta 4 tc] 3))) (.slice (some ⟨b2,0,none⟩) 3 3) [zam (l.length:Nat) 3,l,zam (zle (zam (l.length:Nat) 3++l)) 4] :=
  ⟨[.slice na 3 nc,.slice va l.length vc,.slice ta 4 tc],⟨rfl,.inr ⟨b2,0,3,_,rfl,Nat.le_refl _,.inr ⟨_,_,za0 _ _ _⟩,rfl⟩⟩,
   (((zfy.nil (λ(u:Value) (t:List Int)=>sR F (upd M3 b2 (some (.cells 44 [.slice na 3 nc,.slice va l.length vc,.slice ta 4 tc] 3))) 1 u t.length (bts t))).snoc (y:=zam (l.length:Nat) 3) (by rw [za9]; exact hn3.new hm3 hb2)).snoc (y:=l) (hv3.new hm3 hb2)).snoc (y:=zam (zle (zam (l.length:Nat) 3++l)) 4) (by rw [za9]; exact (ht.rd).new hm3 hb2)⟩
 have hf2:[zam (l.length:Nat) 3,l,zam (zle (zam (l.length:Nat) 3++l)) 4].flatten=zbd l:=by simp [zbd]
 refine zy2 hts2 (by rw [hf2,zdp]; omega) (by simp) (λw M4 N4 hw4 hM4 hN4 hm4 hwf4=>?_);rw [hf2] at hw4;refine λhc=>⟨_,za1 hc,λhw'=>k1 (by omega) w M4 N4 (hw4.keep (λ_ _=>rfl) (by omega)) (λq hq=>?_) (by omega) hm4 hw'⟩;exact (hM4 q (by omega)).trans ((za3 _ _ (by omega)).trans ((hM3 q (by omega)).trans ((hM2 q (by omega)).trans (hM1 q hq))))
def zck (l:List Int):Option (List Int) :=
 if l.length<7 then none else if (rdV (l.take 3) 0).toNat>60000∨(rdV (l.take 3) 0).toNat+7>l.length then none
 else if zam (zle (l.take (3+(rdV (l.take 3) 0).toNat))) 4=(l.drop (3+(rdV (l.take 3) 0).toNat)).take 4 then some ((l.drop 3).take (rdV (l.take 3) 0).toNat) else none
def chain (l:List Int):Nat -> List (List Int) -> Nat -> Prop
 | a,[],e=>a=e
 | a,x::xs,e=>zck (l.drop a)=some x∧chain l (a+(x.length+7)) xs e
theorem zud {l:List Int}:∀ {xs:List (List Int)} {a e:Nat} {x:List Int},chain l a xs e -> zck (l.drop e)=some x -> chain l a (xs++[x]) (e+(x.length+7))
 | [],a,e,x,h,hx=>by subst h; exact ⟨hx,rfl⟩
 | y::ys,a,e,x,h,hx=>⟨h.1,zud h.2 hx⟩
theorem yfq {l x:List Int} (h:zck l=some x):x.length≤60000∧x.length+7≤l.length:=by
 unfold zck at h
 split at h
 ·cases h
 ·split at h
  ·cases h
  ·split at h
   ·simp only [Option.some.injEq] at h; subst h;simp only [List.length_take,List.length_drop]; omega
   ·cases h
theorem yhj {a k:Nat} {h:Hp} (ha:a<256) (hk:k≤16) (kk:K (.int .i64 ((a*2 ^ k:Nat):Int)) h):pv (za2 .none .shl (.int .i64 (a:Nat)) (.int .u64 (k:Nat))) K h :=
 ⟨_,by
  have e:za2 .none .shl (.int .i64 (a:Nat)) (.int .u64 (k:Nat))=zgf .shl .i64 (a:Nat) (k:Nat):=rfl;rw [e]; unfold zgf; rw [if_neg (by omega)],by
  have hp:a*2 ^ k≤255*2 ^ 16:=Nat.mul_le_mul (by omega) (Nat.pow_le_pow_right (by omega) hk)
  have:IntKind.i64.wrap (((a:Nat):Int)*2 ^ (min ((k:Nat):Int).toNat IntKind.i64.bits))=((a*2 ^ k:Nat):Int):=by
   rw [show min ((k:Nat):Int).toNat IntKind.i64.bits=k by rw [Int.toNat_natCast]; exact Nat.min_eq_left (by have:IntKind.i64.bits=64:=rfl; omega)];have e2:((a:Nat):Int)*2 ^ k=((a*2 ^ k:Nat):Int):=by simp
   rw [e2,IntKind.wrap_i64];omega
  rw [this]; exact kk⟩
theorem ym6 {a c k:Nat} {h:Hp} (ha:a*2 ^ k<4294967296) (hc:c<2 ^ k) (hk:k≤16) (kk:K (.int .i64 ((a*2 ^ k+c:Nat):Int)) h):pv (za2 .none .or (.int .i64 ((a*2 ^ k:Nat):Int)) (.int .i64 (c:Nat))) K h :=
 ⟨_,by
  have e:za2 .none .or (.int .i64 ((a*2 ^ k:Nat):Int)) (.int .i64 (c:Nat))=zfa .or .i64 ((a*2 ^ k:Nat):Int) (c:Nat):=by simp [za2]
  rw [e]; rfl,by
  have hp:2 ^ k≤2 ^ 16:=Nat.pow_le_pow_right (by omega) hk
  have h1:(BitVec.ofInt IntKind.i64.bits ((a*2 ^ k:Nat):Int)|||BitVec.ofInt IntKind.i64.bits (c:Nat)).toNat=a*2 ^ k+c:=by
   show (BitVec.ofInt 64 ((a*2 ^ k:Nat):Int)|||BitVec.ofInt 64 (c:Nat)).toNat=_
   rw [BitVec.ofInt_natCast,BitVec.ofInt_natCast,BitVec.toNat_or,BitVec.toNat_ofNat,BitVec.toNat_ofNat,Nat.mod_eq_of_lt (by omega),Nat.mod_eq_of_lt (by omega)];have := Nat.shiftLeft_add_eq_or_of_lt hc a;rw [Nat.shiftLeft_eq] at this;exact this.symm
  rw [h1,show IntKind.i64.wrap ((a*2 ^ k+c:Nat):Int)=((a*2 ^ k+c:Nat):Int) by rw [IntKind.wrap_i64]; omega];exact kk⟩
theorem zz6 {x:Nat} {h:Hp} (h1:x<256) (k:K (.int .i64 (x:Nat)) h):pv (cvV .i64 (.int .u8 (x:Nat))) K h:=⟨_,rfl,by rw [IntKind.wrap_i64,show ((x:Int)+9223372036854775808)%18446744073709551616 - 9223372036854775808=x by omega]; exact k⟩
theorem ypd {a b:Nat} {h:Hp} (k:K (.int .i64 ((min a b:Nat):Int)) h):pv (mm false (.int .i64 (a:Nat)) (.int .i64 (b:Nat))) K h:=by
 refine ⟨_,rfl,?_⟩;have:(if ((b:Nat):Int)<(a:Nat) then ((b:Nat):Int) else (a:Nat))=((min a b:Nat):Int):=by split<;>omega
 show K (.int .i64 (if ((b:Nat):Int)<(a:Nat) then ((b:Nat):Int) else (a:Nat))) h
 rw [this]; exact k
theorem yuk (x y z:Int):rdV [x,y,z] 0=(x*256+y)*256+z:=by simp [rdV]
theorem yrr {r:List Int} (h:7≤r.length):r.take 3=[r[0],r[1],r[2]]:=by
 match r,h with
 | x::y::z::t,_=>rfl
theorem yrf {mk:(Nat -> Value) -> Env} {env:Env} (he:env=mk (λi=>env.getD i undef)):env=mk (λi=>env.getD i undef):=he
theorem ypm {y cb B:Nat} {bv:Value} {l:List Int} (I:List (List Int) -> Nat -> (Nat -> Option zak) -> Nat -> Prop)
  (hb:∀ xs e M N,I xs e M N -> za5 M N -> B≤N∧M cb=some (.cells 44 [bv] 1)∧sR F M 1 bv l.length (bts l))
  (hs:∀ xs e M N M' N',I xs e M N -> za5 M N -> (∀ q,q<N -> M' q=M q) -> N≤N' -> za5 M' N' -> I xs e M' N')
  (hy:∀ xs e M N x v (K:zae),I xs e M N -> za5 M N -> own M B 5 1 v x.length (bts x) -> zbg x -> e+(x.length+7)≤l.length -> (∀ M' N',I (xs++[x]) (e+(x.length+7)) M' N' -> za5 M' N' -> N≤N' -> K (.bool true) ⟨F,M',N'⟩) -> zvd Tryz.prog y #[.int .i64 ((e+(x.length+7):Nat):Int),v] K ⟨F,M,N⟩)
  (h8:zbg l) (hl:l.length≤100000000) (h0:I [] 0 M N) (hm:za5 M N)
  (k:∀ xs e M' N',chain l 0 xs e -> zck (l.drop e)=none -> e≤l.length -> I xs e M' N' -> za5 M' N' -> K (.tuple #[]) ⟨F,M',N'⟩) :
  call Tryz.prog 244 #[.func (.yield y) #[] #[],.pointer (some ⟨cb,0,none⟩)] K E ⟨F,M,N⟩:=by
 refine zuw (fn:=Tryz.f244) (c:=zaf Tryz.f244) Tryz.func244 (by kernel_rfl) ?_;refine zd0 (a:=sel (zaf Tryz.f244) [0]) (b:=sel (zaf Tryz.f244) [1]) (by kernel_rfl) ?_;refine zcz za8 (zc0 zd2) (yoh ..) ?_;refine zq4 (id:=0) (a:=sel (zaf Tryz.f244) [1,0]) (by kernel_rfl) ?_
 refine yj1 (b:=sel (zaf Tryz.f244) [1,0,0]) (by kernel_rfl) (σ:=List (List Int)×Nat) (λs j=>zv4 (.func (.yield y) #[] #[]) (.pointer (some ⟨cb,0,none⟩)) undef (.int .i64 (s.2:Nat)) j)
  (λs h=>∃ M' N',h=⟨F,M',N'⟩∧I s.1 s.2 M' N'∧za5 M' N'∧chain l 0 s.1 s.2∧s.2≤l.length) (λs=>l.length - s.2) ([],0) (λ_=>undef) (by kernel_rfl)
  (λhw=>⟨_,za1 hw,M,N,rfl,h0,hm,rfl,Nat.zero_le _⟩) (λs j h1 hI hw=>?_)
 obtain ⟨M1,N1,rfl,hI1,hm1,hch,hle⟩:=hI;obtain ⟨hB1,hcb,hbv⟩:=hb _ _ _ _ hI1 hm1;have hlv:zab bv=some (.int .i64 (l.length:Nat)):=by obtain ⟨a,c,h,_⟩:=hbv.form; rw [h]; rfl
 have fin:∀ M' N',zck (l.drop s.2)=none -> (∀ q,q<N1 -> M' q=M1 q) -> N1≤N' -> za5 M' N' -> K (.tuple #[]) ⟨F,M',N'⟩:=λM' N' h1 h2 h3 h4=>k _ _ _ _ hch h1 hle (hs _ _ _ _ _ _ hI1 hm1 h2 h3 h4) h4;have hdl:(l.drop s.2).length=l.length - s.2:=by simp
 refine zd0 (a:=sel (zaf Tryz.f244) [1,0,0,0]) (b:=sel (zaf Tryz.f244) [1,0,0,1]) (by kernel_rfl) ?_;refine zcz za8 (zc0 (zc0 (zej zd2))) (zz9 ..) ?_;refine ldM (v:=bv) ?_ hcb;refine zaa hlv (zcr (by omega) (by omega) ?_);refine zg8 (λh7=>zax ?_) (λh7=>zaq ?_)
 rotate_left
 ·exact fin M1 N1 (by unfold zck; rw [if_pos (by omega)]) (λ_ _=>rfl) (Nat.le_refl _) hm1
 refine zq4 (id:=1) (a:=sel (zaf Tryz.f244) [1,0,0,1,0]) (by kernel_rfl) ?_;refine zd0 (a:=sel (zaf Tryz.f244) [1,0,0,1,0,0]) (b:=sel (zaf Tryz.f244) [1,0,0,1,0,1]) (by kernel_rfl) ?_;refine zcz za8 (zc0 (zej (zc0 (zej zd2)))) (zta ..) ?_;refine ldM (v:=bv) ?_ hcb;refine ybo hbv (i:=s.2) hle (λu hu hub=>?_);have hr8:zbg (l.drop s.2):=zne h8
 have huN:∀ q,u.ownBlock=some q -> q<N1∨M1 q=none:=λq _=>by
  rcases Nat.lt_or_ge q N1 with h | h
  ·exact .inl h
  ·exact .inr (hm1 q h)
 obtain ⟨r,hr⟩:∃ r,r=l.drop s.2:=⟨_,rfl⟩;rw [← hr] at hu hr8 hdl;have fin1:zck r=none -> ∀ M' N',(∀ q,q<N1 -> M' q=M1 q) -> N1≤N' -> za5 M' N' -> K (.tuple #[]) ⟨F,M',N'⟩:=λh1 M' N'=>fin M' N' (by rw [← hr]; exact h1);have h7':7≤r.length:=by omega
 have bt:∀ i (hi:i<r.length),∃ a:Nat,r[i]=(a:Int)∧a<256:=λi hi=>⟨(r[i]).toNat,by have := hr8 _ (List.getElem_mem hi); omega,by have := hr8 _ (List.getElem_mem hi); omega⟩;obtain ⟨a,ha,ha'⟩:=bt 0 (by omega);obtain ⟨b,hb1,hb'⟩:=bt 1 (by omega);obtain ⟨c,hc,hc'⟩:=bt 2 (by omega)
 have h3:r.take 3=[(a:Int),(b:Int),(c:Int)]:=by
  rw [← ha,← hb1,← hc];exact yrr h7'
 obtain ⟨n,hn⟩:∃ n:Nat,n=(a*256+b)*2 ^ 8+c:=⟨_,rfl⟩;have hrd:(rdV (r.take 3) 0).toNat=n:=by rw [h3,yuk]; omega
 refine zd0 (a:=sel (zaf Tryz.f244) [1,0,0,1,0,1,0]) (b:=sel (zaf Tryz.f244) [1,0,0,1,0,1,1]) (by kernel_rfl) ?_;refine zcz za8 (zc0 (zej (zc0 (zej zd2)))) (zqk ..) ?_ (λ_=>zme (zoq (zme (zoq yac))));obtain ⟨pb0,po0,g1,g2⟩:=zvl hu (i:=0) (by omega);refine g1 _ _ (zfo (g2 hu _) ?_);rw [ha];refine zz6 ha' (yhj (k:=16) ha' (by omega) ?_);obtain ⟨pb1,po1,g3,g4⟩:=zvl hu (i:=1) (by omega);refine g3 _ _ (zfo (g4 hu _) ?_);rw [hb1];refine zz6 hb' (yhj (k:=8) hb' (by omega) ?_);refine ym6 (a:=a) (c:=b*2 ^ 8) (k:=16) (by omega) (by omega) (by omega) ?_;rw [show a*2 ^ 16+b*2 ^ 8=(a*256+b)*2 ^ 8 by omega];obtain ⟨pb2,po2,g5,g6⟩:=zvl hu (i:=2) (by omega);refine g5 _ _ (zfo (g6 hu _) ?_);rw [hc];refine zz6 hc' (ym6 (a:=a*256+b) (c:=c) (k:=8) (by omega) (by omega) (by omega) ?_);rw [← hn];refine zd0 (a:=sel (zaf Tryz.f244) [1,0,0,1,0,1,1,0]) (b:=sel (zaf Tryz.f244) [1,0,0,1,0,1,1,1]) (by kernel_rfl) ?_;refine zcz za8 (zc0 (zej (zc0 (zej zd2)))) (zod ..) ?_;have hlu:zab u=some (.int .i64 (r.length:Nat)):=by obtain ⟨a,c,h,_⟩:=hu.form; rw [h]; rfl
 refine zaa hlu (zcr (by omega) (by omega) (zcr (by omega) (by omega) ?_));rw [show (r.length:Int) - 3 - 4=((r.length - 7:Nat):Int) by omega];refine ypd (a:=60000) ?_;refine zbw (λhg=>zax ?_) (λhg=>zaq ?_)
 ·exact fin1 (by unfold zck; rw [if_neg (by omega),hrd,if_pos (by omega)]) M1 N1 (λ_ _=>rfl) (Nat.le_refl _) hm1
 have hn1:n≤60000∧n+7≤r.length:=by omega
 refine zd0 (a:=sel (zaf Tryz.f244) [1,0,0,1,0,1,1,1,0]) (b:=sel (zaf Tryz.f244) [1,0,0,1,0,1,1,1,1]) (by kernel_rfl) ?_;refine zcz za8 (zc0 (zej (zc0 (zej zd2)))) (zmi ..) ?_;refine zji (a:=3) (by omega) ?_;refine zd0 (a:=sel (zaf Tryz.f244) [1,0,0,1,0,1,1,1,1,0]) (b:=sel (zaf Tryz.f244) [1,0,0,1,0,1,1,1,1,1]) (by kernel_rfl) ?_;refine zcz za8 (zc0 (zej (zc0 (zej zd2)))) (zlv ..) ?_ (λ_=>zme (zoq (zme (zoq yac))));refine yq8 hu (j:=3+n) (by omega) (λw hw1 _=>?_);refine zji (b:=4) (by omega) ?_;refine yhq hu (i:=3+n) (j:=3+n+4) (by omega) (by omega) (λt ht _=>?_);rw [show 3+n+4 - (3+n)=4 by omega] at ht;obtain ⟨wa,wc,rfl,_⟩:=hw1.form;refine zcx (cs:=[.slice wa (r.take (3+n)).length wc]) (by kernel_rfl) (λb1 hb1=>?_)
 have hts:zlj F (upd M1 b1 (some (.cells 44 [.slice wa (r.take (3+n)).length wc] 1))) (.slice (some ⟨b1,0,none⟩) 1 1) [r.take (3+n)] :=
  ⟨[.slice wa (r.take (3+n)).length wc],⟨rfl,.inr ⟨b1,0,1,_,rfl,Nat.le_refl _,.inr ⟨_,_,za0 _ _ _⟩,rfl⟩⟩,(zfy.nil (λ(u:Value) (t:List Int)=>sR F (upd M1 b1 (some (.cells 44 [.slice wa (r.take (3+n)).length wc] 1))) 1 u t.length (bts t))).snoc (hw1.new hm1 hb1)⟩
 have hm2:za5 (upd M1 b1 (some (.cells 44 [.slice wa (r.take (3+n)).length wc] 1))) (b1+1):=hm1.new hb1 _;have hM2:∀ q,q<N1 -> upd M1 b1 (some (.cells 44 [.slice wa (r.take (3+n)).length wc] 1)) q=M1 q:=λq hq=>za3 _ _ (by omega);simp only [List.length_cons,List.length_nil,Nat.zero_add];generalize upd M1 b1 _=M2 at *;refine ym2 hts (by simp only [List.mem_cons,List.not_mem_nil,or_false]; rintro _ rfl; exact znf hr8) (by simp only [List.mem_cons,List.not_mem_nil,or_false]; rintro _ rfl; simp only [List.length_take]; omega) (by simp) (λN2 hN2 hw2=>?_);rw [show [r.take (3+n)].flatten=r.take (3+n) by simp];refine zx9 (size:=4) (by omega) (λz M3 N3 hz hM3 hN3 hm3 hw3=>?_);have hM3':∀ q,q<N1 -> M3 q=M1 q:=λq hq=>(hM3 q (by omega)).trans (hM2 q hq);have ht3:sR F M3 1 t ((r.drop (3+n)).take 4).length (bts ((r.drop (3+n)).take 4)):=zfi hm1 ht hM3';have hz':=hz.rd (F:=F);rw [← za9 (zle (r.take (3+n))) 4] at hz';refine ye7 hz' ht3 (zda _ _) (znf (zne hr8)) (λhw4=>?_)
 have hf1:zck r=if zam (zle (r.take (3+n))) 4=(r.drop (3+n)).take 4 then some ((r.drop 3).take n) else none:=by
  unfold zck; rw [if_neg (by omega),hrd,if_neg (by omega)]
 by_cases he:zam (zle (r.take (3+n))) 4=(r.drop (3+n)).take 4
 rotate_left
 ·rw [decide_eq_false he];refine zaa rfl (zax ?_);exact fin1 (by rw [hf1,if_neg he]) M3 N3 hM3' (by omega) hm3
 rw [decide_eq_true he];rw [if_pos he] at hf1;refine zaa rfl (zaq ?_);refine zd0 (a:=sel (zaf Tryz.f244) [1,0,0,1,0,1,1,1,1,1,0]) (b:=sel (zaf Tryz.f244) [1,0,0,1,0,1,1,1,1,1,1]) (by kernel_rfl) ?_;refine zcz za8 (zc0 (zej (zc0 (zej zd2)))) (zkr ..) ?_;refine zji (a:=3+n) (b:=4) (by omega) (zji (a:=s.2) (b:=3+n+4) (by omega) ?_);refine zd0 (a:=sel (zaf Tryz.f244) [1,0,0,1,0,1,1,1,1,1,1,0]) (b:=sel (zaf Tryz.f244) [1,0,0,1,0,1,1,1,1,1,1,1]) (by kernel_rfl) ?_;refine ykx (id:=8) (by kernel_rfl) (zc0 (zej (zc0 (zej zd2)))) (zju ..) ?_;have hu3:sR F M3 1 u r.length (bts r):=zfi hm1 hu hM3';refine yhq hu3 (i:=3) (j:=3+n) (by omega) (by omega) (λx hx _=>?_);rw [show 3+n - 3=n by omega] at hx;have hxl:((r.drop 3).take n).length=n:=by simp only [List.length_take,List.length_drop]; omega
 refine yb9 hx (by omega) (λv M4 N4 hv4 hM4 hN4 hm4 hw5=>?_);have hM4':∀ q,q<N1 -> M4 q=M1 q:=λq hq=>(hM4 q (by omega)).trans (hM3' q hq);rw [show s.2+(3+n+4)=s.2+(((r.drop 3).take n).length+7) by omega];refine hy s.1 s.2 M4 N4 ((r.drop 3).take n) v _ (hs _ _ _ _ _ _ hI1 hm1 hM4' (by omega) hm4) hm4 (hv4.keep (λ_ _=>rfl) (by omega)) (znf (zne hr8)) (by omega) (λM5 N5 hI5 hm5 hN5=>?_);refine zaa rfl ?_;refine zcz za8 (zej (zc0 (zej zd2))) (zk2 ..) ?_;refine zaq ?_;refine ⟨rfl,(s.1++[(r.drop 3).take n],s.2+(((r.drop 3).take n).length+7)),_,yrf (mk:=λj=>zv4 (.func (.yield y) #[] #[]) (.pointer (some ⟨cb,0,none⟩)) undef _ j) (by kernel_rfl),?_,?_⟩
 ·simp only; omega
 ·exact λhw6=>⟨_,za1 hw6,M5,N5,rfl,hI5,hm5,zud hch (by rw [← hr]; exact hf1),by simp only; omega⟩
theorem zhi {P:Program} {c:Code} {Q:QD} {env:Env} {h:Hp} {X:Hp -> Prop} (ht:den P c Q env=X) (hd:X h):den P c Q env h:=ht ▸ hd
theorem ymm {a:Option Addr} {n c:Nat} (k:∀ b,N≤b -> (Hp.mk F (upd M b (some (.cells 44 [.slice a n c] 1))) (b+1)).wf -> K (.func (.func 244) #[] #[.pointer (some ⟨b,0,none⟩)]) ⟨F,upd M b (some (.cells 44 [.slice a n c] 1)),b+1⟩) :
  cF 183 #[.slice a n c] K E ⟨F,M,N⟩:=by
 refine za4 za8 Tryz.func183 (by kernel_rfl) (ytw _ E _) (λhw=>?_);refine zap (cs:=[.slice a n c]) (λb hb=>?_);exact λhc=>⟨_,za1 hc,k b hb⟩
structure scI (F:Nat -> Option (List Value)) (M0:Nat -> Option zak) (N0 ob eb cb D:Nat) (v:Value) (rec:Loop) (xs:List (List Int)) (e:Nat) (M:Nat -> Option zak) (N:Nat) (ov:Value) (us:List Value):Prop where
 n:D+2≤N
 k:xs.length≤e
 d:M D=some (.obj (.deferred (some [])))
 l:M (D+1)=some (.obj (.loop rec))
 o:M ob=some (.cells 233 [ov] 1)
 e:M eb=some (.cells 3 [.int .i64 (e:Nat)] 1)
 c:M cb=some (.cells 44 [v] 1)
 m:∀ q,q<N0 -> M q=M0 q
 w:own M (D+2) 44 1 ov xs.length us
 a:zfy (λu t=>own M (D+2) 5 1 u t.length (bts t)) us xs
theorem yps {B1 B2:Nat} {e1 e2:TypeId} {s1 s2 n1 n2:Nat} {u v:Value} {c1 c2:List Value} (h1:own M B1 e1 s1 u n1 c1) (h2:own M B2 e2 s2 v n2 c2) (hne:e1≠e2) (q:Nat) (hq:u.ownBlock=some q):v.ownBlock≠some q:=by
 intro hv
 rcases h1.2 with ⟨rfl,_⟩ | ⟨b,c,r,rfl,_,_,_,g1⟩
 ·simp [Value.ownBlock] at hq
 ·rcases h2.2 with ⟨rfl,_⟩ | ⟨b',c',r',rfl,_,_,_,g2⟩
  ·simp [Value.ownBlock] at hv
  ·simp only [Value.ownBlock,Option.some.injEq] at hq hv;subst hq; subst hv;rw [g1] at g2;simp only [Option.some.injEq,zak.cells.injEq] at g2;exact hne g2.1
def yqb (F:Nat -> Option (List Value)) (M:Nat -> Option zak) (B:Nat) (v:Value) (ts:List (List Int)):Prop:=∃ us,sR F M 1 v ts.length us∧zfy (λu t=>own M B 5 1 u t.length (bts t)) us ts
theorem yrv {F0:Nat -> Option (List Value)} {M0:Nat -> Option zak} {N0 B:Nat} {v:Value} {ts:List (List Int)} {K:Value -> zae} (hm0:za5 M0 N0) (hv:yqb F0 M0 B v ts) (hF:za7 F0 F) (hM:∀ q,q<N0 -> M q=M0 q) {i:Nat} (hi:i<ts.length) (k:∀ p u,own M0 B 5 1 u ts[i].length (bts ts[i]) -> K p u ⟨F,M,N⟩):pv (iaV none 1 v (.int .i64 (i:Nat))) (λp=>ld false 1 p (K p)) ⟨F,M,N⟩:=by
 obtain ⟨us,h1,h2⟩:=hv;obtain ⟨u,hu,hR⟩:=h2.get (List.getElem?_eq_getElem hi)
 rcases (zfi hm0 h1 hM).2 with ⟨a,c,e1,e2⟩ | ⟨b,o,c,cs,rfl,h3,h4,h5⟩
 ·omega
 refine zct hi (zfo (zaz (cs:=cs) ?_ ?_) (k _ u hR))
 ·rcases h4 with h4 | ⟨e,tot,h4⟩
  ·exact zh9 (hF _ _ h4)
  ·exact zb4 h4
 ·rw [← h5,List.getElem?_take,List.getElem?_drop] at hu
  split at hu
  ·rw [Nat.mul_one]; exact hu
  ·cases hu
theorem yp6 {v:Value} {l:List Int} (hv:sR F M 1 v l.length (bts l)) (h8:zbg l) (hl:l.length≤100000000)
  (k:∀ xs e w M' N',chain l 0 xs e -> zck (l.drop e)=none -> e≤l.length -> yqb F M' N w xs -> (∀ q,q<N -> M' q=M q) -> N≤N' -> za5 M' N' -> (Hp.mk F M' N').wf -> K (.tuple #[w,.int .i64 (e:Nat)]) ⟨F,M',N'⟩) :
  cF 130 #[v] K E ⟨F,M,N⟩:=by
 refine zsm Tryz.func130 (by kernel_rfl) (λhw=>?_);have hm:za5 M N:=hw.m;obtain ⟨va,vc,rfl,_⟩:=hv.form;refine zd0 (a:=sel (zaf Tryz.f130) [0]) (b:=sel (zaf Tryz.f130) [1]) (by kernel_rfl) ?_;refine zcz za8 (zc0 zd2) (yqc ..) ?_;refine zd0 (a:=sel (zaf Tryz.f130) [1,0]) (b:=sel (zaf Tryz.f130) [1,1]) (by kernel_rfl) ?_;refine zcz za8 (zc0 zd2) (ykn ..) ?_;refine zap (cs:=[.slice none 0 0]) (λob hob=>?_);refine zd0 (a:=sel (zaf Tryz.f130) [1,1,0]) (b:=sel (zaf Tryz.f130) [1,1,1]) (by kernel_rfl) ?_;refine zcz za8 (zc0 zd2) (yec ..) ?_;refine zap (cs:=[.int .i64 0]) (λeb heb=>?_);refine stM (cs':=[.int .i64 0]) ?_ (za0 _ _ _) rfl;rw [zan];refine zd0 (a:=sel (zaf Tryz.f130) [1,1,1,0]) (b:=sel (zaf Tryz.f130) [1,1,1,1]) (by kernel_rfl) ?_;refine zd0 (a:=sel (zaf Tryz.f130) [1,1,1,0,0]) (b:=sel (zaf Tryz.f130) [1,1,1,0,1]) (by kernel_rfl) ?_;refine zcz za8 (zc0 (zc0 zd2)) (zxi ..) ?_;refine ymm (λcb hcb hw1=>?_);refine zq4 (id:=0) (a:=sel (zaf Tryz.f130) [1,1,1,0,1,0]) (by kernel_rfl) ?_;refine ygf (by kernel_rfl) (gf:=244) (first:=#[]) (lb:=#[.pointer (some ⟨cb,0,none⟩)]) rfl (by kernel_rfl) (by kernel_rfl) (λfn D hD rec hrec=>?_);have hDc:cb<D:=hD
 have hM1:∀ q,q<N -> upd (upd (upd (upd (upd M ob (some (.cells 233 [.slice none 0 0] 1))) eb (some (.cells 3 [.int .i64 0] 1))) cb (some (.cells 44 [.slice va l.length vc] 1))) D (some (.obj (.deferred (some []))))) (D+1) (some (.obj (.loop rec))) q=M q:=λq hq=>
  (za3 _ _ (by omega)).trans ((za3 _ _ (by omega)).trans ((za3 _ _ (by omega)).trans ((za3 _ _ (by omega)).trans (za3 _ _ (by omega)))))
 have hm1:za5 (upd (upd (upd (upd (upd M ob (some (.cells 233 [.slice none 0 0] 1))) eb (some (.cells 3 [.int .i64 0] 1))) cb (some (.cells 44 [.slice va l.length vc] 1))) D (some (.obj (.deferred (some []))))) (D+1) (some (.obj (.loop rec)))) (D+2) :=
  ((((hm.new hob _).new heb _).new hcb _).new hD _).new (Nat.le_refl _) _
 refine ypm (y:=D+1) (cb:=cb) (B:=D+2) (bv:=.slice va l.length vc) (l:=l) (λxs e M' N'=>∃ ov us,scI F M N ob eb cb D (.slice va l.length vc) rec xs e M' N' ov us) ?_ ?_ ?_ h8 hl ?_ hm1 ?_
 ·rintro xs e M' N' ⟨ov,us,H⟩ _;exact ⟨H.n,H.c,zfi hm hv H.m⟩
 ·rintro xs e M' N' M'' N'' ⟨ov,us,H⟩ hm' hM hN hm'';have hn:=H.n
  exact ⟨ov,us,by omega,H.k,(hM _ (by omega)).trans H.d,(hM _ (by omega)).trans H.l,(hM _ (by omega)).trans H.o,(hM _ (by omega)).trans H.e,(hM _ (by omega)).trans H.c,λq hq=>(hM q (by omega)).trans (H.m q hq),H.w.keep (λq hq=>hM q (H.w.lt hm' q hq)),
   H.a.mono λu t h=>h.keep (λq hq=>hM q (h.lt hm' q hq))⟩
 ·rintro xs e M1 N1 x xv K1 ⟨ov,us,H⟩ hm1 hxo hx8 hxl k1;have hn:=H.n;have hlx:rec.state=.ready:=by rw [hrec]
  have hp:rec={ rec with state:=.ready,pending:=none }:=by rw [hrec]
  refine ynx (rec:=rec) H.l hlx (by rw [hrec]; kernel_rfl) (by rw [hrec]; kernel_rfl) (by rw [hrec]; kernel_rfl) ?_;have e1:rec.assign=sel (asg (sel (zaf Tryz.f130) [1,1,1,0,1,0])) []:=by rw [hrec]; rfl
  have e2:rec.body=sel (bod (sel (zaf Tryz.f130) [1,1,1,0,1,0])) []:=by rw [hrec]; rfl
  have e3:∀ a b:Value,yqk rec.tmps rec.params #[a,b] = #[.slice va l.length vc,undef,.slice none 0 0,.int .i64 0,.pointer (some ⟨ob,0,none⟩),.pointer (some ⟨eb,0,none⟩),undef,undef,.slice va l.length vc,.func (.func 244) #[] #[.pointer (some ⟨cb,0,none⟩)],a,b,undef,undef,undef,undef,undef,undef,undef]:=λa b=>by rw [hrec]; kernel_rfl
  refine zhi ((congrArg (λc=>den Tryz.prog c _ _) e1).trans ((congrArg (λv=>den Tryz.prog _ _ v) (e3 _ _)).trans (zq8 ..))) ⟨H.l,?_⟩;refine zhi ((congrArg (λc=>den Tryz.prog c _ _) e2).trans (zq7 ..)) ?_;refine (show (_:Hp -> Prop) ⟨F,upd M1 (D+1) (some (.obj (.loop { rec with state:=.busy }))),N1⟩ from ?_);have h2:∀ q,q≠D+1 -> upd M1 (D+1) (some (.obj (.loop { rec with state:=.busy }))) q=M1 q:=λq hq=>za3 _ _ hq;have h2l:=za0 M1 (D+1) (some (.obj (.loop { rec with state:=.busy })));have hm2:za5 (upd M1 (D+1) (some (.obj (.loop { rec with state:=.busy })))) N1:=hm1.set (by omega) _;generalize upd M1 (D+1) (some (.obj (.loop { rec with state:=.busy })))=M2 at *;have hwge:=H.w.ge;obtain ⟨oa,oc,rfl,_⟩:=H.w.form;obtain ⟨xa,xc,rfl,_⟩:=hxo.form;refine ldM (v:=.slice oa xs.length oc) ?_ ((h2 ob (by omega)).trans H.o);refine zcx (cs:=[.slice xa x.length xc]) (by kernel_rfl) (λsb hsb=>?_);have h3:∀ q,q<N1 -> q≠D+1 -> upd M2 sb (some (.cells 44 [.slice xa x.length xc] 1)) q=M1 q:=λq hq hq2=>(za3 _ _ (by omega)).trans (h2 q hq2);have h3l:upd M2 sb (some (.cells 44 [.slice xa x.length xc] 1)) (D+1)=_:=(za3 _ _ (by omega)).trans h2l;have hm3:=hm2.new hsb (some (.cells 44 [.slice xa x.length xc] 1));have hsr:sR F (upd M2 sb (some (.cells 44 [.slice xa x.length xc] 1))) 1 (.slice (some ⟨sb,0,none⟩) 1 1) 1 [.slice xa x.length xc]:=⟨rfl,.inr ⟨sb,0,1,_,rfl,Nat.le_refl _,.inr ⟨_,_,za0 _ _ _⟩,rfl⟩⟩;simp only [List.length_cons,List.length_nil,Nat.zero_add];generalize upd M2 sb _=M3 at *;have hlN:=H.w.lt hm1;have hw3:own M3 (D+2) 44 1 (.slice oa xs.length oc) xs.length us:=H.w.keep λq hq=>h3 q (hlN q hq) (by have := (hwge q hq).1; omega);have hxs:=H.k;refine hw3.app hm3 (by omega) hsr (List.all_eq_true.1 rfl) (by omega) (by unfold maxLen; omega) (λov' M4 N4 h4 hf4 hN4 hm4=>?_);have f4:∀ q,q<D+2 -> M4 q=M3 q:=λq hq=>(hf4 q (λe=>by have := (hwge q e).1; omega) (by omega)).1;have hg4:=h4.ge;obtain ⟨oa',oc',rfl,_⟩:=h4.form;refine stM (cs':=[.slice oa' (xs.length+1) oc']) ?_ ((f4 ob (by omega)).trans ((h3 ob (by omega) (by omega)).trans H.o)) rfl;refine stM (cs':=[.int .i64 ((e+(x.length+7):Nat):Int)]) ?_ ((za3 _ _ (by omega)).trans ((f4 eb (by omega)).trans ((h3 eb (by omega) (by omega)).trans H.e))) rfl;obtain ⟨M5,hM5⟩:∃ M5,M5=upd (upd M4 ob (some (.cells 233 [.slice oa' (xs.length+1) oc'] 1))) eb (some (.cells 3 [.int .i64 ((e+(x.length+7):Nat):Int)] 1)):=⟨_,rfl⟩;rw [← hM5];have h5:∀ q,q≠ob -> q≠eb -> M5 q=M4 q:=λq q1 q2=>by rw [hM5]; exact (za3 _ _ q2).trans (za3 _ _ q1)
  have h5o:M5 ob=some (.cells 233 [.slice oa' (xs.length+1) oc'] 1):=by rw [hM5]; exact (za3 _ _ (by omega)).trans (za0 _ _ _)
  have h5e:M5 eb=some (.cells 3 [.int .i64 ((e+(x.length+7):Nat):Int)] 1):=by rw [hM5]; exact za0 _ _ _
  have hm5:za5 M5 N4:=by rw [hM5]; exact (hm4.set (by omega) _).set (by omega) _
  clear hM5;refine ⟨(h5 _ (by omega) (by omega)).trans ((f4 _ (by omega)).trans h3l),?_⟩;have hp2:({ { rec with state:=.busy } with state:=.ready,pending:=none }:Loop)=rec:=by rw [hrec]
  rw [← hp];have h6:∀ q,q≠D+1 -> upd M5 (D+1) (some (.obj (.loop rec))) q=M5 q:=λq hq=>za3 _ _ hq;have h6l:=za0 M5 (D+1) (some (.obj (.loop rec)));have hm6:za5 (upd M5 (D+1) (some (.obj (.loop rec)))) N4:=hm5.set (by omega) _;refine k1 (upd M5 (D+1) (some (.obj (.loop rec)))) N4 ⟨.slice oa' (xs.length+1) oc',us++[.slice xa x.length xc],?_⟩ hm6 (by omega);generalize upd M5 (D+1) (some (.obj (.loop rec)))=M6 at *;have low:∀ q,q<D+1 -> q≠ob -> q≠eb -> M6 q=M1 q:=λq q1 q2 q3=>(h6 q (by omega)).trans ((h5 q q2 q3).trans ((f4 q (by omega)).trans (h3 q (by omega) (by omega))))
  have hel:∀ u t,own M1 (D+2) 5 1 u t.length (bts t) -> own M6 (D+2) 5 1 u t.length (bts t):=λu t h=>h.keep λq hq=>by
   have q1:=(h.ge q hq).1;have q2:=h.lt hm1 q hq;have q3:(Value.slice oa xs.length oc).ownBlock≠some q:=yps h H.w (by decide) q hq;exact (h6 q (by omega)).trans ((h5 q (by omega) (by omega)).trans (((hf4 q q3 (by omega)).1).trans (h3 q q2 (by omega))))
  refine ⟨by omega,by rw [List.length_append]; simp only [List.length_cons,List.length_nil]; omega,(low D (by omega) (by omega) (by omega)).trans H.d,h6l,(h6 _ (by omega)).trans h5o,(h6 _ (by omega)).trans h5e,(low cb (by omega) (by omega) (by omega)).trans H.c,λq hq=>(low q (by omega) (by omega) (by omega)).trans (H.m q hq),?_,?_⟩
  ·rw [List.length_append]
   exact h4.keep λq hq=>by
    have q1:=(hg4 q hq).1;exact (h6 q (by omega)).trans (h5 q (by omega) (by omega))
  ·exact (H.a.mono hel).snoc (hel _ _ hxo)
 ·exact ⟨.slice none 0 0,[],Nat.le_refl _,Nat.zero_le _,(za3 _ _ (by omega)).trans (za0 _ _ _),za0 _ _ _,(za3 _ _ (by omega)).trans ((za3 _ _ (by omega)).trans ((za3 _ _ (by omega)).trans ((za3 _ _ (by omega)).trans (za0 _ _ _)))),
   (za3 _ _ (by omega)).trans ((za3 _ _ (by omega)).trans ((za3 _ _ (by omega)).trans (za0 _ _ _))),(za3 _ _ (by omega)).trans ((za3 _ _ (by omega)).trans (za0 _ _ _)),hM1,own.nil,zfy.nil _⟩
 ·rintro xs e M' N' hch hfr hle ⟨ov,us,H⟩ hm';have hn:=H.n;refine ⟨rec,H.l,by rw [hrec]; simp,by rw [hrec],?_⟩;refine (show (_:Hp -> Prop) ⟨F,upd M' (D+1) (some (.obj (.loop { rec with state:=.exhausted }))),N'⟩ from ?_);have h2:∀ q,q≠D+1 -> upd M' (D+1) (some (.obj (.loop { rec with state:=.exhausted }))) q=M' q:=λq hq=>za3 _ _ hq;have hm2:za5 (upd M' (D+1) (some (.obj (.loop { rec with state:=.exhausted })))) N':=hm'.set (by omega) _;generalize upd M' (D+1) (some (.obj (.loop { rec with state:=.exhausted })))=M2 at *;refine zcz za8 zd2 (ybj ..) ?_ (λ_=>yji);refine ldM (v:=ov) ?_ ((h2 ob (by omega)).trans H.o);refine ldM (v:=.int .i64 (e:Nat)) ?_ ((h2 eb (by omega)).trans H.e);refine ⟨by simp,(h2 D (by omega)).trans H.d,?_⟩;refine (show (_:Hp -> Prop) ⟨F,upd M2 D (some (.obj (.deferred none))),N'⟩ from ?_);have h3:∀ q,q≠D -> upd M2 D (some (.obj (.deferred none))) q=M2 q:=λq hq=>za3 _ _ hq;have hm3:za5 (upd M2 D (some (.obj (.deferred none)))) N':=hm2.set (by omega) _;generalize upd M2 D (some (.obj (.deferred none)))=M3 at *;refine λhc=>⟨_,za1 hc,λhw'=>k xs e ov M3 N' hch hfr hle ?_ (λq hq=>(h3 q (by omega)).trans ((h2 q (by omega)).trans (H.m q hq))) (by omega) hm3 hw'⟩
  have hk:∀ {ty n u cs},own M' (D+2) ty 1 u n cs -> own M3 (D+2) ty 1 u n cs:=λh=>h.keep λq hq=>by
   have := (h.ge q hq).1;exact (h3 q (by omega)).trans (h2 q (by omega))
  exact ⟨us,(hk H.w).rd,H.a.mono λu t h=>(hk h).keep (λ_ _=>rfl) (by omega)⟩
theorem zrz {x:List Int} (r:List Int) (hx:x.length≤60000):zck (zbd x++r)=some x:=by
 have h3:(zbd x++r).take 3=zam (x.length:Nat) 3:=by
  unfold zbd; rw [List.append_assoc]; exact List.take_left' (za9 _ _)
 have hn:(rdV ((zbd x++r).take 3) 0).toNat=x.length:=by
  rw [h3,zwk x.length (by omega),Nat.mod_eq_of_lt (by omega)]; omega
 have hpl:(zam (x.length:Nat) 3++x).length=3+x.length:=by rw [List.length_append,za9]
 have e:zbd x++r=(zam (x.length:Nat) 3++x)++(zam (zle (zam (x.length:Nat) 3++x)) 4++r):=by unfold zbd; simp [List.append_assoc]
 unfold zck;rw [if_neg (by rw [List.length_append,zdp]; omega),hn,if_neg (by rw [List.length_append,zdp]; omega)];rw [e,List.take_left' hpl,List.drop_left' hpl,List.take_left' (za9 _ _),if_pos rfl];rw [List.append_assoc,List.drop_left' (za9 _ _),List.take_left' rfl]
theorem zxo:∀ (ts:List (List Int)) (p:List Int) (xs:List (List Int)) (e:Nat),(∀ t∈ts,t.length≤60000) -> chain (p++ts.flatMap zbd) p.length xs e -> zck ((p++ts.flatMap zbd).drop e)=none -> xs=ts∧e=(p++ts.flatMap zbd).length
 | [],p,[],e,_,h,_=>by subst h; simp
 | [],p,x::xs,e,_,h,_=>by
  have := h.1
  simp [zck] at this
 | t::ts,p,[],e,ht,h,hn=>by
  subst h;rw [List.drop_left' rfl,List.flatMap_cons,zrz _ (ht t (List.mem_cons_self ..))] at hn;cases hn
 | t::ts,p,x::xs,e,ht,h,hn=>by
  have h1:=h.1;rw [List.drop_left' rfl,List.flatMap_cons,zrz _ (ht t (List.mem_cons_self ..))] at h1;simp only [Option.some.injEq] at h1;subst h1;have e1:p++(t::ts).flatMap zbd=(p++zbd t)++ts.flatMap zbd:=by rw [List.flatMap_cons,List.append_assoc]
  have h2:=h.2;rw [e1] at h2 hn ⊢;rw [show p.length+(t.length+7)=(p++zbd t).length by rw [List.length_append,zdp]] at h2;obtain ⟨g1,g2⟩:=zxo ts (p++zbd t) xs e (λu hu=>ht u (List.mem_cons_of_mem _ hu)) h2 hn;exact ⟨by rw [g1],g2⟩
theorem yaq {ts:List (List Int)} {xs:List (List Int)} {e:Nat} (ht:∀ t∈ts,t.length≤60000) (h:chain (ts.flatMap zbd) 0 xs e) (hn:zck ((ts.flatMap zbd).drop e)=none):xs=ts∧e=(ts.flatMap zbd).length :=
 zxo ts [] xs e ht h hn
theorem ydn {m:zaj} (h:0≤m.kind∧m.kind<256):zbg (zbe m):=λy hy=>by
 rcases List.mem_cons.1 hy with rfl | hy
 ·exact h
 ·exact zl9 _ y hy
theorem yak {m:zaj} (h:zbp m=true) (t:m.typ) (hl:(zah (zav m)).length≤60000):zml (zbe m)=some m:=by
 have hs:zbn (zav m)=true:=by
  unfold zbp at h; simp only [Bool.and_eq_true] at h; exact h.2.2.2
 have hw:zg4 m.kind (zav m)=m:=rfl;unfold zml zbe;simp only [yau hs (znz t)];rw [hw,if_pos ⟨h,hl,rfl⟩]
theorem ydo {r:zaj} (h0:0≤r.kind) (h1:r.kind<256):∃ q,rd 1 (zah r)=some (r.kind,q):=by
 unfold zah;exact ⟨_,zhr (by omega) h0 (by omega) _⟩
theorem zs0 (x:Int):0≤zbv x∧zbv x<256:=by unfold zbv; repeat' split; all_goals omega
theorem ybr (m:zaj):∀ x r,rd 1 ((zbe m).drop 1)=some (x,r) -> x≠6:=λx r h=>by
 have:(zbe m).drop 1=zah (zav m):=rfl;rw [this] at h;obtain ⟨q,hq⟩:=ydo (r:=zav m) (zs0 m.kind).1 (zs0 m.kind).2;rw [hq] at h;simp only [Option.some.injEq,Prod.mk.injEq] at h;rw [← h.1]; exact zj6 _
abbrev zc2 (M:Nat -> Option zak) (B p:Nat) (v:Value) (bs:List Int) (lasts room left:Int):Prop:=zbc M B p 118 [.int .i64 lasts,.int .i64 room,.int .i64 left] 6 v bs
theorem ybq {room:Int} (h0:0≤room) (h1:room≤1048576) (k:∀ p M',N≤p -> zc2 M' (p+1) p (.slice none 0 0) [] 0 room (-1) -> (∀ q,q<N -> M' q=M q) -> za5 M' (p+1) -> (Hp.mk F M' (p+1)).wf -> K (.pointer (some ⟨p,0,none⟩)) ⟨F,M',p+1⟩) :
  cF 11 #[.int .i64 room] K E ⟨F,M,N⟩:=by
 refine za4 za8 Tryz.func11 (by kernel_rfl) (t11 _ E _) (λhw=>?_);have hm:za5 M N:=hw.m;refine zke (by omega) ?_;try simp only [sS]
 refine zr2 (by omega) ?_;try simp only [sS]
 refine zaa (v:=.agg #[.slice none 0 0,.int .i64 0,.int .i8 0,.int .i64 0,.int .i64 room,.int .i64 (-1)]) (by kernel_rfl) ?_;refine zap (cs:=[.slice none 0 0,.int .i64 0,.int .i8 0,.int .i64 0,.int .i64 room,.int .i64 (-1)]) (λp hp=>?_);exact λhc=>⟨_,za1 hc,λhw'=>k p _ hp ⟨⟨0,za0 _ _ _⟩,own.nil,by simp [Value.ownBlock],by simp⟩ (λq hq=>za3 _ _ (by omega)) (hm.new hp _) hw'⟩
section
variable {B p:Nat} {v:Value} {bs:List Int} {lasts room left:Int}
theorem yct {fv:Value} (P:zc2 M B p v bs lasts room (-1)) (k:zbs Tryz.prog fv #[] K E ⟨F,M,N⟩) :
  cF 132 #[.pointer (some ⟨p,0,none⟩),fv] K E ⟨F,M,N⟩:=by
 refine za4 za8 Tryz.func132 (by kernel_rfl) (yuy _ E _ _) (λhw=>?_);obtain ⟨lr,hp⟩:=P.pp;try simp only [sS]
 refine ldM (v:=.int .i64 (-1)) ?_ hp;refine zbj (by omega) ?_;try simp only [sS]
 refine ldM (v:=.int .i64 (-1)) ?_ hp;refine zr2 (by omega) ?_;try simp only [sS]
 rw [yjr];exact yle k (λv h' hw' hk=>λhc=>⟨_,za1 hc,λ_=>hk⟩) (λc h' he=>he)
theorem zbc.frame {e:TypeId} {post:List Value} {tot:Nat} (P:zbc M B p e post tot v bs) (hm:za5 M N) (hM:∀ q,q<N -> M' q=M q):zbc M' B p e post tot v bs:=by
 obtain ⟨lr,hp⟩:=P.pp;exact ⟨⟨lr,(hM p (hm.lt hp)).trans hp⟩,P.ow.keep (λq hq=>hM q (P.ow.lt hm q hq)) (Nat.le_refl _),P.ne,P.bl⟩
theorem yhk {x:Value} {ys:List Int} (P:zc2 M B p v bs lasts room (-1)) (hB:B≤N) (hr0:0≤room) (hr:room≤2097152) (hx:sR F M 1 x ys.length (bts ys)) (hxo:∀ q,x.ownBlock=some q -> v.ownBlock≠some q∧q≠p∧q<N) (hy:0<ys.length) (hyl:ys.length≤2097152)
  (k0:¬ (bs.length:Int)+(ys.length:Nat)≤room -> ∀ M' N',zc2 M' B p v bs lasts room (-1) -> (∀ q,q<N -> M' q=M q) -> N≤N' -> za5 M' N' -> (Hp.mk F M' N').wf -> K (.int .u16 100) ⟨F,M',N'⟩)
  (k1:(bs.length:Int)+(ys.length:Nat)≤room -> ∀ v' M' N',zc2 M' B p v' (bs++ys) lasts room (-1) -> bfr M M' N p v v' -> N≤N' -> za5 M' N' -> (Hp.mk F M' N').wf -> K (.int .u16 0) ⟨F,M',N'⟩) :
  cF 146 #[.pointer (some ⟨p,0,none⟩),x] K E ⟨F,M,N⟩:=by
 refine za4 za8 Tryz.func146 (by kernel_rfl) (ys8 _ E _ _) (λhw=>?_);have hm:za5 M N:=hw.m;obtain ⟨xa,xc,rfl,_⟩:=hx.form;refine zap (cs:=[.pointer (some ⟨p,0,none⟩)]) (λb1 hb1=>?_);refine zap (cs:=[.slice xa ys.length xc]) (λb2 hb2=>?_);have h1:upd (upd M b1 (some (.cells 29 [.pointer (some ⟨p,0,none⟩)] 1))) b2 (some (.cells 44 [.slice xa ys.length xc] 1)) b1=some (.cells 29 [.pointer (some ⟨p,0,none⟩)] 1):=(za3 _ _ (by omega)).trans (za0 _ _ _);have h2:upd (upd M b1 (some (.cells 29 [.pointer (some ⟨p,0,none⟩)] 1))) b2 (some (.cells 44 [.slice xa ys.length xc] 1)) b2=some (.cells 44 [.slice xa ys.length xc] 1):=za0 _ _ _;have hM1:∀ q,q<N -> upd (upd M b1 (some (.cells 29 [.pointer (some ⟨p,0,none⟩)] 1))) b2 (some (.cells 44 [.slice xa ys.length xc] 1)) q=M q:=λq hq=>(za3 _ _ (by omega)).trans (za3 _ _ (by omega));have hm1:za5 (upd (upd M b1 (some (.cells 29 [.pointer (some ⟨p,0,none⟩)] 1))) b2 (some (.cells 44 [.slice xa ys.length xc] 1))) (b2+1):=(hm.new hb1 _).new hb2 _;simp only [List.length_cons,List.length_nil,Nat.zero_add];generalize upd (upd M b1 _) b2 _=M1 at *;have P1:=zbc.frame P hm hM1;have hx1:=zfi hm hx hM1;refine ldM (v:=.pointer (some ⟨p,0,none⟩)) ?_ h1;refine yct P1 ?_;refine za4 za8 Tryz.func203 (by kernel_rfl) (yul _ E _ _) (λhw1=>?_);obtain ⟨lr,hp⟩:=P1.pp;have hbl:=P1.bl;refine ldM (v:=.slice xa ys.length xc) ?_ h2;try simp only [sS]
 refine ldM (v:=.pointer (some ⟨p,0,none⟩)) ?_ h1;try simp only [sS]
 refine ldM (v:=.int .i64 room) ?_ hp;refine ldM (v:=.pointer (some ⟨p,0,none⟩)) ?_ h1;try simp only [sS]
 refine zm2 P1 (λhw2=>?_);refine ⟨zaz (zb4 hp) rfl,zaz (zb4 h1) rfl,zaz (zb4 h2) rfl,?_⟩;refine zcr (by omega) (by omega) ?_;refine zbw (λhg=>zax ?_) (λhg=>zaq ?_)
 ·exact λhc=>⟨_,za1 hc,λhw'=>λhc=>⟨_,za1 hc,λhw'=>k0 (by omega) M1 _ P1 hM1 (by omega) hm1 hw'⟩⟩
 refine ldM (v:=.pointer (some ⟨p,0,none⟩)) ?_ h1;try simp only [sS]
 refine ldM (v:=.slice xa ys.length xc) ?_ h2;refine ykl P1 hm1 (by omega) hx1 (λq hq=>⟨(hxo q hq).1,(hxo q hq).2.1,by have := (hxo q hq).2.2; omega⟩) hy (by omega) (λv' M2 N2 P2 hf2 hN2 hm2 hw3=>?_)
 ·refine λhc=>⟨_,za1 hc,λhw'=>λhc=>⟨_,za1 hc,λhw'=>k1 (by omega) v' M2 N2 P2 (λq q1 q2 q3=>?_) (by omega) hm2 hw'⟩⟩;exact ⟨((hf2 q q1 q2 (by omega)).1).trans (hM1 q q3),(hf2 q q1 q2 (by omega)).2⟩
theorem yck (P:zc2 M B p v bs lasts room (-1))
  (k:∀ M' N',zc2 M' B p v bs (bs.length:Nat) room (-1) -> bfr M M' N p v v -> N≤N' -> za5 M' N' -> (Hp.mk F M' N').wf -> K (.int .u16 0) ⟨F,M',N'⟩) :
  cF 90 #[.pointer (some ⟨p,0,none⟩)] K E ⟨F,M,N⟩:=by
 refine za4 za8 Tryz.func90 (by kernel_rfl) (t90 _ E _) (λhw=>?_);have hm:za5 M N:=hw.m;refine zap (cs:=[.pointer (some ⟨p,0,none⟩)]) (λb1 hb1=>?_);have h1:=za0 M b1 (some (.cells 29 [.pointer (some ⟨p,0,none⟩)] 1));have hM1:∀ q,q<N -> upd M b1 (some (.cells 29 [.pointer (some ⟨p,0,none⟩)] 1)) q=M q:=λq hq=>za3 _ _ (by omega);have hm1:=hm.new hb1 (some (.cells 29 [.pointer (some ⟨p,0,none⟩)] 1));simp only [List.length_cons,List.length_nil,Nat.zero_add];generalize upd M b1 _=M1 at *;have P1:=zbc.frame P hm hM1;refine ldM (v:=.pointer (some ⟨p,0,none⟩)) ?_ h1;refine yct P1 ?_;refine za4 za8 Tryz.func134 (by kernel_rfl) (yx5 _ E _) (λhw1=>?_);obtain ⟨lr,hp⟩:=P1.pp;refine ldM (v:=.pointer (some ⟨p,0,none⟩)) ?_ h1;refine ldM (v:=.pointer (some ⟨p,0,none⟩)) ?_ h1;try simp only [sS]
 refine zm2 P1 (λhw2=>?_);refine ⟨zaz (zb4 h1) rfl,?_⟩;try simp only [sS]
 refine stM (cs':=v :: .int .i64 0 :: .int .i8 lr::[.int .i64 (bs.length:Nat),.int .i64 room,.int .i64 (-1)]) ?_ hp rfl;have hpN:=hm1.lt hp
 have P2:zc2 (upd M1 p (some (.cells 118 (v :: .int .i64 0 :: .int .i8 lr::[.int .i64 (bs.length:Nat),.int .i64 room,.int .i64 (-1)]) 6))) B p v bs (bs.length:Nat) room (-1) :=
  ⟨⟨lr,za0 _ _ _⟩,P1.ow.keep (λq hq=>za3 _ _ (λe=>P1.ne (by rw [← e]; exact hq))) (Nat.le_refl _),P1.ne,P1.bl⟩
 exact λhc=>⟨_,za1 hc,λhw'=>λhc=>⟨_,za1 hc,λhw'=>k _ _ P2 (λq q1 q2 q3=>⟨(za3 _ _ q1).trans (hM1 q q3),q2⟩) (by omega) (hm1.set hpN _) hw'⟩⟩
theorem ydd (P:zc2 M B p v bs lasts room left) (k:∀ w M' N',own M' N 5 1 w bs.length (bts bs) -> (∀ q,q<N -> M' q=M q) -> N≤N' -> za5 M' N' -> (Hp.mk F M' N').wf -> K w ⟨F,M',N'⟩) :
  cF 33 #[.pointer (some ⟨p,0,none⟩)] K E ⟨F,M,N⟩:=by
 refine za4 za8 Tryz.func33 (by kernel_rfl) (t33 _ E _) (λhw=>?_);try simp only [sS]
 refine zzl P (λhw1=>?_);refine yb9 P.ow.rd (by have := P.bl; omega) (λw M' N' h1 h2 h3 h4 h5=>?_);exact λhc=>⟨_,za1 hc,k w M' N' h1 h2 h3 h4⟩
end
theorem ygh {a b:Int} {h:Hp} (k:K (.int .i64 (min a b)) h):pv (mm false (.int .i64 a) (.int .i64 b)) K h:=by
 refine ⟨_,rfl,?_⟩;have:(if b<a then b else a)=min a b:=by split<;>omega
 show K (.int .i64 (if b<a then b else a)) h;rw [this]; exact k
theorem yqs {a b:Int} {h:Hp} (k:K (.int .i64 (max a b)) h):pv (mm true (.int .i64 a) (.int .i64 b)) K h:=by
 refine ⟨_,rfl,?_⟩;have:(if b>a then b else a)=max a b:=by split<;>omega
 show K (.int .i64 (if b>a then b else a)) h;rw [this]; exact k
theorem own.pre {B:Nat} {e:TypeId} {v:Value} {cs:List Value} {n m:Nat} (h:own M B e 1 v n cs) (hm:m≤n):∃ v',(∀ (K:zae) (h':Hp),K v' h' -> pv (slV 1 v none (some (.int .i64 (m:Nat))) none) K h')∧own M B e 1 v' m (cs.take m)∧v'.ownBlock=v.ownBlock:=by
 have hl:=h.1
 rcases h.2 with ⟨rfl,h0⟩ | ⟨b,c,rest,rfl,h1,h2,h3,h4⟩
 ·obtain rfl:m=0:=by omega
  exact ⟨.slice none 0 0,λK h' k=>zor 0 0 0 (Nat.le_refl _) (Nat.le_refl _) (Nat.le_refl _) k,by simpa using own.nil,rfl⟩
 ·refine ⟨.slice (some ⟨b,0,none⟩) m c,λK h' k=>zhj m (by omega) k,⟨by rw [List.length_take]; omega,.inr ⟨b,c,cs.drop m++rest,rfl,by omega,h2,h3,?_⟩⟩,rfl⟩;rw [← List.append_assoc,List.take_append_drop]; exact h4
section
variable {B p tot:Nat} {e:TypeId} {post:List Value} {v:Value} {bs:List Int}
theorem yld (l:List Int) (n:Nat):(bts l).take n=bts (l.take n):=by simp [bts]
theorem yjy (P:zbc M B p e post tot v bs) (hpl:post.length=3) (k:∀ v' M',zbc M' B p e post tot v' [] -> v'.ownBlock=v.ownBlock -> (∀ q,q≠p -> M' q=M q) -> za5 M' N -> (Hp.mk F M' N).wf -> K (.tuple #[]) ⟨F,M',N⟩) :
  cF 162 #[.pointer (some ⟨p,0,none⟩)] K E ⟨F,M,N⟩:=by
 refine za4 za8 Tryz.func162 (by kernel_rfl) (yxb _ E _) (λhw=>?_);have hm:za5 M N:=hw.m;obtain ⟨lr,hp⟩:=P.pp;obtain ⟨v',g1,g2,g3⟩:=P.ow.pre (m:=0) (Nat.zero_le _);have hone:=g2.one
 match post,hpl with
 | [p0,p1,p2],_=>
 try simp only [sS]
 refine ldM (v:=v) ?_ hp;refine g1 _ _ ?_;try simp only [sS]
 obtain ⟨va,vc,rfl,_⟩:=g2.form;refine stM (cs':=[.slice va 0 vc,.int .i64 0,.int .i8 lr,p0,p1,p2]) ?_ hp rfl;try simp only [sS]
 refine stM (cs':=[.slice va 0 vc,.int .i64 0,.int .i8 lr,p0,p1,p2]) ?_ (za0 _ _ _) rfl;try simp only [sS]
 refine stM (cs':=[.slice va 0 vc,.int .i64 0,.int .i8 0,p0,p1,p2]) ?_ (za0 _ _ _) rfl;rw [zan,zan];refine λhc=>⟨_,za1 hc,λhw'=>k _ _ ⟨⟨0,za0 _ _ _⟩,?_,by rw [g3]; exact P.ne,by simp⟩ g3 (λq hq=>za3 _ _ hq) (hm.set (hm.lt hp) _) hw'⟩;exact (show own M B 5 1 (.slice va 0 vc) 0 [] by simpa using g2).keep (λq hq=>za3 _ _ (λe=>P.ne (by rw [← e,← g3]; exact hq))) (Nat.le_refl _)
theorem yko {n:Nat} (P:zbc M B p e post tot v bs) (hpl:post.length=3) (hn:n≤bs.length) (k:∀ v' M',zbc M' B p e post tot v' (bs.take n) -> v'.ownBlock=v.ownBlock -> (∀ q,q≠p -> M' q=M q) -> za5 M' N -> (Hp.mk F M' N).wf -> K (.tuple #[]) ⟨F,M',N⟩) :
  cF 116 #[.pointer (some ⟨p,0,none⟩),.int .i64 (n:Nat)] K E ⟨F,M,N⟩:=by
 refine za4 za8 Tryz.func116 (by kernel_rfl) (ylo _ E _ _) (λhw=>?_);have hm:za5 M N:=hw.m;have hbl:=P.bl;refine zau (λh0=>zax ?_) (λh0=>zaq ?_)
 ·obtain rfl:n=0:=by omega
  refine yjy P hpl (λv' M' h1 h2 h3 h4 h5=>?_);exact λhc=>⟨_,za1 hc,k v' M' (by simpa using h1) h2 h3 h4⟩
 obtain ⟨lr,hp⟩:=P.pp;have hpN:=hm.lt hp
 match post,hpl with
 | [p0,p1,p2],_=>
 obtain ⟨va,vc,rfl,_⟩:=P.ow.form;try simp only [sS]
 refine stM (cs':=[.slice va bs.length vc,.int .i64 0,.int .i8 0,p0,p1,p2]) ?_ hp rfl
 have P1:zbc (upd M p (some (.cells e [.slice va bs.length vc,.int .i64 0,.int .i8 0,p0,p1,p2] tot))) B p e [p0,p1,p2] tot (.slice va bs.length vc) bs :=
  ⟨⟨0,za0 _ _ _⟩,P.ow.keep (λq hq=>za3 _ _ (λe=>P.ne (by rw [← e]; exact hq))) (Nat.le_refl _),P.ne,P.bl⟩
 have hM1:∀ q,q≠p -> upd M p (some (.cells e [.slice va bs.length vc,.int .i64 0,.int .i8 0,p0,p1,p2] tot)) q=M q:=λq hq=>za3 _ _ hq;have hp1:=za0 M p (some (.cells e [.slice va bs.length vc,.int .i64 0,.int .i8 0,p0,p1,p2] tot));have hm1:za5 (upd M p (some (.cells e [.slice va bs.length vc,.int .i64 0,.int .i8 0,p0,p1,p2] tot))) N:=hm.set hpN _;generalize upd M p _=M1 at *;refine zke (by omega) ?_;try simp only [sS]
 refine zm2 P1 (λhw2=>?_);refine zr2 (by omega) ?_;try simp only [sS]
 rw [yew];obtain ⟨v',g1,g2,g3⟩:=P1.ow.pre (m:=n) hn;try simp only [sS]
 refine ldM (v:=.slice va bs.length vc) ?_ hp1;try simp only [sS]
 refine ldM (v:=.int .i64 0) ?_ hp1;refine zm7 (by omega) (by omega) ?_;rw [Int.zero_add];refine g1 _ _ ?_;obtain ⟨wa,wc,rfl,_⟩:=g2.form;try simp only [sS]
 refine stM (cs':=[.slice wa n wc,.int .i64 0,.int .i8 0,p0,p1,p2]) ?_ hp1 rfl;have hl:(bs.take n).length=n:=by rw [List.length_take]; omega
 refine λhc=>⟨_,za1 hc,λhw'=>k _ _ ⟨⟨0,za0 _ _ _⟩,?_,by rw [g3]; exact P1.ne,by rw [hl]; omega⟩ g3 (λq hq=>(za3 _ _ hq).trans (hM1 q hq)) (hm1.set hpN _) hw'⟩;rw [hl,← yld];exact g2.keep (λq hq=>za3 _ _ (λe=>P1.ne (by rw [← e,← g3]; exact hq))) (Nat.le_refl _)
end
section
variable {B p:Nat} {v:Value} {bs:List Int} {lasts room left:Int}
theorem ylc {n:Nat} (P:zc2 M B p v bs lasts room left) (hn:n≤bs.length) (k:∀ v' M',zc2 M' B p v' (bs.take n) (min lasts (n:Nat)) room left -> v'.ownBlock=v.ownBlock -> (∀ q,q≠p -> M' q=M q) -> za5 M' N -> (Hp.mk F M' N).wf -> K (.tuple #[]) ⟨F,M',N⟩) :
  cF 66 #[.pointer (some ⟨p,0,none⟩),.int .i64 (n:Nat)] K E ⟨F,M,N⟩:=by
 refine za4 za8 Tryz.func66 (by kernel_rfl) (t66 _ E _ _) (λhw=>?_);have hm:za5 M N:=hw.m;try simp only [sS]
 refine yko P rfl hn (λv' M' P' h2 h3 h4 hw2=>?_);obtain ⟨lr,hp⟩:=P'.pp;obtain ⟨va,vc,rfl,_⟩:=P'.ow.form;try simp only [sS]
 refine ldM (v:=.int .i64 lasts) ?_ hp;refine ygh ?_;try simp only [sS]
 refine stM (cs':=[.slice va (bs.take n).length vc,.int .i64 0,.int .i8 lr,.int .i64 (min lasts (n:Nat)),.int .i64 room,.int .i64 left]) ?_ hp rfl;refine λhc=>⟨_,za1 hc,λhw'=>k _ _ ⟨⟨lr,za0 _ _ _⟩,P'.ow.keep (λq hq=>za3 _ _ (λe=>P'.ne (by rw [← e]; exact hq))) (Nat.le_refl _),P'.ne,P'.bl⟩ h2 (λq hq=>(za3 _ _ hq).trans (h3 q hq)) (h4.set (h4.lt hp) _) hw'⟩
theorem ylr {keep:Int} {n:Nat} (P:zc2 M B p v bs lasts room left) (h0:0≤lasts) (h1:lasts≤bs.length) (hn:(n:Int)=lasts+min (max keep 0) (bs.length - lasts))
  (k:∀ v' M',zc2 M' B p v' (bs.take n) (n:Nat) room (-1) -> v'.ownBlock=v.ownBlock -> (∀ q,q≠p -> M' q=M q) -> za5 M' N -> (Hp.mk F M' N).wf -> K (.tuple #[]) ⟨F,M',N⟩) :
  cF 27 #[.pointer (some ⟨p,0,none⟩),.int .i64 keep] K E ⟨F,M,N⟩:=by
 refine za4 za8 Tryz.func27 (by kernel_rfl) (t27 _ E _ _) (λhw=>?_);have hbl:=P.bl;obtain ⟨lr,hp⟩:=P.pp;refine yqs ?_;try simp only [sS]
 refine ldM (v:=.int .i64 lasts) ?_ hp;refine zm2 P (λhw1=>?_);refine ⟨zaz (zb4 hp) rfl,?_⟩;refine zcr (by omega) (by omega) (ygh ?_);try simp only [sS]
 refine ldM (v:=.int .i64 lasts) ?_ hp;refine zm7 (by omega) (by omega) ?_;rw [← hn];have hnl:n≤bs.length:=by omega
 refine ylc P hnl (λv' M' P' g1 g2 g3 hw2=>?_);have hl:(bs.take n).length=n:=by rw [List.length_take]; omega
 try simp only [sS]
 refine zm2 P' (λhw3=>?_);rw [hl];obtain ⟨lr',hp'⟩:=P'.pp;obtain ⟨va,vc,rfl,_⟩:=P'.ow.form;try simp only [sS]
 refine stM (cs':=[.slice va (bs.take n).length vc,.int .i64 0,.int .i8 lr',.int .i64 (n:Nat),.int .i64 room,.int .i64 left]) ?_ hp' rfl;try simp only [sS]
 refine stM (cs':=[.slice va (bs.take n).length vc,.int .i64 0,.int .i8 lr',.int .i64 (n:Nat),.int .i64 room,.int .i64 (-1)]) ?_ (za0 _ _ _) rfl;rw [zan];exact λhc=>⟨_,za1 hc,λhw'=>k _ _ ⟨⟨lr',za0 _ _ _⟩,P'.ow.keep (λq hq=>za3 _ _ (λe=>P'.ne (by rw [← e]; exact hq))) (Nat.le_refl _),P'.ne,P'.bl⟩ g1 (λq hq=>(za3 _ _ hq).trans (g2 q hq)) (g3.set (g3.lt hp') _) hw'⟩
end
def zdg:List (List Int) -> List zaj
 | []=>[]
 | x::xs=>match zg2 x with
  | none=>[]
  | some r=>r::zdg xs
def flen (xs:List (List Int)):Nat:=(xs.map λx=>x.length+7).sum
theorem zyf:∀ (xs:List (List Int)) (i:Nat) (hi:i<xs.length) (r:zaj),i=(zdg (xs.take i)).length -> zg2 xs[i]=some r -> zdg (xs.take (i+1))=zdg (xs.take i)++[r]∧i+1=(zdg (xs.take (i+1))).length
 | x::xs,0,_,r,_,h=>by
  have h':zg2 x=some r:=h
  simp [zdg,h']
 | x::xs,i+1,hi,r,h0,h=>by
  have hi':i<xs.length:=by simpa using hi
  rw [List.take_succ_cons] at h0;have h':zg2 xs[i]=some r:=h;cases hx:zg2 x with
  | none=>simp [zdg,hx] at h0
  | some r0=>
   have h1:i=(zdg (xs.take i)).length:=by simp only [zdg,hx,List.length_cons] at h0; omega
   obtain ⟨g1,g2⟩:=zyf xs i hi' r h1 h';rw [List.take_succ_cons,List.take_succ_cons];simp only [zdg,hx,g1,List.cons_append,List.length_cons];refine ⟨trivial,?_⟩;rw [g1] at g2; omega
theorem zya:∀ (xs:List (List Int)) (i:Nat) (hi:i<xs.length),i=(zdg (xs.take i)).length -> zg2 xs[i]=none -> zdg xs=zdg (xs.take i)
 | x::xs,0,_,_,h=>by
  have h':zg2 x=none:=h
  simp [zdg,h']
 | x::xs,i+1,hi,h0,h=>by
  have hi':i<xs.length:=by simpa using hi
  rw [List.take_succ_cons] at h0 ⊢;have h':zg2 xs[i]=none:=h;cases hx:zg2 x with
  | none=>simp [zdg,hx] at h0
  | some r0=>
   have h1:i=(zdg (xs.take i)).length:=by simp only [zdg,hx,List.length_cons] at h0; omega
   have := zya xs i hi' h1 h';simp only [zdg,hx,this]
theorem zy4 {l:List Int} (h8:zbg l):∀ {xs:List (List Int)} {a e:Nat},chain l a xs e -> (∀ x∈xs,x.length≤60000∧zbg x)∧e=a+flen xs
 | [],a,e,h=>⟨λx hx=>absurd hx List.not_mem_nil,by have h':a=e:=h; rw [← h']; rfl⟩
 | x::xs,a,e,h=>by
  obtain ⟨g1,g2⟩:=zy4 h8 h.2;have hx:=yfq h.1;refine ⟨λy hy=>?_,by rw [g2]; simp only [flen,List.map_cons,List.sum_cons]; omega⟩
  rcases List.mem_cons.1 hy with rfl | hy
  ·refine ⟨hx.1,?_⟩;have := h.1;unfold zck at this
   split at this
   ·cases this
   ·split at this
    ·cases this
    ·split at this
     ·simp only [Option.some.injEq] at this;rw [← this]; exact znf (zne (zne h8))
     ·cases this
  ·exact g1 y hy
theorem yh0 (xs:List (List Int)) (i:Nat) (hi:i<xs.length):flen (xs.take (i+1))=flen (xs.take i)+(xs[i].length+7):=by
 unfold flen;rw [List.take_add_one,List.getElem?_eq_getElem hi,Option.toList_some,List.map_append,List.sum_append]; simp
theorem yn7 (xs:List (List Int)) (i:Nat):flen (xs.take i)≤flen xs:=by
 have := congrArg flen (List.take_append_drop i xs);unfold flen at *;rw [List.map_append,List.sum_append] at this;omega
def ym5 (F:Nat -> Option (List Value)) (M:Nat -> Option zak) (B:Nat) (v:Value) (rs:List zaj):Prop:=∃ rows,own M B 77 10 v rs.length rows.flatten∧zag (λcs r=>zdr F cs r∧r.lens∧r.typ) 10 rows rs
theorem yo9 {v:Value} {l:List Int} (hv:sR F M 1 v l.length (bts l)) (h8:zbg l) (hl:l.length≤100000000) (h6:∀ xs e,chain l 0 xs e -> zck (l.drop e)=none -> ∀ x∈xs,∀ k q,rd 1 x=some (k,q) -> k≠6)
  (k:∀ xs e w F' M' N',chain l 0 xs e -> zck (l.drop e)=none -> ym5 F' M' N w (zdg xs) -> za7 F F' -> (∀ q,q<N -> M' q=M q) -> N≤N' -> za5 M' N' -> (Hp.mk F' M' N').wf -> K (.tuple #[w,.int .i64 (flen (xs.take (zdg xs).length):Nat)]) ⟨F',M',N'⟩) :
  cF 88 #[v] K E ⟨F,M,N⟩:=by
 refine za4 za8 Tryz.func88 (by kernel_rfl) (t88 _ E _) (λhw=>?_);have hm:za5 M N:=hw.m;refine yp6 hv h8 hl (λxs e w M1 N1 hch hfr hle hbs hM1 hN1 hm1 hw1=>?_);obtain ⟨hmem,hfl⟩:=zy4 h8 hch;rw [Nat.zero_add] at hfl
 have hxl:xs.length≤100000000:=by
  have:∀ ys:List (List Int),ys.length≤flen ys:=λys=>by
   induction ys with
   | nil=>simp
   | cons y ys ih=>simp only [flen,List.map_cons,List.sum_cons,List.length_cons] at *; omega
  have := this xs; omega
 have hlw:zab w=some (.int .i64 (xs.length:Nat)):=by obtain ⟨us,h1,_⟩:=hbs; obtain ⟨a,c,h,_⟩:=h1.form; rw [h]; rfl
 try simp only [sS]
 refine zaa hlw ?_
 refine zp1 (σ:=Nat×Value) (λs=>s.2) (λs=>.int .i64 (flen (xs.take s.1):Nat)) (λs=>.int .i64 (s.1:Nat))
  (λs h=>∃ F' M' N' rows,h=⟨F',M',N'⟩∧za7 F F'∧N1≤N'∧(∀ q,q<N1 -> M' q=M1 q)∧za5 M' N'∧s.1≤xs.length∧s.1=(zdg (xs.take s.1)).length∧own M' N1 77 10 s.2 s.1 rows.flatten∧zag (λcs r=>zdr F' cs r∧r.lens∧r.typ) 10 rows (zdg (xs.take s.1))) (λs=>xs.length - s.1) (0,.slice none 0 0) rfl rfl rfl
  (λhw2=>⟨_,za1 hw2,F,M1,N1,[],rfl,za7.refl _,Nat.le_refl _,λ_ _=>rfl,hm1,Nat.zero_le _,rfl,own.nil,zag.nil _ _⟩) (λk1 s j h1 hI hw2 next=>?_)
 rw [zp2];obtain ⟨F2,M2,N2,rows,rfl,hF2,hN2,hM2,hm2,hi,hsl,ho,hr⟩:=hI;refine zat (λhlt=>?_) (λhge=>?_)
 rotate_left
 ·try simp only [sS]
  rw [List.take_of_length_le (show xs.length≤s.1 by omega)] at hsl hr ⊢;rw [show flen xs=flen (xs.take (zdg xs).length) by rw [List.take_of_length_le (by omega)]];exact λhc=>⟨_,za1 hc,λhw'=>k xs e s.2 F2 M2 N2 hch hfr ⟨rows,by rw [← hsl]; exact ho.keep (λ_ _=>rfl) (by omega),hr⟩ hF2 (λq hq=>(hM2 q (by omega)).trans (hM1 q hq)) (by omega) hm2 hw'⟩
 have h1:s.1<xs.length:=by omega
 have hmi:=hmem _ (List.getElem_mem h1);try simp only [sS]
 refine yrv hm1 hbs hF2 hM2 h1 (λp u hu=>?_);have hu2:=hu.keep (M':=M2) (λq hq=>hM2 q (hu.lt hm1 q hq)) (Nat.le_refl _);refine yi8 (hu2.rd) (λq hq=>hu2.lt hm2 q hq) hmi.2 hmi.1 (h6 xs e hch hfr _ (List.getElem_mem h1)) (λcs F3 M3 N3 r g1 g2 g3 g4 hF3 hN3 hM3 hm3 hw3=>?_) (λg0 F3 M3 N3 hF3 hN3 hM3 hm3 hw3=>?_)
 ·have g2':=g2;obtain ⟨na,nc,fv,sa,sc,ev,rfl,hn,hf,he⟩:=g2;obtain ⟨fa,fc,rfl⟩:=hf.form;obtain ⟨ea,ec,rfl⟩:=he.form;try simp only [sS]
  refine zap (cs:=zac) (λrb hrb=>?_);refine stM (cs':=[.int .u8 r.kind,.int .u32 r.id,.int .u32 r.tm,.slice na r.ns.length nc,.slice fa r.fs.length fc,.int .u32 0,.slice sa 0 sc,.int .i64 r.lo,.int .i64 r.hi,.slice ea r.es.length ec]) ?_ (za0 _ _ _) rfl rfl (List.all_eq_true.1 rfl);rw [zan];have hel:zac.length=10:=rfl;try simp only [hel]
  have hrb4:=za0 M3 rb (some (.cells 77 [.int .u8 r.kind,.int .u32 r.id,.int .u32 r.tm,.slice na r.ns.length nc,.slice fa r.fs.length fc,.int .u32 0,.slice sa 0 sc,.int .i64 r.lo,.int .i64 r.hi,.slice ea r.es.length ec] 10));have hM4:∀ q,q<N2 -> upd M3 rb (some (.cells 77 [.int .u8 r.kind,.int .u32 r.id,.int .u32 r.tm,.slice na r.ns.length nc,.slice fa r.fs.length fc,.int .u32 0,.slice sa 0 sc,.int .i64 r.lo,.int .i64 r.hi,.slice ea r.es.length ec] 10)) q=M2 q:=λq hq=>(za3 _ _ (by omega)).trans (hM3 q hq);have hm4:=hm3.new hrb (some (.cells 77 [.int .u8 r.kind,.int .u32 r.id,.int .u32 r.tm,.slice na r.ns.length nc,.slice fa r.fs.length fc,.int .u32 0,.slice sa 0 sc,.int .i64 r.lo,.int .i64 r.hi,.slice ea r.es.length ec] 10));generalize upd M3 rb _=M4 at *;refine zc3 rfl ?_;try simp only [sS]
  have hu4:=hu2.keep (M':=M4) (λq hq=>hM4 q (hu2.lt hm2 q hq)) (Nat.le_refl _);refine yhu hu4.rd hmi.2 (by omega) (λhbig=>by omega) (λhle w5 M5 N5 hw5 hM5 hN5 hm5 hwf5=>?_);obtain ⟨wa,wc,rfl,_⟩:=hw5.form;try simp only [sS]
  have hfs:=yh0 xs s.1 h1;have hfle:=yn7 xs (s.1+1);rw [zdp];refine zji (by omega) ?_;rw [← hfs];refine zb6 (vs:=[.int .u8 r.kind,.int .u32 r.id,.int .u32 r.tm,.slice na r.ns.length nc,.slice fa r.fs.length fc,.int .u32 0,.slice sa 0 sc,.int .i64 r.lo,.int .i64 r.hi,.slice ea r.es.length ec]) ?_ ((hM5 rb (by omega)).trans hrb4);refine zcx (cs:=[.int .u8 r.kind,.int .u32 r.id,.int .u32 r.tm,.slice na r.ns.length nc,.slice fa r.fs.length fc,.int .u32 0,.slice sa 0 sc,.int .i64 r.lo,.int .i64 r.hi,.slice ea r.es.length ec]) (by kernel_rfl) (λb6 hb6=>?_);have hM6:∀ q,q<N2 -> upd M5 b6 (some (.cells 77 [.int .u8 r.kind,.int .u32 r.id,.int .u32 r.tm,.slice na r.ns.length nc,.slice fa r.fs.length fc,.int .u32 0,.slice sa 0 sc,.int .i64 r.lo,.int .i64 r.hi,.slice ea r.es.length ec] 10)) q=M2 q:=λq hq=>(za3 _ _ (by omega)).trans ((hM5 q (by omega)).trans (hM4 q hq));have hm6:=hm5.new hb6 (some (.cells 77 [.int .u8 r.kind,.int .u32 r.id,.int .u32 r.tm,.slice na r.ns.length nc,.slice fa r.fs.length fc,.int .u32 0,.slice sa 0 sc,.int .i64 r.lo,.int .i64 r.hi,.slice ea r.es.length ec] 10));have hsr:sR F3 (upd M5 b6 (some (.cells 77 [.int .u8 r.kind,.int .u32 r.id,.int .u32 r.tm,.slice na r.ns.length nc,.slice fa r.fs.length fc,.int .u32 0,.slice sa 0 sc,.int .i64 r.lo,.int .i64 r.hi,.slice ea r.es.length ec] 10))) 10 (.slice (some ⟨b6,0,none⟩) 1 1) 1 [.int .u8 r.kind,.int .u32 r.id,.int .u32 r.tm,.slice na r.ns.length nc,.slice fa r.fs.length fc,.int .u32 0,.slice sa 0 sc,.int .i64 r.lo,.int .i64 r.hi,.slice ea r.es.length ec]:=⟨rfl,.inr ⟨b6,0,1,_,rfl,Nat.le_refl _,.inr ⟨_,_,za0 _ _ _⟩,rfl⟩⟩;simp only [List.length_cons,List.length_nil,Nat.zero_add];generalize upd M5 b6 _=M6 at *;have ho6:own M6 N1 77 10 s.2 s.1 rows.flatten:=ho.keep (λq hq=>hM6 q (ho.lt hm2 q hq)) (Nat.le_refl _);refine ho6.app hm6 (by omega) hsr (List.all_eq_true.1 rfl) (by omega) (by unfold maxLen; omega) (λw7 M7 N7 h4 hf4 hN7 hm7=>?_);refine zas (by omega) ?_;obtain ⟨d1,d2⟩:=zyf xs s.1 h1 r hsl g1;have hge:=ho.ge;refine next (s.1+1,w7) _ _ (by simp only; omega) (λhw8=>⟨_,za1 hw8,F3,M7,N7,rows++[[.int .u8 r.kind,.int .u32 r.id,.int .u32 r.tm,.slice na r.ns.length nc,.slice fa r.fs.length fc,.int .u32 0,.slice sa 0 sc,.int .i64 r.lo,.int .i64 r.hi,.slice ea r.es.length ec]],rfl,hF2.trans hF3,by omega,λq hq=>?_,hm7,h1,d2,by rw [List.flatten_append]; simpa using h4,?_⟩)
  ·exact ((hf4 q (λe=>by have := (hge q e).1; omega) (by omega)).1).trans ((hM6 q (by omega)).trans (hM2 q hq))
  ·rw [d1];exact (hr.mono λ_ _ h=>⟨h.1.mono hF3,h.2⟩).snoc rfl (List.all_eq_true.1 rfl) ⟨g2',g3,g4⟩
 ·try simp only [sS]
  refine zap (cs:=zac) (λrb hrb=>?_);refine stM (cs':=zac) ?_ (za0 _ _ _) rfl rfl (List.all_eq_true.1 rfl);rw [zan];refine zim (by decide) ?_;try simp only [sS]
  rw [zyg];have hdn:=zya xs s.1 h1 hsl g0;have hM4:∀ q,q<N2 -> upd M3 rb (some (.cells 77 zac zac.length)) q=M2 q:=λq hq=>(za3 _ _ (by omega)).trans (hM3 q hq);have hm4:=hm3.new hrb (some (.cells 77 zac zac.length));generalize upd M3 rb _=M4 at *;rw [show flen (xs.take s.1)=flen (xs.take (zdg xs).length) by rw [hdn,← hsl]];exact λhc=>⟨_,za1 hc,λhw'=>k xs e s.2 F3 M4 (rb+1) hch hfr ⟨rows,by rw [hdn,← hsl]; exact ho.keep (λq hq=>hM4 q (ho.lt hm2 q hq)) (by omega),by rw [hdn]; exact hr.mono λ_ _ h=>⟨h.1.mono hF3,h.2⟩⟩ (hF2.trans hF3) (λq hq=>(hM4 q (by omega)).trans ((hM2 q (by omega)).trans (hM1 q hq))) (by omega) hm4 hw'⟩
section
variable {B p lg:Nat} {v:Value} {bs:List Int} {lasts room left:Int}
theorem yne {rs:List zaj} (P:zc2 M B p v bs lasts room (-1)) (hB:B≤N) (h8:zbg bs) (h6:∀ xs e,chain bs 0 xs e -> zck (bs.drop e)=none -> ∀ x∈xs,∀ k q,rd 1 x=some (k,q) -> k≠6)
  (hall:∀ xs e,chain bs 0 xs e -> zck (bs.drop e)=none -> zdg xs=rs∧flen (xs.take (zdg xs).length)=bs.length)
  (k:∀ lg w F' M' N',zc2 M' B p v bs (bs.length:Nat) room (-1) -> M' lg=some (.cells 189 [.pointer (some ⟨p,0,none⟩)] 1) -> N≤lg -> (∀ q,w.ownBlock=some q -> q≠lg) -> ym5 F' M' N w rs -> za7 F F' -> bfr M M' N p v v -> N≤N' -> za5 M' N' -> (Hp.mk F' M' N').wf -> K (.tuple #[.pointer (some ⟨lg,0,none⟩),w,.int .u16 0]) ⟨F',M',N'⟩) :
  cF 39 #[.pointer (some ⟨p,0,none⟩)] K E ⟨F,M,N⟩:=by
 refine za4 za8 Tryz.func39 (by kernel_rfl) (t39 _ E _) (λhw=>?_);have hm:za5 M N:=hw.m;have hbl:=P.bl;obtain ⟨lr0,hp0⟩:=P.pp;have hpN:=hm.lt hp0;refine ydd P (λw1 M1 N1 hw1 hM1 hN1 hm1 hwf1=>?_);refine yo9 hw1.rd h8 (by omega) h6 (λxs e w F2 M2 N2 hch hfr hrec hF2 hM2 hN2 hm2 hwf2=>?_);obtain ⟨hd,hf⟩:=hall xs e hch hfr;rw [hf];rw [hd] at hrec;obtain ⟨a1,c1,rfl,_⟩:=hw1.form;try simp only [sS]
 refine zke (by omega) ?_;try simp only [sS]
 rw [ycb];have hM2':∀ q,q<N -> M2 q=M q:=λq hq=>(hM2 q (by omega)).trans (hM1 q hq);have P2:=zbc.frame P hm hM2';refine yck P2 (λM3 N3 P3 hf3 hN3 hm3 hwf3=>?_);refine zc3 rfl ?_;try simp only [sS]
 refine zaa (v:=.agg #[.pointer (some ⟨p,0,none⟩)]) (by kernel_rfl) ?_;refine zap (cs:=[.pointer (some ⟨p,0,none⟩)]) (λlg hlg=>?_);have P4:=zbc.frame P3 hm3 (M':=upd M3 lg (some (.cells 189 [.pointer (some ⟨p,0,none⟩)] 1))) (λq hq=>za3 _ _ (by omega));obtain ⟨rows,ho,hrows⟩:=hrec;have hvl:=P.ow.lt hm;have hwge:=ho.ge;have hwlt:=ho.lt hm2;have ho3:own M3 N 77 10 w rs.length rows.flatten:=ho.keep (λq hq=>(hf3 q (by have := (hwge q hq).1; omega) (λe=>by have := hvl q e; have := (hwge q hq).1; omega) (by have := hwlt q hq; omega)).1) (by omega);have hw3:=ho3.lt hm3;refine λhc=>⟨_,za1 hc,λhw'=>k lg w F2 _ (lg+1) P4 (za0 _ _ _) (by omega) (λq hq=>by have := hw3 q hq; omega) ⟨rows,ho3.keep (λq hq=>za3 _ _ (by have := hw3 q hq; omega)) (Nat.le_refl _),hrows⟩ hF2 (λq q1 q2 q3=>?_) (by omega) (hm3.new hlg _) hw'⟩;exact ⟨(za3 _ _ (by omega)).trans (((hf3 q q1 q2 (by omega)).1).trans (hM2' q q3)),q2⟩
theorem ydu {cs:List Value} {r:zaj} (P:zc2 M B p v bs lasts room (-1)) (hB:B≤N) (hlg:M lg=some (.cells 189 [.pointer (some ⟨p,0,none⟩)] 1)) (hlv:v.ownBlock≠some lg) (hlp:lg≠p) (hr0:0≤room) (hroom:room≤2000000)
  (hr:zdr F cs r) (hL:r.lens) (ht:r.typ) (h6:r.kind≠6) (hE:(zah r).length≤2000000)
  (k0:zbn r=false -> ∀ M' N',zc2 M' B p v bs lasts room (-1) -> bfr M M' N p v v -> N≤N' -> za5 M' N' -> (Hp.mk F M' N').wf -> K (.int .u16 1) ⟨F,M',N'⟩)
  (k3:zbn r=true -> (zah r).length>60000 -> ∀ M' N',zc2 M' B p v bs lasts room (-1) -> bfr M M' N p v v -> N≤N' -> za5 M' N' -> (Hp.mk F M' N').wf -> K (.int .u16 3) ⟨F,M',N'⟩)
  (kF:zbn r=true -> (zah r).length≤60000 -> ¬ (bs.length:Int)+((zah r).length+7:Nat)≤room -> ∀ M' N',zc2 M' B p v bs lasts room (-1) -> bfr M M' N p v v -> N≤N' -> za5 M' N' -> (Hp.mk F M' N').wf -> K (.int .u16 100) ⟨F,M',N'⟩)
  (k1:zbn r=true -> (zah r).length≤60000 -> (bs.length:Int)+((zah r).length+7:Nat)≤room -> ∀ v' M' N',zc2 M' B p v' (bs++zbd (zah r)) lasts room (-1) -> bfr M M' N p v v' -> N≤N' -> za5 M' N' -> (Hp.mk F M' N').wf -> K (.int .u16 0) ⟨F,M',N'⟩) :
  cF 100 #[.pointer (some ⟨lg,0,none⟩),.agg cs.toArray] K E ⟨F,M,N⟩:=by
 refine za4 za8 Tryz.func100 (by kernel_rfl) (zmu _ E _ _) (λhw=>?_);have hm:za5 M N:=hw.m;have hc1:=hr.keep;obtain ⟨lr0,hp0⟩:=P.pp;have hpN:=hm.lt hp0;have hlgN:=hm.lt hlg;have hvl:=P.ow.lt hm;refine zap (cs:=cs) (λb hb=>?_) (by simp [Value.cells]);have hx:=za0 M b (some (.cells 77 cs cs.length));have hM1:∀ q,q<N -> upd M b (some (.cells 77 cs cs.length)) q=M q:=λq hq=>za3 _ _ (by omega);have hm1:=hm.new hb (some (.cells 77 cs cs.length));generalize upd M b _=M1 at *;have P1:=zbc.frame P hm hM1;refine zb6 (vs:=cs) ?_ hx (by exact (show (List.drop 0 cs).take 10=cs by rw [List.drop_zero,← hc1.1,List.take_length])) (by exact (show 0+10≤cs.length by omega));refine yb8 hr hL ht h6 (by omega) (λh0 N2 hN2 hw2=>?_) (λh0 hbig N2 hN2 hw2=>?_) (λh0 hle w M2 N2 hw2 hM2 hN2 hm2 hwf2=>?_)
 ·try simp only [sS]
  refine zim (by decide) ?_;try simp only [sS]
  exact λhc=>⟨_,za1 hc,λhw'=>k0 h0 M1 N2 P1 (λq q1 q2 q3=>⟨hM1 q q3,q2⟩) (by omega) (hm1.up hN2) hw'⟩
 ·try simp only [sS]
  refine zim (by decide) ?_;try simp only [sS]
  exact λhc=>⟨_,za1 hc,λhw'=>k3 h0 hbig M1 N2 P1 (λq q1 q2 q3=>⟨hM1 q q3,q2⟩) (by omega) (hm1.up hN2) hw'⟩
 try simp only [sS]
 refine zc3 rfl ?_;try simp only [sS]
 refine yhu hw2.rd (zl9 r) (by omega) (λhbig=>by omega) (λ_ z M3 N3 hz hM3 hN3 hm3 hwf3=>?_);try simp only [sS]
 refine zc3 rfl ?_;try simp only [sS]
 have hM3':∀ q,q<N -> M3 q=M q:=λq hq=>(hM3 q (by omega)).trans ((hM2 q (by omega)).trans (hM1 q hq));have P3:=zbc.frame P hm hM3';refine ldM (v:=.pointer (some ⟨p,0,none⟩)) ?_ ((hM3' lg hlgN).trans hlg);have hzge:=hz.ge;have hzlt:=hz.lt hm3;refine yhk P3 (by omega) hr0 (by omega) hz.rd (λq hq=>⟨λe=>by have := hvl q e; have := (hzge q hq).1; omega,by have := (hzge q hq).1; omega,hzlt q hq⟩) (by rw [zdp]; omega) (by rw [zdp]; omega) (λhno M4 N4 P4 hM4 hN4 hm4 hwf4=>?_) (λhyes v' M4 N4 P4 hf4 hN4 hm4 hwf4=>?_)
 ·rw [zdp] at hno;exact λhc=>⟨_,za1 hc,λhw'=>kF h0 hle hno M4 N4 P4 (λq q1 q2 q3=>⟨(hM4 q (by omega)).trans (hM3' q q3),q2⟩) (by omega) hm4 hw'⟩
 ·rw [zdp] at hyes;exact λhc=>⟨_,za1 hc,λhw'=>k1 h0 hle hyes v' M4 N4 P4 (λq q1 q2 q3=>⟨((hf4 q q1 q2 (by omega)).1).trans (hM3' q q3),(hf4 q q1 q2 (by omega)).2⟩) (by omega) hm4 hw'⟩
theorem yjf {cs:List Value} {r:zaj} (P:zc2 M B p v bs lasts room (-1)) (hB:B≤N) (hlg:M lg=some (.cells 189 [.pointer (some ⟨p,0,none⟩)] 1)) (hlv:v.ownBlock≠some lg) (hlp:lg≠p) (hr0:0≤room) (hroom:room≤2000000)
  (hr:zdr F cs r) (hL:r.lens) (ht:r.typ) (h6:r.kind≠6) (hE:(zah r).length≤2000000)
  (k0:¬ (zbn r=true∧(zah r).length≤60000∧(bs.length:Int)+((zah r).length+7:Nat)≤room) -> ∀ x M' N',x≠0 -> zc2 M' B p v bs lasts room (-1) -> bfr M M' N p v v -> N≤N' -> za5 M' N' -> (Hp.mk F M' N').wf -> K (.int .u16 x) ⟨F,M',N'⟩)
  (k1:zbn r=true -> (zah r).length≤60000 -> (bs.length:Int)+((zah r).length+7:Nat)≤room -> ∀ v' M' N',zc2 M' B p v' (bs++zbd (zah r)) ((bs++zbd (zah r)).length:Nat) room (-1) -> bfr M M' N p v v' -> N≤N' -> za5 M' N' -> (Hp.mk F M' N').wf -> K (.int .u16 0) ⟨F,M',N'⟩) :
  cF 145 #[.pointer (some ⟨lg,0,none⟩),.agg cs.toArray] K E ⟨F,M,N⟩:=by
 refine za4 za8 Tryz.func145 (by kernel_rfl) (ywu _ E _ _) (λhw=>?_);have hm:za5 M N:=hw.m;have hc1:=hr.keep;obtain ⟨lr0,hp0⟩:=P.pp;have hpN:=hm.lt hp0;have hlgN:=hm.lt hlg;have hvl:=P.ow.lt hm;refine zap (cs:=cs) (λb hb=>?_) (by simp [Value.cells]);have hx:=za0 M b (some (.cells 77 cs cs.length));have hM1:∀ q,q<N -> upd M b (some (.cells 77 cs cs.length)) q=M q:=λq hq=>za3 _ _ (by omega);have hm1:=hm.new hb (some (.cells 77 cs cs.length));generalize upd M b _=M1 at *;have P1:=zbc.frame P hm hM1;try simp only [sS]
 refine ldM (v:=.pointer (some ⟨p,0,none⟩)) ?_ ((hM1 lg hlgN).trans hlg);refine ydd P1 (λw M2 N2 hw2 hM2 hN2 hm2 hwf2=>?_);obtain ⟨wa,wc,rfl,_⟩:=hw2.form;try simp only [sS]
 have hM2':∀ q,q<N -> M2 q=M q:=λq hq=>(hM2 q (by omega)).trans (hM1 q hq);have P2:=zbc.frame P hm hM2';refine zb6 (vs:=cs) ?_ ((hM2 b (by omega)).trans hx) (by exact (show (List.drop 0 cs).take 10=cs by rw [List.drop_zero,← hc1.1,List.take_length])) (by exact (show 0+10≤cs.length by omega))
 have bad:∀ x,x≠0 -> ¬ (zbn r=true∧(zah r).length≤60000∧(bs.length:Int)+((zah r).length+7:Nat)≤room) -> ∀ M' N',zc2 M' B p v bs lasts room (-1) -> bfr M2 M' N2 p v v -> N2≤N' -> za5 M' N' ->
   (Hp.mk F M' N').wf -> ∃ h',(Hp.mk F M' N').wk h'∧(h'.wf -> K (.int .u16 x) h'):=λx hx0 hno M' N' P' hf' hN' hm' hc=>⟨_,za1 hc,λhw'=>k0 hno x M' N' hx0 P' (λq q1 q2 q3=>⟨((hf' q q1 q2 (by omega)).1).trans (hM2' q q3),q2⟩) (by omega) hm' hw'⟩
 refine ydu P2 (by omega) ((hM2' lg hlgN).trans hlg) hlv hlp hr0 hroom hr hL ht h6 hE (λh0 M3 N3 P3 hf3 hN3 hm3 hw3=>?_) (λh0 hbig M3 N3 P3 hf3 hN3 hm3 hw3=>?_) (λh0 hle hno M3 N3 P3 hf3 hN3 hm3 hw3=>?_) (λh0 hle hyes v3 M3 N3 P3 hf3 hN3 hm3 hw3=>?_)
 ·refine zim (by decide) ?_;try simp only [sS]
  exact bad 1 (by decide) (λh=>by rw [h0] at h; cases h.1) M3 N3 P3 hf3 hN3 hm3
 ·refine zim (by decide) ?_;try simp only [sS]
  exact bad 3 (by decide) (λh=>by omega) M3 N3 P3 hf3 hN3 hm3
 ·refine zim (by decide) ?_;try simp only [sS]
  exact bad 100 (by decide) (λh=>hno h.2.2) M3 N3 P3 hf3 hN3 hm3
 ·refine zc3 rfl ?_;try simp only [sS]
  refine ldM (v:=.pointer (some ⟨p,0,none⟩)) ?_ (((hf3 lg hlp hlv (by omega)).1).trans ((hM2' lg hlgN).trans hlg));refine yck P3 (λM4 N4 P4 hf4 hN4 hm4 hw4=>?_);refine zc3 rfl ?_;try simp only [sS]
  rw [zw9];refine λhc=>⟨_,za1 hc,λhw'=>k1 h0 hle hyes v3 M4 N4 P4 (λq q1 q2 q3=>?_) (by omega) hm4 hw'⟩;have g3:=hf3 q q1 q2 (by omega);have g4:=hf4 q q1 g3.2 (by omega);exact ⟨g4.1.trans (g3.1.trans (hM2' q q3)),g4.2⟩
end
section
variable {B p g mb:Nat} {hv dv:Value} {rows:List (List Value)} {l:List Dm} {h:List En} {bs:Bts} {tk:Int}
def pfr (M M':Nat -> Option zak) (N p g mb:Nat) (hv hv':Value):Prop:=∀ q,hv.ownBlock≠some q -> q≠g -> q≠mb -> q≠p -> q<N -> M' q=M q∧hv'.ownBlock≠some q
def cmE (l:List Dm) (h:List En) (bs:Bts) (r:zaj):Nat:=if (zal bs r.id).st=1 then zkx l h r.tm (zal bs r.id).fs else 140
def cmH (l:List Dm) (h:List En) (bs:Bts) (r:zaj):List En:=if (zal bs r.id).st=1 then zsn l h r.tm (zal bs r.id).fs else h
def cmS (l:List Dm) (h:List En) (bs:Bts) (r:zaj):Bts:=if cmE l h bs r=0 then zhk bs r.id ⟨2,r.tm,[],[]⟩ else bs
theorem yhi {cs:List Value} {r:zaj} (P:zb8 F M B p g mb hv dv rows l h bs tk) (hB:B≤N) (hdl:l.length≤1000) (hl:h.length≤5000) (hr:zql F cs r) (h0:0≤r.id) (h1:r.id<4294967296) (ht:0≤r.tm) (hfl:(zal bs r.id).fs.length≤140737488351232)
  (k:∀ hv' F' M' N' rows',za7 F F' -> zb8 F' M' B p g mb hv' dv rows' l (cmH l h bs r) (cmS l h bs r) tk -> pfr M M' N p g mb hv hv' -> N≤N' -> za5 M' N' -> (Hp.mk F' M' N').wf -> K (.int .u16 ((cmE l h bs r:Nat):Int)) ⟨F',M',N'⟩) :
  cF 92 #[.pointer (some ⟨p,0,none⟩),.agg cs.toArray] K E ⟨F,M,N⟩:=by
 refine za4 za8 Tryz.func92 (by kernel_rfl) (t92 _ E _ _) (λhw=>?_);have hm:za5 M N:=hw.m;have hone:=hr.one;refine zap (cs:=cs) (λb1 hb1=>?_) rfl;obtain ⟨nv,fv,ep,sv,ev,e,hn,hf,he,_⟩:=hr;have hb:=za0 M b1 (some (.cells 77 cs cs.length));have P1:=P.box hm hb1 (some (.cells 77 cs cs.length));have hm1:=hm.new hb1 (some (.cells 77 cs cs.length));have hM1:∀ q,q<N -> upd M b1 (some (.cells 77 cs cs.length)) q=M q:=λq hq=>za3 _ _ (by omega);subst e;generalize upd M b1 _=M1 at *;obtain ⟨es,h2,h3⟩:=P1.mm;have hpn:=P1.pg;have hpl:=P.lt hm;have hvb:hv.ownBlock≠some b1:=λe=>by have := (hpl b1 (.inr (.inr (.inr e)))).2; omega
 have hbg:b1≠g:=λe=>by have := (hpl g (.inr (.inr (.inl rfl)))).2; omega
 try simp only [sS]
 refine ldM (v:=.int .u32 r.id) ?_ hb;refine ycp P1 (λhw1=>?_)
 by_cases hs:(zal bs r.id).st=1
 ·have eE:cmE l h bs r=zkx l h r.tm (zal bs r.id).fs:=by unfold cmE; rw [if_pos hs]
  have eH:cmH l h bs r=zsn l h r.tm (zal bs r.id).fs:=by unfold cmH; rw [if_pos hs]
  rw [decide_eq_true hs];try simp only [sS]
  refine ldM (v:=.pointer (some ⟨g,0,none⟩)) ?_ P1.pp;refine ldM (v:=.int .u32 r.tm) ?_ hb;try simp only [sS]
  refine ldM (v:=.map (some mb)) ?_ P1.pp;refine ldM (v:=.int .u32 r.id) ?_ hb;refine zr6 (id:=r.id) h2 h3 (λv hv'=>?_);obtain ⟨nv',fv',rfl,_,hf'⟩:=hv';refine ⟨zaz (zb4 hb) rfl,zaz (zb4 P1.pp) rfl,?_⟩;refine zaa (v:=fv') (by kernel_rfl) ?_;refine yk8 P1.cc (by omega) hdl hl ht hf' hfl (λhv2 F2 M2 N2 rows2 hF2 hC2 hM2 hN2 hm2 hw2=>?_);have hMp:=hM2 p hpn.2.2.2.1 hpn.1 (by have := (hpl p (.inl rfl)).2; omega);have hMm:=hM2 mb hpn.2.2.2.2 hpn.2.2.1 (by have := (hpl mb (.inr (.inl rfl))).2; omega);have hMb:=hM2 b1 hvb hbg (by omega);have hb2:=hMb.1.trans hb;have P2:zb8 F2 M2 B p g mb hv2 dv rows2 l (zsn l h r.tm (zal bs r.id).fs) bs tk:=⟨hMp.1.trans P1.pp,P.pB,P.mB,⟨es,hMm.1.trans h2,h3.mono hF2⟩,hC2⟩;refine zio (λhne=>?_) (λhne=>?_)
  ·try simp only [sS]
   refine λhc=>⟨_,za1 hc,λhw'=>?_⟩;rw [← eE];refine k hv2 F2 M2 N2 rows2 hF2 ?_ (λq q1 q2 _ _ q3=>?_) (by omega) hm2 hw'
   ·rw [eH]; unfold cmS; rw [if_neg (by rw [eE]; omega)]; exact P2
   ·obtain ⟨x1,x2⟩:=hM2 q q1 q2 (by omega);exact ⟨x1.trans (hM1 q q3),x2⟩
  ·have e0:zkx l h r.tm (zal bs r.id).fs=0:=by omega
   try simp only [sS]
   refine ldM (v:=.map (some mb)) ?_ P2.pp;refine ldM (v:=.int .u32 r.id) ?_ hb2;refine ldM (v:=.int .u32 r.tm) ?_ hb2;refine zaa (v:=.agg #[.int .u8 2,.int .u32 r.tm]) (by kernel_rfl) ?_;refine zaa (v:=.agg #[.int .u8 2,.int .u32 r.tm,.slice none 0 0,.slice none 0 0]) (by kernel_rfl) ?_;refine yfh (b:=⟨2,r.tm,[],[]⟩) (hMm.1.trans h2) (h3.mono hF2) ⟨_,_,rfl,sF.nil _ _ _,zbo.nil⟩ h0 h1 (λes' hes'=>?_);have hpn2:=P2.pg;refine λhc=>⟨_,za1 hc,λhw'=>?_⟩
   have := k hv2 F2 _ N2 rows2 hF2 (by
    rw [eH]; unfold cmS; rw [if_pos (by rw [eE,e0])]
    exact ⟨(za3 _ _ hpn2.2.1).trans P2.pp,P.pB,P.mB,⟨es',za0 _ _ _,hes'⟩,hC2.keep (za7.refl _) (λq hq=>za3 _ _ (λe=>by subst e; rcases hq with hq | hq; exact hpn2.2.2.1 hq; exact hpn2.2.2.2.2 hq))⟩) (λq q1 q2 q4 _ q3=>by
     obtain ⟨x1,x2⟩:=hM2 q q1 q2 (by omega);exact ⟨(za3 _ _ q4).trans (x1.trans (hM1 q q3)),x2⟩) (by omega) (hm2.set (hm2.lt (hMm.1.trans h2)) _) hw'
   rw [eE,e0] at this; exact this
 ·rw [decide_eq_false hs];try simp only [sS]
  refine λhc=>⟨_,za1 hc,λhw'=>?_⟩;have eE:cmE l h bs r=140:=by unfold cmE; rw [if_neg hs]
  have := k hv F M1 (b1+1) rows (za7.refl _) (by unfold cmH cmS; rw [if_neg hs,if_neg (by rw [eE]; decide)]; exact P1) (λq q1 _ _ _ q3=>⟨hM1 q q3,q1⟩) (by omega) hm1 hw';rw [eE] at this; exact this
def tkE (l:List Dm) (h:List En) (tk:Int) (r:zaj):Nat:=if r.id≤tk then 140 else zfl l r.lo r.hi h r.es
def tkH (l:List Dm) (h:List En) (tk:Int) (r:zaj):List En:=if r.id≤tk then h else zkg l r.lo r.hi h r.es
def tkT (l:List Dm) (h:List En) (tk:Int) (r:zaj):Int:=if tkE l h tk r=0 then r.id else tk
theorem yml {cs:List Value} {r:zaj} (P:zb8 F M B p g mb hv dv rows l h bs tk) (hB:B≤N) (o:okH l 5000 200 h) (hdl:l.length≤1000) (hr:zql F cs r) (hel:r.es.length≤140737488351232) (heT:∀ e∈r.es,e.1<4294967296)
  (k:∀ hv' F' M' N' rows',za7 F F' -> zb8 F' M' B p g mb hv' dv rows' l (tkH l h tk r) bs (tkT l h tk r) -> pfr M M' N p g mb hv hv' -> N≤N' -> za5 M' N' -> (Hp.mk F' M' N').wf -> K (.int .u16 ((tkE l h tk r:Nat):Int)) ⟨F',M',N'⟩) :
  cF 94 #[.pointer (some ⟨p,0,none⟩),.agg cs.toArray] K E ⟨F,M,N⟩:=by
 refine za4 za8 Tryz.func94 (by kernel_rfl) (t94 _ E _ _) (λhw=>?_);have hm:za5 M N:=hw.m;refine zap (cs:=cs) (λb1 hb1=>?_) rfl;obtain ⟨nv,fv,ep,sv,ev,e,hn,hf,he,_⟩:=hr;have hb:=za0 M b1 (some (.cells 77 cs cs.length));have P1:=P.box hm hb1 (some (.cells 77 cs cs.length));have hm1:=hm.new hb1 (some (.cells 77 cs cs.length));have hM1:∀ q,q<N -> upd M b1 (some (.cells 77 cs cs.length)) q=M q:=λq hq=>za3 _ _ (by omega);subst e;generalize upd M b1 _=M1 at *;obtain ⟨es,h2,h3⟩:=P1.mm;have hpn:=P1.pg;have hpl:=P.lt hm;have hvb:hv.ownBlock≠some b1:=λe=>by have := (hpl b1 (.inr (.inr (.inr e)))).2; omega
 have hbg:b1≠g:=λe=>by have := (hpl g (.inr (.inr (.inl rfl)))).2; omega
 try simp only [sS]
 refine ldM (v:=.int .u32 r.id) ?_ hb;refine ldM (v:=.int .u32 tk) ?_ P1.pp;refine zds (λhle=>?_) (λhle=>?_)
 ·have eE:tkE l h tk r=140:=by unfold tkE; rw [if_pos hle]
  try simp only [sS]
  refine λhc=>⟨_,za1 hc,λhw'=>?_⟩;have := k hv F M1 (b1+1) rows (za7.refl _) (by unfold tkH tkT; rw [if_pos hle,if_neg (by rw [eE]; decide)]; exact P1) (λq q1 _ _ _ q3=>⟨hM1 q q3,q1⟩) (by omega) hm1 hw';rw [eE] at this; exact this
 ·have eE:tkE l h tk r=zfl l r.lo r.hi h r.es:=by unfold tkE; rw [if_neg hle]
  have eH:tkH l h tk r=zkg l r.lo r.hi h r.es:=by unfold tkH; rw [if_neg hle]
  try simp only [sS]
  refine ldM (v:=.pointer (some ⟨g,0,none⟩)) ?_ P1.pp;refine ldM (v:=.int .i64 r.lo) ?_ hb;refine ldM (v:=.int .i64 r.hi) ?_ hb;refine ldM (v:=ev) ?_ hb;refine yer P1.cc (by omega) o hdl he hel heT (λhv2 F2 M2 N2 rows2 hF2 hC2 hM2 hN2 hm2 hw2=>?_);have hMp:=hM2 p hpn.2.2.2.1 hpn.1 (by have := (hpl p (.inl rfl)).2; omega);have hMm:=hM2 mb hpn.2.2.2.2 hpn.2.2.1 (by have := (hpl mb (.inr (.inl rfl))).2; omega);have hMb:=hM2 b1 hvb hbg (by omega);have hb2:=hMb.1.trans hb;have P2:zb8 F2 M2 B p g mb hv2 dv rows2 l (zkg l r.lo r.hi h r.es) bs tk:=⟨hMp.1.trans P1.pp,P.pB,P.mB,⟨es,hMm.1.trans h2,h3.mono hF2⟩,hC2⟩;refine zau (λheq=>?_) (λheq=>?_)
  ·have e0:tkE l h tk r=0:=by rw [eE]; omega
   try simp only [sS]
   refine ldM (v:=.int .u32 r.id) ?_ hb2;refine stM (cs':=[.pointer (some ⟨g,0,none⟩),.map (some mb),.int .u32 r.id]) ?_ P2.pp rfl rfl (List.all_eq_true.1 rfl);rw [zry];have hpn2:=P2.pg;refine λhc=>⟨_,za1 hc,λhw'=>?_⟩;rw [← eE];refine k hv2 F2 _ N2 rows2 hF2 ?_ (λq q1 q2 _ q5 q3=>?_) (by omega) (hm2.set (hm2.lt P2.pp) _) hw'
   ·rw [eH]; unfold tkT; rw [if_pos e0];exact ⟨za0 _ _ _,P.pB,P.mB,⟨es,(za3 _ _ (λe=>hpn.2.1 e.symm)).trans (hMm.1.trans h2),h3.mono hF2⟩,hC2.keep (za7.refl _) (λq hq=>za3 _ _ (λe=>by subst e; rcases hq with hq | hq; exact hpn2.1 hq; exact hpn2.2.2.2.1 hq))⟩
   ·obtain ⟨x1,x2⟩:=hM2 q q1 q2 (by omega);exact ⟨(za3 _ _ q5).trans (x1.trans (hM1 q q3)),x2⟩
  ·have e0:tkE l h tk r≠0:=by rw [eE]; omega
   try simp only [sS]
   rw [zry];refine λhc=>⟨_,za1 hc,λhw'=>?_⟩;rw [← eE];refine k hv2 F2 M2 N2 rows2 hF2 ?_ (λq q1 q2 _ _ q3=>?_) (by omega) hm2 hw'
   ·rw [eH]; unfold tkT; rw [if_neg e0]; exact P2
   ·obtain ⟨x1,x2⟩:=hM2 q q1 q2 (by omega);exact ⟨x1.trans (hM1 q q3),x2⟩
end
theorem ycv {v:Value} {l:List Int} (hm0:∀ q,N≤q -> M q=none) (hv:sR F M 1 v l.length (ic l)) (hl:l.length≤17592186043904)
  (k:∀ v' F' N',(Hp.mk F' M N').wf -> za7 F F' -> N≤N' -> sF F' 1 v' l.length (ic l) -> K v' ⟨F',M,N'⟩):cF 122 #[v] K E ⟨F,M,N⟩:=by
 refine za4 za8 Tryz.func122 (by kernel_rfl) (ye6 _ E _) (λhw=>?_);obtain ⟨a,c,rfl,hc⟩:=hv.form;cases a with
 | none=>
  have h0:l.length=0:=by rcases hv.2 with ⟨a',c',h1,h2⟩ | ⟨b,o,c',cs,h1,_⟩; exact h2; simp at h1
  have hl0:l=[]:=List.eq_nil_of_length_eq_zero h0;refine zaa rfl (zax λhc=>⟨_,za1 hc,λhw'=>k _ F N hw' (za7.refl _) (Nat.le_refl _) ?_⟩);rw [hl0]; exact sF.nil _ _ _
 | some ad=>
  refine zaa rfl (zaq ?_);refine zcx (cs:=[]) (by kernel_rfl) (λb0 hb0=>?_);refine zzw (n:=0) (cs:=[]) (m:=l.length) (news:=ic l) (ya7 (za0 _ _ _) rfl) (hv.new hw.m hb0).read (zs9 _) (by omega) (by simp [maxLen]; omega) (λh=>by cases h) (λ_ b c' hb hmc hcm hc=>?_);have hb':N≤b:=by rcases hb with h | h; omega; simp [Value.ownBlock] at h; omega
  rw [Nat.zero_add] at hmc;refine ⟨⟨upd F b (some (ic l)),M,max (b0+1) (b+1)⟩,znb (M0:=M) hc ?_ (hm0 b hb') (za0 _ _ _),λhw'=>k _ _ _ hw' (za7.upd (hw.f b hb')) (by omega) ?_⟩
  ·intro q c hq
   have hqN:q<N:=by
    rcases Nat.lt_or_ge q N with h | h
    ·exact h
    ·rw [hm0 q h] at hq; cases hq
   exact (za3 _ _ (by omega)).trans ((zm9 _ (by simp [Value.ownBlock]; omega)).trans ((za3 _ _ (by omega)).trans hq))
  ·rw [Nat.zero_add];exact zjz (by simp [ic]) hmc
section
variable {B p g mb:Nat} {hv dv:Value} {rows:List (List Value)} {l:List Dm} {h:List En} {bs:Bts} {tk:Int}
def ppE (l:List Dm) (bs:Bts) (r:zaj):Nat:=if (zal bs r.id).st≠0 then 140 else if zcc l r.fs=false then 1 else 0
def ppS (l:List Dm) (bs:Bts) (r:zaj):Bts:=if ppE l bs r=0 then zhk bs r.id ⟨1,0,r.ns,r.fs⟩ else bs
theorem ymf {cs:List Value} {r:zaj} (P:zb8 F M B p g mb hv dv rows l h bs tk) (hdl:l.length≤1000) (hr:zql F cs r) (h0:0≤r.id) (h1:r.id<4294967296) (hnl:r.ns.length≤17592186043904) (hfl:r.fs.length≤140737488351232)
  (k:∀ F' M' N',za7 F F' -> zb8 F' M' B p g mb hv dv rows l h (ppS l bs r) tk -> (∀ q,q≠mb -> q<N -> M' q=M q) -> N≤N' -> za5 M' N' -> (Hp.mk F' M' N').wf -> K (.int .u16 ((ppE l bs r:Nat):Int)) ⟨F',M',N'⟩) :
  cF 91 #[.pointer (some ⟨p,0,none⟩),.agg cs.toArray] K E ⟨F,M,N⟩:=by
 refine za4 za8 Tryz.func91 (by kernel_rfl) (t91 _ E _ _) (λhw=>?_);have hm:za5 M N:=hw.m;refine zap (cs:=cs) (λb1 hb1=>?_) rfl;obtain ⟨nv,fv,ep,sv,ev,e,hn,hf,he,_⟩:=hr;have hb:=za0 M b1 (some (.cells 77 cs cs.length));have P1:=P.box hm hb1 (some (.cells 77 cs cs.length));have hm1:=hm.new hb1 (some (.cells 77 cs cs.length));have hM1:∀ q,q<N -> upd M b1 (some (.cells 77 cs cs.length)) q=M q:=λq hq=>za3 _ _ (by omega);subst e;generalize upd M b1 _=M1 at *;obtain ⟨es,h2,h3⟩:=P1.mm;have hpl:=P.lt hm;try simp only [sS]
 refine ldM (v:=.map (some mb)) ?_ P1.pp;refine ldM (v:=.int .u32 r.id) ?_ hb;refine zr6 (id:=r.id) h2 h3 (λv hv=>?_);obtain ⟨nv',fv',rfl,_⟩:=hv;refine zaa (v:=.agg #[.int .u8 (zal bs r.id).st,.int .u32 (zal bs r.id).tm]) (by kernel_rfl) ?_;refine zaa (v:=.int .u8 (zal bs r.id).st) (by kernel_rfl) ?_;refine zio (λhg=>?_) (λhg=>?_)
 ·have eE:ppE l bs r=140:=by unfold ppE; rw [if_pos hg]
  try simp only [sS]
  refine λhc=>⟨_,za1 hc,λhw'=>?_⟩;have := k F M1 (b1+1) (za7.refl _) (by unfold ppS; rw [if_neg (by rw [eE]; decide)]; exact P1) (λq _ hq=>hM1 q hq) (by omega) hm1 hw';rw [eE] at this; exact this
 try simp only [sS]
 refine ldM (v:=.pointer (some ⟨g,0,none⟩)) ?_ P1.pp;refine ldM (v:=fv) ?_ hb;refine zvb P1.cc.gg P1.cc.dd (by omega) hf hfl (λN2 hN2 hw2=>?_);cases hfit:zcc l r.fs
 ·have eE:ppE l bs r=1:=by unfold ppE; rw [if_neg hg,if_pos hfit]
  try simp only [sS]
  refine λhc=>⟨_,za1 hc,λhw'=>?_⟩;have := k F M1 N2 (za7.refl _) (by unfold ppS; rw [if_neg (by rw [eE]; decide)]; exact P1) (λq _ hq=>hM1 q hq) (by omega) hw'.m hw';rw [eE] at this; exact this
 have eE:ppE l bs r=0:=by unfold ppE; rw [if_neg hg,if_neg (by rw [hfit]; decide)]
 obtain ⟨f1,f2⟩:=zfw hfit;try simp only [sS]
 refine zaa (v:=.agg #[.int .u8 1,.int .u32 0]) (by kernel_rfl) ?_;refine ldM (v:=nv) ?_ hb;refine ycv hw2.m hn.sR (by omega) (λnv2 F3 N3 hw3 hF3 hN3 hn2=>?_);obtain ⟨a3,c3,e3,_⟩:=hn2.form;refine zaa (v:=.agg #[.int .u8 1,.int .u32 0,nv2,.slice none 0 0]) (by rw [e3]; kernel_rfl) ?_;refine zap (λb3 hb3=>?_);refine stM (cs':=[.int .u8 1,.int .u32 0,nv2,.slice none 0 0]) ?_ (za0 _ _ _) rfl rfl (by rw [e3]; exact List.all_eq_true.1 rfl);rw [zan];obtain ⟨M3,hM3⟩:∃ M3,M3=upd M1 b3 (some (.cells 154 [.int .u8 1,.int .u32 0,nv2,.slice none 0 0] [Value.int .u8 0,Value.int .u32 0,Value.slice none 0 0,Value.slice none 0 0].length)):=⟨_,rfl⟩;rw [← hM3];have hbx:M3 b3=some (.cells 154 [.int .u8 1,.int .u32 0,nv2,.slice none 0 0] 4):=by rw [hM3]; exact za0 _ _ _
 have hM31:∀ q,q<b3 -> M3 q=M1 q:=λq hq=>by rw [hM3]; exact za3 _ _ (by omega)
 have hm3:za5 M3 (b3+1):=by rw [hM3]; exact (show za5 M1 N3 from hw3.m).new hb3 _
 clear hM3;have hb13:b1<b3:=by omega
 refine ldM (v:=fv) ?_ ((hM31 b1 hb13).trans hb);have hf3:=hf.mono hF3;have hlf:zab fv=some (.int .i64 (r.fs.length:Nat)):=by obtain ⟨a,c,e⟩:=hf3.form; rw [e]; rfl
 refine zaa hlf ?_;obtain ⟨frows,hf4,hf5⟩:=hf3
 refine zre (σ:=Nat) (λi=>.int .i64 (i:Nat))
  (λi h'=>∃ F' M' N' fv',h'=⟨F',M',N'⟩∧za7 F3 F'∧b3+1≤N'∧(∀ q,q<b3 -> M' q=M3 q)∧za5 M' N'∧i≤r.fs.length∧M' b3=some (.cells 154 [.int .u8 1,.int .u32 0,nv2,fv'] 4) ∧
   ((i<r.fs.length∧∃ rows',own M' (b3+1) 110 2 fv' i rows'.flatten∧zag (zcl F') 2 rows' (r.fs.take i))∨(i=r.fs.length∧zbo F' fv' r.fs))) (λi=>r.fs.length - i) 0 rfl
  (λhw4=>⟨_,za1 hw4,F3,M3,b3+1,.slice none 0 0,rfl,za7.refl _,Nat.le_refl _,λ_ _=>rfl,hm3,Nat.zero_le _,hbx,by
   by_cases hz:0<r.fs.length
   ·exact .inl ⟨hz,[],own.nil,zag.nil _ _⟩
   ·have e0:r.fs=[]:=List.eq_nil_of_length_eq_zero (by omega);refine .inr ⟨by omega,?_⟩;rw [e0]; exact zbo.nil⟩) (λkk i j h' hI hw4 next=>?_)
 rw [zrj];obtain ⟨F4,M4,N4,fv',rfl,hF4,hN4,hM4,hm4,hi,hbx4,hst⟩:=hI;refine zat (λhlt=>?_) (λhge=>?_)
 ·have i1:i<r.fs.length:=by omega
  rcases hst with ⟨_,rows',ho,hrr⟩ | ⟨hz,_⟩
  rotate_left
  ·omega
  try simp only [sS]
  refine zih (hf4.mono hF4) (hf5.mono λ_ _ h=>h.mono hF4) (by decide) i1 (λq rw _ hR hrl hr1=>?_);obtain ⟨kv,hre,hkv,hkl⟩:=hR;subst hre;refine zap (λb4 hb4=>?_);refine stM (cs':=[kv,.int .i64 r.fs[i].2]) ?_ (za0 _ _ _) rfl rfl hr1;rw [zan];obtain ⟨M5,hM5⟩:∃ M5,M5=upd M4 b4 (some (.cells 110 [kv,.int .i64 r.fs[i].2] [Value.slice none 0 0,Value.int .i64 0].length)):=⟨_,rfl⟩;rw [← hM5];have hb5:M5 b4=some (.cells 110 [kv,.int .i64 r.fs[i].2] 2):=by rw [hM5]; exact za0 _ _ _
  have hM54:∀ q,q<N4 -> M5 q=M4 q:=λq hq=>by rw [hM5]; exact za3 _ _ (by omega)
  have hm5:za5 M5 (b4+1):=by rw [hM5]; exact hm4.new hb4 _
  have ho5:own M5 (b3+1) 110 2 fv' i rows'.flatten:=ho.keep (λq hq=>hM54 q (ho.lt hm4 q hq)) (Nat.le_refl _);have hbx5:=(hM54 b3 (by omega)).trans hbx4;clear hM5;try simp only [sS]
  refine ldM (v:=fv') ?_ hbx5;try simp only [sS]
  refine ldM (v:=kv) ?_ hb5;try simp only [sS]
  refine ldM (v:=.int .i64 r.fs[i].2) ?_ hb5;have hki:=zi0 (f2 r.fs[i] (List.getElem_mem i1));refine zwy hm5 hkv.sR (by omega) (λkv' F6 N6 hw6 hF6 hN6 hkv'=>?_);refine ⟨zaz (zb4 hb5) rfl,zaz (zb4 hbx5) rfl,?_⟩;have h1f:zcl F6 [kv',.int .i64 r.fs[i].2] r.fs[i]:=⟨kv',rfl,hkv',hkl⟩;obtain ⟨ak,ck,hkf,hck⟩:=hkv'.form;refine zaa (v:=.agg #[kv',.int .i64 r.fs[i].2]) (by rw [hkf]; kernel_rfl) ?_;refine zcx (cs:=[kv',.int .i64 r.fs[i].2]) (by rw [hkf]; kernel_rfl) (λb6 hb6=>?_);have hm6:za5 M5 N6:=hw6.m;refine ⟨zaz (zb4 ((za3 _ _ (by omega)).trans hbx5)) rfl,?_⟩;have ho6:=ho5.box hm6 hb6 (some (.cells 110 [kv',.int .i64 r.fs[i].2] [kv',Value.int .i64 r.fs[i].2].length));refine ho6.app (m:=1) (news:=[kv',.int .i64 r.fs[i].2]) (hm6.new hb6 _) (by omega) ⟨rfl,.inr ⟨b6,0,1,_,rfl,Nat.le_refl _,.inr ⟨_,_,za0 _ _ _⟩,rfl⟩⟩ h1f.one.2 (by omega) (by unfold maxLen; omega) (λv7 M7 N7 g1 g2 g3 g4=>?_);have hvb3:fv'.ownBlock≠some b3:=λe=>by have := (ho.ge b3 e).1; omega
  have hb37:=g2 b3 hvb3 (by omega);have hbx7:M7 b3=some (.cells 154 [.int .u8 1,.int .u32 0,nv2,fv'] 4):=hb37.1.trans ((za3 _ _ (by omega)).trans hbx5);obtain ⟨a7,c7,e7,_⟩:=g1.form;try simp only [sS]
  refine stM (cs':=[.int .u8 1,.int .u32 0,nv2,v7]) ?_ hbx7 (by rw [e7]; rfl) (by rw [e7]; rfl) (by rw [e7]; exact List.all_eq_true.1 rfl);refine zas (by omega) ?_;have hfl7:(rows'.flatten++[kv',.int .i64 r.fs[i].2])=(rows'++[[kv',.int .i64 r.fs[i].2]]).flatten:=by simp
  have ho8:own (upd M7 b3 (some (.cells 154 [.int .u8 1,.int .u32 0,nv2,v7] 4))) (b3+1) 110 2 v7 (i+1) (rows'++[[kv',.int .i64 r.fs[i].2]]).flatten:=by
   rw [← hfl7]; exact g1.keep (λq hq=>za3 _ _ (λe=>by have := (g1.ge q hq).1; omega)) (Nat.le_refl _)
  have hrr8:zag (zcl F6) 2 (rows'++[[kv',.int .i64 r.fs[i].2]]) (r.fs.take (i+1)):=by
   rw [List.take_add_one,List.getElem?_eq_getElem i1,Option.toList_some];exact zca (hrr.mono λ_ _ h=>h.mono hF6) h1f.one h1f
  have hM8:∀ q,q<b3 -> upd M7 b3 (some (.cells 154 [.int .u8 1,.int .u32 0,nv2,v7] 4)) q=M3 q:=λq hq=>by
   have hq2:fv'.ownBlock≠some q:=λe=>by have := (ho.ge q e).1; omega
   exact (za3 _ _ (by omega)).trans ((g2 q hq2 (by omega)).1.trans ((za3 _ _ (by omega)).trans ((hM54 q (by omega)).trans (hM4 q hq))))
  have hm8:=g4.set (g4.lt hbx7) (some (.cells 154 [.int .u8 1,.int .u32 0,nv2,v7] 4));have hbx8:=za0 M7 b3 (some (.cells 154 [.int .u8 1,.int .u32 0,nv2,v7] 4));generalize upd M7 b3 _=M8 at *
  by_cases hlast:i+1<r.fs.length
  ·exact next (i+1) _ _ (by omega) (λhw8=>⟨_,za1 hw8,F6,M8,N7,v7,rfl,hF4.trans hF6,by omega,hM8,hm8,by omega,hbx8,.inl ⟨hlast,_,ho8,hrr8⟩⟩)
  ·refine next (i+1) _ _ (by omega) (λhw8=>⟨⟨frzP F6 M8 (λq=>v7.ownBlock=some q),zh8 M8 (λq=>¬ v7.ownBlock=some q),N7⟩,zog hw8,_,_,N7,v7,rfl,(hF4.trans hF6).trans (zc5 hw8),by omega,λq hq=>?_,zei hm8,by omega,?_,.inr ⟨by omega,?_⟩⟩)
   ·exact (zch (λe=>by have := (ho8.ge q e).1; omega)).trans (hM8 q hq)
   ·exact (zch (λe=>by have := (ho8.ge b3 e).1; omega)).trans hbx8
   ·have e9:r.fs.take (i+1)=r.fs:=List.take_of_length_le (by omega);rw [e9] at hrr8;refine yk9 (M:=M8) (N:=b3+1) (N':=N7) ?_ hrr8 hw8 (λq hq=>hq);rw [show r.fs.length=i+1 by omega]; exact ho8
 ·rcases hst with ⟨hz,_⟩ | ⟨_,hfv'⟩
  ·omega
  have P4:zb8 F4 M4 B p g mb hv dv rows l h bs tk:=P1.keep (hF3.trans hF4) (λq hq=>(hM4 q (by have := (hpl q hq).2; omega)).trans (hM31 q (by have := (hpl q hq).2; omega)));have hb4:=((hM4 b1 hb13).trans (hM31 b1 hb13)).trans hb;obtain ⟨es4,h24,h34⟩:=P4.mm;have hpn:=P4.pg;try simp only [sS]
  refine ldM (v:=.map (some mb)) ?_ P4.pp;refine ldM (v:=.int .u32 r.id) ?_ hb4;refine zb6 (vs:=[.int .u8 1,.int .u32 0,nv2,fv']) ?_ hbx4;refine yfh (b:=⟨1,0,r.ns,r.fs⟩) h24 h34 ⟨nv2,fv',rfl,hn2.mono hF4,hfv'⟩ h0 h1 (λes' hes'=>?_);refine λhc=>⟨_,za1 hc,λhw'=>?_⟩
  have := k F4 _ N4 (hF3.trans hF4) (by
   unfold ppS; rw [if_pos eE];exact ⟨(za3 _ _ hpn.2.1).trans P4.pp,P.pB,P.mB,⟨es',za0 _ _ _,hes'⟩,P4.cc.keep (za7.refl _) (λq hq=>za3 _ _ (λe=>by subst e; rcases hq with hq | hq; exact hpn.2.2.1 hq; exact hpn.2.2.2.2 hq))⟩) (λq hq hqN=>(za3 _ _ hq).trans (((hM4 q (by omega)).trans (hM31 q (by omega))).trans (hM1 q hqN))) (by omega) (hm4.set (hm4.lt h24) _) hw'
  rw [eE] at this; exact this
end
section
theorem yp4 {B:Nat} {v d:Value} {l:List Int} {p:Int -> Bool} (hv:own M B 38 1 v l.length (ick .u32 l)) (hl:l.length≤1000000000)
  (hd:∀ {K:zae} (N1:Nat) (x:Int),N≤N1 -> (∀ N',N1≤N' -> (Hp.mk F M N').wf -> K (.bool (!p x)) ⟨F,M,N'⟩) -> zbs Tryz.prog d #[.int .u32 x] K E ⟨F,M,N1⟩)
  (k1:∀ i (hi:i<l.length),(∀ x∈l.take i,p x=true) -> p l[i]=false -> ∀ N',N≤N' -> (Hp.mk F M N').wf -> K (.int .i64 (i:Nat)) ⟨F,M,N'⟩)
  (k2:(∀ x∈l,p x=true) -> ∀ N',N≤N' -> (Hp.mk F M N').wf -> K (.int .i64 (-1)) ⟨F,M,N'⟩) :
  cF 108 #[v,d] K E ⟨F,M,N⟩:=by
 refine za4 za8 Tryz.func108 (by kernel_rfl) (zny _ E _ _) (λhw=>?_);have hlv:zab v=some (.int .i64 (l.length:Nat)):=by obtain ⟨a,c,e,_⟩:=hv.form; rw [e]; rfl
 refine zaa hlv ?_
 refine zwo (σ:=Nat) (λi=>.int .i64 (i:Nat)) (λi h=>∃ N',h=⟨F,M,N'⟩∧N≤N'∧i≤l.length∧∀ x∈l.take i,p x=true) (λi=>l.length - i) 0 rfl
  (λhw1=>⟨_,za1 hw1,N,rfl,Nat.le_refl _,Nat.zero_le _,by simp⟩) (λkk i j h1 hI hw1 next=>?_)
 rw [zwu];obtain ⟨N1,rfl,hN1,hi,he⟩:=hI;refine zat (λhlt=>?_) (λhge=>?_)
 ·have i1:i<l.length:=by omega
  try simp only [sS]
  refine zn6 hv i1 λ_=>hd _ _ hN1 (λN2 hN2 hw2=>?_);cases hp:p l[i]
  ·refine zax ?_;exact λhc=>⟨_,za1 hc,λhw'=>k1 i i1 he hp _ (by omega) hw'⟩
  ·refine zaq ?_;refine zas (by omega) ?_;refine next (i+1) _ _ (by omega) (λhw3=>⟨_,za1 hw3,N2,rfl,by omega,i1,λx hx=>?_⟩);rw [List.take_add_one,List.getElem?_eq_getElem i1,Option.toList_some] at hx
   rcases List.mem_append.1 hx with hx | hx
   ·exact he x hx
   ·rw [List.mem_singleton.1 hx]; exact hp
 ·try simp only [sS]
  refine λhc=>⟨_,za1 hc,λhw'=>k2 (λx hx=>he x ?_) _ hN1 hw'⟩;rw [List.take_of_length_le (by omega)]; exact hx
theorem yk6 {k:IntKind} (l:List Int) (i:Nat):(ick k l).take i=ick k (l.take i):=by unfold ick; rw [List.map_take]
theorem yoe {B:Nat} {v d:Value} {l:List Int} {p:Int -> Bool} (hv:own M B 38 1 v l.length (ick .u32 l)) (hl:l.length≤1000000000)
  (hd:∀ {K:zae} (M1:Nat -> Option zak) (N1:Nat) (x:Int),N≤N1 -> (∀ q,v.ownBlock≠some q -> q<N -> M1 q=M q) -> za5 M1 N1 -> (∀ N',N1≤N' -> (Hp.mk F M1 N').wf -> K (.bool (!p x)) ⟨F,M1,N'⟩) -> zbs Tryz.prog d #[.int .u32 x] K E ⟨F,M1,N1⟩)
  (k:∀ v' M' N',own M' B 38 1 v' (l.filter p).length (ick .u32 (l.filter p)) -> (∀ x,v.ownBlock≠some x -> x<N -> M' x=M x∧v'.ownBlock≠some x) -> N≤N' -> za5 M' N' -> (Hp.mk F M' N').wf -> ∃ h',(Hp.mk F M' N').wk h'∧(h'.wf -> K v' h')) :
  cF 54 #[v,d] K E ⟨F,M,N⟩:=by
 refine za4 za8 Tryz.func54 (by kernel_rfl) (t54 _ E _ _) (λhw=>?_);have hm:za5 M N:=hw.m;have hlv:zab v=some (.int .i64 (l.length:Nat)):=by obtain ⟨a,c,e,_⟩:=hv.form; rw [e]; rfl
 refine yp4 hv hl (λN1 x hN kk=>hd M N1 x hN (λ_ _ _=>rfl) (hm.up hN) kk) (λi hi he hpi N1 hN1 hw1=>?_) (λhe N1 hN1 hw1=>?_)
 rotate_left
 ·refine zeg rfl ?_;try simp only [sS]
  have e:l.filter p=l:=List.filter_eq_self.2 he;rw [e] at k;exact λhc=>k v M N1 hv (λx hx _=>⟨rfl,hx⟩) hN1 (hm.up hN1) hc
 refine zbj (by omega) ?_;try simp only [sS]
 refine zas (by omega) ?_
 refine zrf (σ:=Nat×Nat) (λs=>.int .i64 (s.1:Nat)) (λs=>.int .i64 (s.2:Nat))
  (λs h=>∃ M' N' l',h=⟨F,M',N'⟩∧N≤N'∧own M' B 38 1 v l'.length (ick .u32 l')∧l'.length=l.length∧s.1<s.2∧s.2≤l.length∧l'.take s.1=(l.take s.2).filter p∧l'.drop s.2=l.drop s.2∧(∀ x,v.ownBlock≠some x -> x<N -> M' x=M x)∧za5 M' N') (λs=>l.length - s.2) (i,i+1) rfl rfl
  (λhw2=>⟨_,za1 hw2,M,N1,l,rfl,hN1,hv,rfl,Nat.lt_succ_self _,hi,?_,rfl,λ_ _ _=>rfl,hm.up hN1⟩) (λkk s j h1 hI hw2 next=>?_)
 ·simp only;rw [List.take_add_one,List.getElem?_eq_getElem hi,Option.toList_some,List.filter_append,List.filter_eq_self.2 he]
  simp [hpi]
 rw [zrk];obtain ⟨M2,N2,l2,rfl,hN2,ho,hl2,hs,hs2,ht,hdr,hM2,hm2⟩:=hI;refine zaa hlv ?_;refine zat (λhlt=>?_) (λhge=>?_)
 ·have j1:s.2<l.length:=by omega
  have j2:s.2<l2.length:=by omega
  have ej:l2[s.2]=l[s.2]:=by
   have h:=congrArg (λx:List Int=>x[0]?) hdr;simp only [List.getElem?_drop,Nat.add_zero,List.getElem?_eq_getElem j1,List.getElem?_eq_getElem j2] at h;exact Option.some.inj h
  have hdr':l2.drop (s.2+1)=l.drop (s.2+1):=by rw [← List.drop_drop,← List.drop_drop,hdr]
  try simp only [sS]
  refine zn6 ho j2 λ_=>?_;rw [ej];refine hd M2 N2 _ hN2 hM2 hm2 (λN3 hN3 hw3=>?_);cases hp:p l[s.2]
  ·rw [Bool.not_false];try simp only [sS]
   rw [zj7];refine zas (by omega) ?_;refine next (s.1,s.2+1) _ _ (by simp only; omega) (λhw4=>⟨_,za1 hw4,M2,N3,l2,rfl,by omega,ho,hl2,by simp only; omega,j1,?_,hdr',hM2,hm2.up hN3⟩);simp only;rw [ht,List.take_add_one,List.getElem?_eq_getElem j1,Option.toList_some,List.filter_append]
   simp [hp]
  ·rw [Bool.not_true];try simp only [sS]
   have i1:s.1<l2.length:=by omega
   refine ya1 ho i1 λ_ M4 g1 g3 g4=>?_;refine zas (by omega) ?_;rw [zj7];refine zas (by omega) ?_;refine next (s.1+1,s.2+1) _ _ (by simp only; omega) (λhw4=>⟨_,za1 hw4,M4,N3,_,rfl,by omega,g1,by rw [List.length_set]; exact hl2,by simp only; omega,j1,?_,?_,λx hx hxN=>(g3 x hx).trans (hM2 x hx hxN),g4 _ (hm2.up hN3)⟩)
   ·simp only;rw [zp0 _ _ _ i1,ht,List.take_add_one,List.getElem?_eq_getElem j1,Option.toList_some,List.filter_append]
    simp [hp]
   ·simp only;rw [List.drop_set_of_lt (by omega)];exact hdr'
 ·try simp only [sS]
  have es:s.2=l.length:=by omega
  rw [es,List.take_length] at ht;have i1:s.1<l.length:=by omega
  have hn:(l.filter p).length=s.1:=by rw [← ht,List.length_take]; omega
  rcases ho.2 with ⟨hv0,h0⟩ | ⟨b,c,rest,hvf,g1,g2,g3,g4⟩
  ·omega
  rw [hvf,hl2];refine zfj s.1 (by omega) (by omega) ?_;rw [if_neg (by omega)];refine .inr ⟨b,0+s.1*1,l.length - s.1,c - s.1,_,_,_,rfl,by omega,g4,by exact List.all_eq_true.1 rfl,by rw [List.length_append,zl6,hl2]; omega,?_⟩;refine zhj s.1 (by omega) ?_
  obtain ⟨Z,hcs⟩:∃ Z,zb3 (ick .u32 l2++rest) (0+s.1*1) (List.replicate (l.length - s.1) [Value.int .u32 0]).flatten=ick .u32 (l2.take s.1)++Z:=⟨_,by
   unfold zb3;rw [Nat.zero_add,Nat.mul_one,List.take_append_of_le_length (by rw [zl6]; omega),yk6,List.append_assoc]⟩
  refine λhc=>k _ _ N2 ⟨by rw [zl6,Nat.mul_one],.inr ⟨b,c,Z,by rw [hn],by omega,g2,g3,?_⟩⟩ (λx hx hxN=>⟨?_,λe=>hx (by rw [hvf]; exact e)⟩) hN2 (hm2.set (hm2.lt g4) _) hc
  ·rw [← ht,← hcs]; exact za0 _ _ _
  ·have hxb:x≠b:=λe=>hx (by rw [hvf,e]; rfl);exact (za3 _ _ hxb).trans (hM2 x hx hxN)
end
theorem ynw {mb:Nat} (k:∀ bm F' N',(Hp.mk F' M N').wf -> za7 F F' -> N≤N' -> F' bm=some [.map (some mb)] -> K (.func (.func 111) #[] #[.pointer (some ⟨bm,0,none⟩)]) ⟨F',M,N'⟩) :
  cF 56 #[.map (some mb)] K E ⟨F,M,N⟩:=by
 refine za4 za8 Tryz.func56 (by kernel_rfl) (t56 _ E _) (λhw=>?_);have hm:za5 M N:=hw.m;refine zap (cs:=[.map (some mb)]) (λb1 hb1=>?_);exact λhc=>⟨_,zdw hm (λq hq=>za3 _ _ (by omega)) hc,λhw'=>k b1 _ _ hw' (zb9 hc) (by omega) (zhq (by omega) (za0 _ _ _))⟩
section
variable {B p g mb:Nat} {hv dv:Value} {rows:List (List Value)} {l:List Dm} {h:List En} {bs:Bts} {tk:Int}
theorem zfn.mem {es:Array MapEntry} (hd:zfn F es bs) (x:Int):(∃ e∈es.toList,e.key=.int .u32 x)↔zo5 bs x=true:=by
 have h1:(∃ e∈es.toList,e.key=.int .u32 x)↔Value.int .u32 x∈es.toList.map (·.key):=by rw [List.mem_map]
 rw [h1,hd.keys,List.mem_map,zff]
 constructor
 ·rintro ⟨y,hy,e⟩; exact ⟨y,hy,by simpa using e⟩
 ·rintro ⟨y,hy,e⟩; exact ⟨y,hy,by rw [e]⟩
def zq2 (bs:Bts) (x:Int):Bool:=decide ((zal bs x).st=1)
def zyv (bs:Bts) (ws:List Int):Prop:=zqq ws∧∀ x,x∈ws↔zo5 bs x=true∧zq2 bs x=true
theorem yd6 (hE:E [] zcu) (P:zb8 F M B p g mb hv dv rows l h bs tk) (h12:bs.length≤12)
  (k:∀ v' (ws:List Int) F' N',(Hp.mk F' M N').wf -> za7 F F' -> N≤N' -> zyv bs ws -> sF F' 1 v' ws.length (ick .u32 ws) -> K v' ⟨F',M,N'⟩) :
  cF 21 #[.pointer (some ⟨p,0,none⟩)] K E ⟨F,M,N⟩:=by
 refine za4 za8 Tryz.func21 (by kernel_rfl) (t21 _ E _) (λhw=>?_);have hm:za5 M N:=hw.m;refine zap (cs:=[.pointer (some ⟨p,0,none⟩)]) (λb1 hb1=>?_);generalize hM1e:upd M b1 _=M1;have hb:∃ e,M1 b1=some (.cells e [.pointer (some ⟨p,0,none⟩)] 1):=⟨_,by rw [← hM1e]; exact za0 _ _ _⟩;have P1:zb8 F M1 B p g mb hv dv rows l h bs tk:=by rw [← hM1e]; exact P.box hm hb1 _
 have hm1:za5 M1 (b1+1):=by rw [← hM1e]; exact hm.new hb1 _
 have hM1:∀ q,q<N -> M1 q=M q:=λq hq=>by rw [← hM1e]; exact za3 _ _ (by omega)
 clear hM1e;obtain ⟨ty,hb⟩:=hb;refine ldM (v:=.pointer (some ⟨p,0,none⟩)) ?_ hb;try simp only [sS]
 refine ldM (v:=.map (some mb)) ?_ P1.pp;refine ynw (λbm F2 N2 hw2 hF2 hN2 hbm=>?_);obtain ⟨es,h2,h3⟩:=P1.mm;refine yfx hE hbm h2 (h3.k (by omega)) (by rw [h3.len]; exact h12) (λv3 l3 M3 N3 hr3 hmem3 ho3 hM3 hN3 hm3 hw3=>?_);have hpl:=P1.lt hm1;have P3:zb8 F2 M3 B p g mb hv dv rows l h bs tk:=P1.keep hF2 (λq hq=>hM3 q (by have := (hpl q hq).2; omega))
 have hlen3:l3.length≤1000000:=by
  have n3:l3.Nodup:=hr3.imp (λ{x y} h=>by omega)
  have := zob (b:=bs.map (·.1)) n3 (λx hx=>by
   obtain ⟨y,hy,e⟩:=zff.1 ((h3.mem x).1 ((hmem3 x).1 hx));exact List.mem_map.2 ⟨y,hy,e⟩)
  rw [List.length_map] at this; omega
 have hb3:=(hM3 b1 (by omega)).trans hb;have hvge:∀ q,v3.ownBlock=some q -> N2≤q:=λq e=>(ho3.ge q e).1;refine yoe (p:=zq2 bs) ho3 (by omega) (λ{K'} M4 N4 x hN4 hM4 hm4 kk=>?_) (λv5 M5 N5 ho5 hM5 hN5 hm5 hw5=>⟨_,za1 hw5,λhw6=>?_⟩)
 ·refine za4 za8 Tryz.func57 (by kernel_rfl) (t57 _ E _ _) (λhw=>?_);have hb4:=(hM4 b1 (λe=>by have := hvge b1 e; omega) (by omega)).trans hb3;refine ldM (v:=.pointer (some ⟨p,0,none⟩)) ?_ hb4;have P4:zb8 F2 M4 B p g mb hv dv rows l h bs tk:=P3.keep (za7.refl _) (λq hq=>hM4 q (λe=>by have := hvge q e; have := (hpl q hq).2; omega) (by have := (hpl q hq).2; omega));refine ycp P4 (λhw7=>?_);try simp only [sS]
  exact λhc=>⟨_,za1 hc,λhw8=>kk N4 (Nat.le_refl _) hw8⟩
 ·have hX:∀ q,q<N -> M5 q=M q:=λq hq=>((hM5 q (λe=>by have := hvge q e; omega) (by omega)).1).trans ((hM3 q (by omega)).trans (hM1 q hq));refine λhc=>⟨_,zdw hm hX hc,λhw'=>k v5 _ _ _ hw' (hF2.trans (zb9 hc)) (by omega) ⟨hr3.filter _,λx=>?_⟩ (ho5.rd.frz hc (λb e=>.inl (by have := (ho5.ge b e).1; omega)))⟩;rw [List.mem_filter,hmem3,h3.mem]
theorem yl8 {id:Int} (P:zb8 F M B p g mb hv dv rows l h bs tk) (hl:(zal bs id).ns.length≤17592186043904) (k:∀ v' F' N',(Hp.mk F' M N').wf -> za7 F F' -> N≤N' -> sF F' 1 v' (zal bs id).ns.length (ic (zal bs id).ns) -> K v' ⟨F',M,N'⟩) :
  cF 79 #[.pointer (some ⟨p,0,none⟩),.int .u32 id] K E ⟨F,M,N⟩:=by
 refine za4 za8 Tryz.func79 (by kernel_rfl) (t79 _ E _ _) (λhw=>?_);have hm:za5 M N:=hw.m;obtain ⟨es,h1,h2⟩:=P.mm;try simp only [sS]
 refine ldM (v:=.map (some mb)) ?_ P.pp;refine zr6 (id:=id) h1 h2 (λv hv=>?_);obtain ⟨nv,fv,rfl,hn,_⟩:=hv;refine zaa (v:=nv) (by kernel_rfl) ?_;refine ycv hm hn.sR (by omega) (λv2 F2 N2 hw2 hF2 hN2 h3=>?_);exact λhc=>⟨_,za1 hc,λhw'=>k v2 F2 N2 hw' hF2 hN2 h3⟩
def apE (l:List Dm) (h:List En) (bs:Bts) (tk:Int) (r:zaj):Nat:=if r.kind=1 then ppE l bs r else if r.kind=2 then cmE l h bs r else if r.kind=3 then abE bs r else if r.kind=7 then tkE l h tk r else 1
def apH (l:List Dm) (h:List En) (bs:Bts) (tk:Int) (r:zaj):List En:=if r.kind=2 then cmH l h bs r else if r.kind=7 then tkH l h tk r else h
def apS (l:List Dm) (h:List En) (bs:Bts) (r:zaj):Bts:=if r.kind=1 then ppS l bs r else if r.kind=2 then cmS l h bs r else if r.kind=3 then abS bs r else bs
def apT (l:List Dm) (h:List En) (tk:Int) (r:zaj):Int:=if r.kind=7 then tkT l h tk r else tk
structure zaj.ok (r:zaj):Prop where
 i0:0≤r.id∧r.id<4294967296
 t0:0≤r.tm
 nl:r.ns.length≤17592186043904
 fl:r.fs.length≤140737488351232
 el:r.es.length≤140737488351232
 eT:∀ e∈r.es,e.1<4294967296
theorem zsz {cs:List Value} {r:zaj} (P:zb8 F M B p g mb hv dv rows l h bs tk) (hB:B≤N) (o:okH l 5000 200 h) (hdl:l.length≤1000) (hr:zql F cs r) (ok:r.ok) (hfb:(zal bs r.id).fs.length≤140737488351232)
  (k:∀ hv' F' M' N' rows',za7 F F' -> zb8 F' M' B p g mb hv' dv rows' l (apH l h bs tk r) (apS l h bs r) (apT l h tk r) -> pfr M M' N p g mb hv hv' -> N≤N' -> za5 M' N' -> (Hp.mk F' M' N').wf -> K (.int .u16 ((apE l h bs tk r:Nat):Int)) ⟨F',M',N'⟩) :
  cF 40 #[.pointer (some ⟨p,0,none⟩),.agg cs.toArray] K E ⟨F,M,N⟩:=by
 refine za4 za8 Tryz.func40 (by kernel_rfl) (t40 _ E _ _) (λhw=>?_);have hm:za5 M N:=hw.m;have hr0:=hr;refine zap (cs:=cs) (λb1 hb1=>?_) rfl;obtain ⟨nv,fv,ep,sv,ev,e,_⟩:=hr;have hb:=za0 M b1 (some (.cells 77 cs cs.length));have P1:=P.box hm hb1 (some (.cells 77 cs cs.length));have hm1:=hm.new hb1 (some (.cells 77 cs cs.length));have hM1:∀ q,q<N -> upd M b1 (some (.cells 77 cs cs.length)) q=M q:=λq hq=>za3 _ _ (by omega);generalize upd M b1 _=M1 at *;have hb':=hb;subst e;have trp:∀ {M':Nat -> Option zak} {hv':Value},pfr M1 M' (b1+1) p g mb hv hv' -> pfr M M' N p g mb hv hv':=λf q q1 q2 q3 q4 q5=>⟨((f q q1 q2 q3 q4 (by omega)).1).trans (hM1 q q5),(f q q1 q2 q3 q4 (by omega)).2⟩;have trq:∀ {M':Nat -> Option zak},(∀ q,q≠mb -> q<b1+1 -> M' q=M1 q) -> pfr M M' N p g mb hv hv:=λf q q1 _ q3 _ q5=>⟨(f q q3 (by omega)).trans (hM1 q q5),q1⟩;try simp only [sS]
 refine ldM (v:=.int .u8 r.kind) ?_ hb;refine zau (λh1=>?_) (λh1=>?_)
 ·have eE:apE l h bs tk r=ppE l bs r:=by unfold apE; rw [if_pos h1]
  have eS:apS l h bs r=ppS l bs r:=by unfold apS; rw [if_pos h1]
  have eH:apH l h bs tk r=h:=by unfold apH; rw [if_neg (by omega),if_neg (by omega)]
  have eT:apT l h tk r=tk:=by unfold apT; rw [if_neg (by omega)]
  rw [eE,eS,eH,eT] at k;try simp only [sS]
  refine zb6 ?_ hb;refine ymf P1 hdl hr0 ok.i0.1 ok.i0.2 ok.nl ok.fl (λF2 M2 N2 hF2 P2 hM2 hN2 hm2 hw2=>?_);exact λhc=>⟨_,za1 hc,λhw'=>k hv F2 M2 N2 rows hF2 P2 (trq hM2) (by omega) hm2 hw'⟩
 try simp only [sS]
 refine zau (λh2=>?_) (λh2=>?_)
 ·have eE:apE l h bs tk r=cmE l h bs r:=by unfold apE; rw [if_neg h1,if_pos h2]
  have eS:apS l h bs r=cmS l h bs r:=by unfold apS; rw [if_neg h1,if_pos h2]
  have eH:apH l h bs tk r=cmH l h bs r:=by unfold apH; rw [if_pos h2]
  have eT:apT l h tk r=tk:=by unfold apT; rw [if_neg (by omega)]
  rw [eE,eS,eH,eT] at k;try simp only [sS]
  refine zb6 ?_ hb;refine yhi P1 (by omega) hdl o.le hr0 ok.i0.1 ok.i0.2 ok.t0 hfb (λhv2 F2 M2 N2 rows2 hF2 P2 hM2 hN2 hm2 hw2=>?_);exact λhc=>⟨_,za1 hc,λhw'=>k hv2 F2 M2 N2 rows2 hF2 P2 (trp hM2) (by omega) hm2 hw'⟩
 try simp only [sS]
 refine zau (λh3=>?_) (λh3=>?_)
 ·have eE:apE l h bs tk r=abE bs r:=by unfold apE; rw [if_neg h1,if_neg h2,if_pos h3]
  have eS:apS l h bs r=abS bs r:=by unfold apS; rw [if_neg h1,if_neg h2,if_pos h3]
  have eH:apH l h bs tk r=h:=by unfold apH; rw [if_neg h2,if_neg (by omega)]
  have eT:apT l h tk r=tk:=by unfold apT; rw [if_neg (by omega)]
  rw [eE,eS,eH,eT] at k;try simp only [sS]
  refine zb6 ?_ hb;refine yil P1 hr0 ok.i0.1 ok.i0.2 (λM2 N2 P2 hM2 hN2 hm2 hw2=>?_);exact λhc=>⟨_,za1 hc,λhw'=>k hv F M2 N2 rows (za7.refl _) P2 (trq hM2) (by omega) hm2 hw'⟩
 try simp only [sS]
 refine zau (λh4=>?_) (λh4=>?_)
 ·have eE:apE l h bs tk r=tkE l h tk r:=by unfold apE; rw [if_neg h1,if_neg h2,if_neg h3,if_pos h4]
  have eS:apS l h bs r=bs:=by unfold apS; rw [if_neg h1,if_neg h2,if_neg h3]
  have eH:apH l h bs tk r=tkH l h tk r:=by unfold apH; rw [if_neg h2,if_pos h4]
  have eT:apT l h tk r=tkT l h tk r:=by unfold apT; rw [if_pos h4]
  rw [eE,eS,eH,eT] at k;try simp only [sS]
  refine zb6 ?_ hb;refine yml P1 (by omega) o hdl hr0 ok.el ok.eT (λhv2 F2 M2 N2 rows2 hF2 P2 hM2 hN2 hm2 hw2=>?_);exact λhc=>⟨_,za1 hc,λhw'=>k hv2 F2 M2 N2 rows2 hF2 P2 (trp hM2) (by omega) hm2 hw'⟩
 ·have eE:apE l h bs tk r=1:=by unfold apE; rw [if_neg h1,if_neg h2,if_neg h3,if_neg h4]
  have eS:apS l h bs r=bs:=by unfold apS; rw [if_neg h1,if_neg h2,if_neg h3]
  have eH:apH l h bs tk r=h:=by unfold apH; rw [if_neg h2,if_neg h4]
  have eT:apT l h tk r=tk:=by unfold apT; rw [if_neg h4]
  rw [eE,eS,eH,eT] at k;try simp only [sS]
  exact λhc=>⟨_,za1 hc,λhw'=>k hv F M1 (b1+1) rows (za7.refl _) P1 (λq q1 _ _ _ q5=>⟨hM1 q q5,q1⟩) (by omega) hm1 hw'⟩
end
theorem zef {a b:Nat} {e1 e2:TypeId} {c1 c2:List Value} {t1 t2:Nat} (h1:M a=some (.cells e1 c1 t1)) (h2:M b=some (.cells e2 c2 t2)) (hne:e1≠e2):a≠b:=λe=>by
 subst e;rw [h1] at h2;simp only [Option.some.injEq,zak.cells.injEq] at h2;exact hne h2.1
structure zao (F:Nat -> Option (List Value)) (M:Nat -> Option zak) (B nb lg pd:Nat) (v:Value) (bs:List Int) (lasts room:Int) (p g mb:Nat) (hv dv:Value) (rows:List (List Value)) (l:List Dm) (h:List En) (bt:Bts) (tk me:Int) (ov:Value):Prop where
 nn:M nb=some (.cells 126 [.pointer (some ⟨lg,0,none⟩),.pointer (some ⟨p,0,none⟩),.int .i64 me,ov] 4)
 ll:M lg=some (.cells 189 [.pointer (some ⟨pd,0,none⟩)] 1)
 dk:zc2 M B pd v bs lasts room (-1)
 pt:zb8 F M B p g mb hv dv rows l h bt tk
def nft (nb lg pd p g mb:Nat) (v hv:Value) (q:Nat):Prop:=q=nb∨q=lg∨q=pd∨v.ownBlock=some q∨(q=p∨q=mb∨q=g∨hv.ownBlock=some q)
section
variable {B nb lg pd:Nat} {v:Value} {bs:List Int} {lasts room:Int} {p g mb:Nat} {hv dv:Value} {rows:List (List Value)} {l:List Dm} {h:List En} {bt:Bts} {tk me:Int} {ov:Value}
theorem zao.lt (H:zao F M B nb lg pd v bs lasts room p g mb hv dv rows l h bt tk me ov) (hm:za5 M N):∀ q,nft nb lg pd p g mb v hv q -> q<N:=λq hq=>by
 rcases hq with rfl | rfl | rfl | hq | hq
 ·exact hm.lt H.nn
 ·exact hm.lt H.ll
 ·obtain ⟨lr,hp⟩:=H.dk.pp; exact hm.lt hp
 ·exact H.dk.ow.lt hm q hq
 ·exact (H.pt.lt hm q hq).2
theorem zao.up (H:zao F M B nb lg pd v bs lasts room p g mb hv dv rows l h bt tk me ov) (hm:za5 M N) (hF:za7 F F') (hM:∀ q,q<N -> M' q=M q):zao F' M' B nb lg pd v bs lasts room p g mb hv dv rows l h bt tk me ov :=
 ⟨(hM _ (hm.lt H.nn)).trans H.nn,(hM _ (hm.lt H.ll)).trans H.ll,zbc.frame H.dk hm hM,H.pt.up hm hF hM⟩
theorem zao.ptne (H:zao F M B nb lg pd v bs lasts room p g mb hv dv rows l h bt tk me ov) {q:Nat} {e:TypeId} {c:List Value} {t:Nat} (hq:M q=some (.cells e c t)) (he:e≠58∧e≠141∧e≠143):hv.ownBlock≠some q∧q≠g∧q≠mb∧q≠p:=by
 refine ⟨λe'=>?_,zef hq H.pt.cc.gg he.2.1,λe'=>?_,zef hq H.pt.pp he.1⟩
 ·obtain ⟨c',t',h'⟩:=zc7 H.pt.cc.oo _ e';exact zef hq h' he.2.2 rfl
 ·obtain ⟨es,h1,_⟩:=H.pt.mm;subst e'; rw [hq] at h1; cases h1
theorem zns {cs:List Value} {r:zaj} (H:zao F M B nb lg pd v bs lasts room p g mb hv dv rows l h bt tk me ov) (hB:B≤N) (hr0:0≤room) (hroom:room≤2000000) (o:okH l 5000 200 h) (hdl:l.length≤1000)
  (hr:zdr F cs r) (hL:r.lens) (ht:r.typ) (h6:r.kind≠6) (hE:(zah r).length≤2000000) (ok:r.ok) (hfb:(zal bt r.id).fs.length≤140737488351232)
  (k0:¬ (zbn r=true∧(zah r).length≤60000∧(bs.length:Int)+((zah r).length+7:Nat)≤room) -> ∀ M' N',zao F M' B nb lg pd v bs lasts room p g mb hv dv rows l h bt tk me ov -> (∀ q,¬ nft nb lg pd p g mb v hv q -> q<N -> M' q=M q) -> N≤N' -> za5 M' N' -> (Hp.mk F M' N').wf -> K (.bool false) ⟨F,M',N'⟩)
  (k1:zbn r=true -> (zah r).length≤60000 -> (bs.length:Int)+((zah r).length+7:Nat)≤room -> ∀ v' hv' F' M' N' rows',za7 F F' -> zao F' M' B nb lg pd v' (bs++zbd (zah r)) ((bs++zbd (zah r)).length:Nat) room p g mb hv' dv rows' l (apH l h bt tk r) (apS l h bt r) (apT l h tk r) me ov ->
   (∀ q,¬ nft nb lg pd p g mb v hv q -> q<N -> M' q=M q∧¬ nft nb lg pd p g mb v' hv' q) -> N≤N' -> za5 M' N' -> (Hp.mk F' M' N').wf -> K (.bool (decide (apE l h bt tk r=0))) ⟨F',M',N'⟩) :
  cF 99 #[.pointer (some ⟨nb,0,none⟩),.agg cs.toArray] K E ⟨F,M,N⟩:=by
 refine za4 za8 Tryz.func99 (by kernel_rfl) (t99 _ E _ _) (λhw=>?_);have hm:za5 M N:=hw.m;have hc1:=hr.keep;refine zap (cs:=cs) (λb hb=>?_) (by simp [Value.cells]);have hx:=za0 M b (some (.cells 77 cs cs.length));have hM1:∀ q,q<N -> upd M b (some (.cells 77 cs cs.length)) q=M q:=λq hq=>za3 _ _ (by omega);have hm1:=hm.new hb (some (.cells 77 cs cs.length));generalize upd M b _=M1 at *;have H1:=H.up hm (za7.refl _) hM1;have hlt:=H.lt hm;try simp only [sS]
 refine ldM (v:=.pointer (some ⟨lg,0,none⟩)) ?_ H1.nn;refine zb6 (vs:=cs) ?_ hx (by exact (show (List.drop 0 cs).take 10=cs by rw [List.drop_zero,← hc1.1,List.take_length])) (by exact (show 0+10≤cs.length by omega));obtain ⟨lr,hdp⟩:=H1.dk.pp
 have vne:∀ {q e c t},M1 q=some (.cells e c t) -> e≠5 -> v.ownBlock≠some q:=λhq he hv=>by
  obtain ⟨c',t',h'⟩:=zc7 H1.dk.ow _ hv;exact zef hq h' he rfl
 have hlp:lg≠pd:=zef H1.ll hdp (by decide);have hnp:nb≠pd:=zef H1.nn hdp (by decide);have hbp:b≠pd:=zef hx hdp (by decide);refine yjf H1.dk (by omega) H1.ll (vne H1.ll (by decide)) hlp hr0 hroom hr hL ht h6 hE (λhno x M2 N2 hx0 P2 hf2 hN2 hm2 hw2=>?_) (λhs hle hyes v2 M2 N2 P2 hf2 hN2 hm2 hw2=>?_)
 ·have fr:∀ q,q≠pd -> v.ownBlock≠some q -> q<b+1 -> M2 q=M1 q:=λq q1 q2 q3=>(hf2 q q1 q2 q3).1
  have ptk:∀ q,q=p∨q=mb∨q=g∨hv.ownBlock=some q -> M2 q=M1 q:=λq hq=>by
   refine fr q (λe=>?_) (λe=>?_) (by have := (H1.pt.lt hm1 q hq).2; omega)
   ·have := H1.ptne hdp ⟨by decide,by decide,by decide⟩;subst e
    rcases hq with rfl | rfl | rfl | hq
    ·exact this.2.2.2 rfl
    ·exact this.2.2.1 rfl
    ·exact this.2.1 rfl
    ·exact this.1 hq
   ·obtain ⟨c',t',h'⟩:=zc7 H1.dk.ow _ e;have := H1.ptne h' ⟨by decide,by decide,by decide⟩
    rcases hq with rfl | rfl | rfl | hq
    ·exact this.2.2.2 rfl
    ·exact this.2.2.1 rfl
    ·exact this.2.1 rfl
    ·exact this.1 hq
  have H2:zao F M2 B nb lg pd v bs lasts room p g mb hv dv rows l h bt tk me ov:=⟨(fr nb hnp (vne H1.nn (by decide)) (by have := hm1.lt H1.nn; omega)).trans H1.nn,(fr lg hlp (vne H1.ll (by decide)) (by have := hm1.lt H1.ll; omega)).trans H1.ll,P2,H1.pt.keep (za7.refl _) ptk⟩;refine zbj (by omega) ?_;try simp only [sS]
  refine λhc=>⟨_,za1 hc,λhw'=>k0 hno M2 N2 H2 (λq q1 q2=>?_) (by omega) hm2 hw'⟩;exact (fr q (λe=>q1 (.inr (.inr (.inl e)))) (λe=>q1 (.inr (.inr (.inr (.inl e))))) (by omega)).trans (hM1 q q2)
 ·have fr:∀ q,q≠pd -> v.ownBlock≠some q -> q<b+1 -> M2 q=M1 q∧v2.ownBlock≠some q:=λq q1 q2 q3=>hf2 q q1 q2 q3
  have pta:∀ q,q=p∨q=mb∨q=g∨hv.ownBlock=some q -> q≠pd∧v.ownBlock≠some q:=λq hq=>by
   refine ⟨λe=>?_,λe=>?_⟩
   ·have := H1.ptne hdp ⟨by decide,by decide,by decide⟩;subst e
    rcases hq with rfl | rfl | rfl | hq
    ·exact this.2.2.2 rfl
    ·exact this.2.2.1 rfl
    ·exact this.2.1 rfl
    ·exact this.1 hq
   ·obtain ⟨c',t',h'⟩:=zc7 H1.dk.ow _ e;have := H1.ptne h' ⟨by decide,by decide,by decide⟩
    rcases hq with rfl | rfl | rfl | hq
    ·exact this.2.2.2 rfl
    ·exact this.2.2.1 rfl
    ·exact this.2.1 rfl
    ·exact this.1 hq
  have hnn:=(fr nb hnp (vne H1.nn (by decide)) (by have := hm1.lt H1.nn; omega));have hll:=(fr lg hlp (vne H1.ll (by decide)) (by have := hm1.lt H1.ll; omega));have hxx:=(fr b hbp (vne hx (by decide)) (by omega));have PT2:zb8 F M2 B p g mb hv dv rows l h bt tk:=H1.pt.keep (za7.refl _) λq hq=>(fr q (pta q hq).1 (pta q hq).2 (by have := (H1.pt.lt hm1 q hq).2; omega)).1;refine zeg rfl ?_;try simp only [sS]
  refine ldM (v:=.pointer (some ⟨p,0,none⟩)) ?_ (hnn.1.trans H1.nn);refine zb6 (vs:=cs) ?_ (hxx.1.trans hx) (by exact (show (List.drop 0 cs).take 10=cs by rw [List.drop_zero,← hc1.1,List.take_length])) (by exact (show 0+10≤cs.length by omega));refine zsz PT2 (by omega) o hdl hr.rec ok hfb (λhv3 F3 M3 N3 rows3 hF3 P3 hf3 hN3 hm3 hw3=>?_);have f3:∀ q,q<N2 -> ¬ (q=p∨q=mb∨q=g∨hv.ownBlock=some q) -> M3 q=M2 q∧hv3.ownBlock≠some q:=λq q1 q2=>hf3 q (λe=>q2 (.inr (.inr (.inr e)))) (λe=>q2 (.inr (.inr (.inl e)))) (λe=>q2 (.inr (.inl e))) (λe=>q2 (.inl e)) q1
  have pne:∀ {q e c t},M2 q=some (.cells e c t) -> (e≠58∧e≠141∧e≠143) -> q<N2∧¬ (q=p∨q=mb∨q=g∨hv.ownBlock=some q):=λ{q e c t} hq he=>by
   refine ⟨hm2.lt hq,λhh=>?_⟩;have H2':zao F M2 B nb lg pd v2 (bs++zbd (zah r)) ((bs++zbd (zah r)).length:Nat) room p g mb hv dv rows l h bt tk me ov:=⟨hnn.1.trans H1.nn,hll.1.trans H1.ll,P2,PT2⟩;have := H2'.ptne hq he
   rcases hh with rfl | rfl | rfl | hh
   ·exact this.2.2.2 rfl
   ·exact this.2.2.1 rfl
   ·exact this.2.1 rfl
   ·exact this.1 hh
  obtain ⟨lr2,hdp2⟩:=P2.pp;have a1:=pne (hnn.1.trans H1.nn) ⟨by decide,by decide,by decide⟩;have a2:=pne (hll.1.trans H1.ll) ⟨by decide,by decide,by decide⟩;have a3:=pne hdp2 ⟨by decide,by decide,by decide⟩
  have DK3:zc2 M3 B pd v2 (bs++zbd (zah r)) ((bs++zbd (zah r)).length:Nat) room (-1):=⟨⟨lr2,(f3 pd a3.1 a3.2).1.trans hdp2⟩,P2.ow.keep (λq hq=>by
   obtain ⟨c',t',h'⟩:=zc7 P2.ow _ hq;have a4:=pne h' ⟨by decide,by decide,by decide⟩;exact (f3 q a4.1 a4.2).1) (Nat.le_refl _),P2.ne,P2.bl⟩
  have H3:zao F3 M3 B nb lg pd v2 (bs++zbd (zah r)) ((bs++zbd (zah r)).length:Nat) room p g mb hv3 dv rows3 l (apH l h bt tk r) (apS l h bt r) (apT l h tk r) me ov :=
   ⟨(f3 nb a1.1 a1.2).1.trans (hnn.1.trans H1.nn),(f3 lg a2.1 a2.2).1.trans (hll.1.trans H1.ll),DK3,P3⟩
  have fin:∀ q,¬ nft nb lg pd p g mb v hv q -> q<N -> M3 q=M q∧¬ nft nb lg pd p g mb v2 hv3 q:=λq q1 q2=>by
   have g1:=fr q (λe=>q1 (.inr (.inr (.inl e)))) (λe=>q1 (.inr (.inr (.inr (.inl e))))) (by omega);have g2:=f3 q (by omega) (λe=>q1 (.inr (.inr (.inr (.inr e)))));refine ⟨g2.1.trans (g1.1.trans (hM1 q q2)),λhh=>?_⟩
   rcases hh with hh | hh | hh | hh | hh | hh | hh | hh
   ·exact q1 (.inl hh)
   ·exact q1 (.inr (.inl hh))
   ·exact q1 (.inr (.inr (.inl hh)))
   ·exact g1.2 hh
   ·exact q1 (.inr (.inr (.inr (.inr (.inl hh)))))
   ·exact q1 (.inr (.inr (.inr (.inr (.inr (.inl hh))))))
   ·exact q1 (.inr (.inr (.inr (.inr (.inr (.inr (.inl hh)))))))
   ·exact g2.2 hh
  have last:∀ y,y=decide (apE l h bt tk r=0) -> (Hp.mk F3 M3 N3).wf -> ∃ h',(Hp.mk F3 M3 N3).wk h'∧(h'.wf -> K (.bool y) h'):=λy e hc=>by
   subst e;exact ⟨_,za1 hc,λhw'=>k1 hs hle hyes v2 hv3 F3 M3 N3 rows3 hF3 H3 fin (by omega) hm3 hw'⟩
  refine zau (λhe=>?_) (λhe=>?_)
  ·try simp only [sS]
   exact last _ (decide_eq_true (by omega)).symm
  ·try simp only [sS]
   exact last _ (decide_eq_false (by omega)).symm
end
def zrc (M:Nat -> Option zak) (B:Nat) (cs:List Value) (m:Int×Int×List Int):Prop:=∃ u,cs=[.int .i64 m.1,.int .i64 m.2.1,u]∧own M B 5 1 u m.2.2.length (bts m.2.2)
theorem zrc.keep {B:Nat} {cs:List Value} {m:Int×Int×List Int} (h:zrc M B cs m) (hM:∀ q c t,M q=some (.cells 5 c t) -> M' q=M q):zrc M' B cs m :=
 let ⟨u,e,hu⟩:=h; ⟨u,e,hu.keep (λq hq=>let ⟨c,t,h'⟩:=zc7 hu _ hq; hM q c t h') (Nat.le_refl _)⟩
def zjq (M:Nat -> Option zak) (B:Nat) (ov:Value) (ms:List (Int×Int×List Int)):Prop :=
 ∃ rows,own M B 53 3 ov ms.length rows.flatten∧zag (zrc M B) 3 rows ms
section
variable {B nb lg pd:Nat} {v:Value} {bs:List Int} {lasts room:Int} {p g mb:Nat} {hv dv:Value} {rows:List (List Value)} {l:List Dm} {h:List En} {bt:Bts} {tk me:Int} {ov:Value}
theorem zao.out {ov':Value} (H:zao F M B nb lg pd v bs lasts room p g mb hv dv rows l h bt tk me ov) (hm:za5 M N) (hn:M' nb=some (.cells 126 [.pointer (some ⟨lg,0,none⟩),.pointer (some ⟨p,0,none⟩),.int .i64 me,ov'] 4))
  (hM:∀ q,q≠nb -> (∀ c t,M q≠some (.cells 53 c t)) -> q<N -> M' q=M q):zao F M' B nb lg pd v bs lasts room p g mb hv dv rows l h bt tk me ov':=by
 have kp:∀ {q e c t},M q=some (.cells e c t) -> e≠126 -> e≠53 -> M' q=M q:=λ{q e c t} hq h1 h2=>
  hM q (zef hq H.nn h1) (λc' t' hq'=>by rw [hq] at hq'; simp only [Option.some.injEq,zak.cells.injEq] at hq'; exact h2 hq'.1) (hm.lt hq)
 obtain ⟨lr,hp⟩:=H.dk.pp;refine ⟨hn,(kp H.ll (by decide) (by decide)).trans H.ll,⟨⟨lr,(kp hp (by decide) (by decide)).trans hp⟩,H.dk.ow.keep (λq hq=>?_) (Nat.le_refl _),H.dk.ne,H.dk.bl⟩,H.pt.keep (za7.refl _) (λq hq=>?_)⟩
 ·obtain ⟨c,t,h1⟩:=zc7 H.dk.ow _ hq;exact kp h1 (by decide) (by decide)
 ·rcases hq with rfl | rfl | rfl | hq
  ·exact kp H.pt.pp (by decide) (by decide)
  ·obtain ⟨es,h1,_⟩:=H.pt.mm;refine hM _ (λe=>?_) (λc t e=>?_) (hm.lt h1)
   ·subst e; rw [H.nn] at h1; cases h1
   ·rw [h1] at e; cases e
  ·exact kp H.pt.cc.gg (by decide) (by decide)
  ·obtain ⟨c,t,h1⟩:=zc7 H.pt.cc.oo _ hq;exact kp h1 (by decide) (by decide)
theorem zp5 {C:Nat} {to:Int} {cs:List Value} {m:zaj} {ms:List (Int×Int×List Int)} (H:zao F M B nb lg pd v bs lasts room p g mb hv dv rows l h bt tk me ov) (hB:C≤N) (O:zjq M C ov ms) (hms:ms.length≤1000000) (hr:zfz F cs m) (hL:m.lens) (ht:m.typ) (hE:(zah (zav m)).length≤2097152)
  (k0:¬ (zbp m=true∧(zah (zav m)).length≤60000) -> ∀ M' N',zao F M' B nb lg pd v bs lasts room p g mb hv dv rows l h bt tk me ov -> zjq M' C ov ms -> (∀ q,q<N -> M' q=M q) -> N≤N' -> za5 M' N' -> (Hp.mk F M' N').wf -> K (.tuple #[]) ⟨F,M',N'⟩)
  (k1:zbp m=true -> (zah (zav m)).length≤60000 -> ∀ ov' M' N',zao F M' B nb lg pd v bs lasts room p g mb hv dv rows l h bt tk me ov' -> zjq M' C ov' (ms++[(me,to,zbe m)]) -> (∀ q,q≠nb -> ov.ownBlock≠some q -> q<N -> M' q=M q∧ov'.ownBlock≠some q) -> N≤N' -> za5 M' N' -> (Hp.mk F M' N').wf -> K (.tuple #[]) ⟨F,M',N'⟩) :
  cF 44 #[.pointer (some ⟨nb,0,none⟩),.int .i64 to,.agg cs.toArray] K E ⟨F,M,N⟩:=by
 refine za4 za8 Tryz.func44 (by kernel_rfl) (t44 _ E _ _ _) (λhw=>?_);have hm:za5 M N:=hw.m;have hc1:=hr.one
 have okeep:∀ {M1 N1},za5 M N -> (∀ q,q<N -> M1 q=M q) -> N≤N1 -> zjq M1 C ov ms:=λhm hM _=>
  let ⟨rs,h1,h2⟩:=O; ⟨rs,h1.keep (λq hq=>hM q (h1.lt hm q hq)) (Nat.le_refl _),h2.mono λ_ _ hu=>hu.keep (λq c t h'=>hM q (hm.lt h'))⟩
 refine zap (cs:=cs) (λb hb=>?_) (by simp [Value.cells]);have hx:=za0 M b (some (.cells 49 cs cs.length));have hM1:∀ q,q<N -> upd M b (some (.cells 49 cs cs.length)) q=M q:=λq hq=>za3 _ _ (by omega);have hm1:=hm.new hb (some (.cells 49 cs cs.length));generalize upd M b _=M1 at *;refine zb6 (vs:=cs) ?_ hx (by exact (show (List.drop 0 cs).take 8=cs by rw [List.drop_zero,← hc1.1,List.take_length])) (by exact (show 0+8≤cs.length by omega))
 have no:¬ (zbp m=true∧(zah (zav m)).length≤60000) -> ∀ N2,b+1≤N2 -> (Hp.mk F M1 N2).wf -> ∃ h',(Hp.mk F M1 N2).wk h'∧(h'.wf -> K (.tuple #[]) h'):=λhno N2 hN2 hc=>
  ⟨_,za1 hc,λhw'=>k0 hno M1 N2 (H.up hm (za7.refl _) hM1) (okeep hm hM1 (by omega)) hM1 (by omega) (hm1.up hN2) hw'⟩
 refine yhw hr hL ht hE (λhs N2 hN2 hw2=>?_) (λhs hbig N2 hN2 hw2=>?_) (λhs hle w M2 N2 hw2 hM2 hN2 hm2 hwf2=>?_)
 ·try simp only [sS]
  refine zbj (by decide) ?_;try simp only [sS]
  exact no (λh=>by rw [hs] at h; cases h.1) N2 hN2
 ·try simp only [sS]
  refine zbj (by decide) ?_;try simp only [sS]
  exact no (λh=>by omega) N2 hN2
 try simp only [sS]
 refine zeg rfl ?_;try simp only [sS]
 have hM2':∀ q,q<N -> M2 q=M q:=λq hq=>(hM2 q (by omega)).trans (hM1 q hq);have H2:=H.up hm (za7.refl _) hM2';have O2:=okeep hm hM2' (by omega);obtain ⟨wa,wc,rfl,_⟩:=hw2.form;obtain ⟨rs,ho,hrs⟩:=O2;obtain ⟨oa,oc,rfl,_⟩:=ho.form;refine ldM (v:=.slice oa ms.length oc) ?_ H2.nn;try simp only [sS]
 refine ldM (v:=.int .i64 me) ?_ H2.nn;refine zaa (v:=.agg #[.int .i64 me,.int .i64 to,.slice wa (zbe m).length wc]) (by kernel_rfl) ?_;refine zcx (cs:=[.int .i64 me,.int .i64 to,.slice wa (zbe m).length wc]) (by kernel_rfl) (λb3 hb3=>?_);have hM3:∀ q,q<N2 -> upd M2 b3 (some (.cells 53 [.int .i64 me,.int .i64 to,.slice wa (zbe m).length wc] 3)) q=M2 q:=λq hq=>za3 _ _ (by omega);have hm3:=hm2.new hb3 (some (.cells 53 [.int .i64 me,.int .i64 to,.slice wa (zbe m).length wc] 3));have hsr:sR F (upd M2 b3 (some (.cells 53 [.int .i64 me,.int .i64 to,.slice wa (zbe m).length wc] 3))) 3 (.slice (some ⟨b3,0,none⟩) 1 1) 1 [.int .i64 me,.int .i64 to,.slice wa (zbe m).length wc]:=⟨rfl,.inr ⟨b3,0,1,_,rfl,Nat.le_refl _,.inr ⟨_,_,za0 _ _ _⟩,rfl⟩⟩;simp only [List.length_cons,List.length_nil,Nat.zero_add];generalize upd M2 b3 _=M3 at *;have H3:=H2.up hm2 (za7.refl _) hM3;refine ⟨zaz (zb4 H3.nn) rfl,?_⟩;have ho3:own M3 C 53 3 (.slice oa ms.length oc) ms.length rs.flatten:=ho.keep (λq hq=>hM3 q (ho.lt hm2 q hq)) (Nat.le_refl _);have hw3:=hw2.keep (M':=M3) (B':=C) (λq hq=>hM3 q (hw2.lt hm2 q hq)) (by omega);have hrs3:zag (zrc M3 C) 3 rs ms:=hrs.mono λ_ _ hu=>hu.keep (λq c t h'=>hM3 q (hm2.lt h'));refine ho3.app hm3 (by omega) hsr (List.all_eq_true.1 rfl) (by omega) (by unfold maxLen; omega) (λov' M4 N4 h4 hf4 hN4 hm4=>?_);obtain ⟨oa',oc',rfl,_⟩:=h4.form
 have oty:∀ {q e c t},M3 q=some (.cells e c t) -> e≠53 -> q<b3+1∧(Value.slice oa ms.length oc).ownBlock≠some q:=λ{q e c t} hq he=>⟨hm3.lt hq,λe'=>by
  obtain ⟨c',t',h'⟩:=zc7 ho3 _ e';exact zef hq h' he rfl⟩
 have hnb:=oty H3.nn (by decide);try simp only [sS]
 refine stM (cs':=[.pointer (some ⟨lg,0,none⟩),.pointer (some ⟨p,0,none⟩),.int .i64 me,.slice oa' (ms.length+1) oc']) ?_ ((hf4 nb hnb.2 hnb.1).1.trans H3.nn) rfl;have hn5:=za0 M4 nb (some (.cells 126 [.pointer (some ⟨lg,0,none⟩),.pointer (some ⟨p,0,none⟩),.int .i64 me,.slice oa' (ms.length+1) oc'] 4));have h5:∀ q,q≠nb -> upd M4 nb (some (.cells 126 [.pointer (some ⟨lg,0,none⟩),.pointer (some ⟨p,0,none⟩),.int .i64 me,.slice oa' (ms.length+1) oc'] 4)) q=M4 q:=λq hq=>za3 _ _ hq;have hm5:za5 (upd M4 nb (some (.cells 126 [.pointer (some ⟨lg,0,none⟩),.pointer (some ⟨p,0,none⟩),.int .i64 me,.slice oa' (ms.length+1) oc'] 4))) N4:=hm4.set (by omega) _;generalize upd M4 nb _=M5 at *
 have H5:zao F M5 B nb lg pd v bs lasts room p g mb hv dv rows l h bt tk me (.slice oa' (ms.length+1) oc'):=H3.out hm3 hn5 λq q1 q2 q3=>(h5 q q1).trans (hf4 q (λe'=>by
  obtain ⟨c',t',h'⟩:=zc7 ho3 _ e';exact q2 _ _ h') q3).1
 have k8:∀ q c t,M3 q=some (.cells 5 c t) -> M5 q=M3 q:=λq c t h'=>by
  have g:=oty h' (by decide);exact (h5 q (zef h' H3.nn (by decide))).trans (hf4 q g.2 g.1).1
 have O5:zjq M5 C (.slice oa' (ms.length+1) oc') (ms++[(me,to,zbe m)]):=by
  refine ⟨rs++[[.int .i64 me,.int .i64 to,.slice wa (zbe m).length wc]],?_,?_⟩
  ·rw [List.length_append,List.flatten_append];simp only [List.length_cons,List.length_nil,Nat.zero_add,List.flatten_cons,List.flatten_nil,List.append_nil]
   exact h4.keep (λq hq=>h5 q (λe=>by
    obtain ⟨c',t',h'⟩:=zc7 h4 _ hq;rw [e,(hf4 nb hnb.2 hnb.1).1] at h';exact zef h' H3.nn (by decide) rfl)) (Nat.le_refl _)
  ·exact (hrs3.mono λ_ _ hu=>hu.keep k8).snoc rfl (List.all_eq_true.1 rfl) (zrc.keep (m:=(me,to,zbe m)) ⟨_,rfl,hw3⟩ k8)
 refine λhc=>⟨_,za1 hc,λhw'=>k1 hs hle _ M5 N4 H5 O5 (λq q1 q2 q3=>?_) (by omega) hm5 hw'⟩;have g:=hf4 q q2 (by omega);exact ⟨(h5 q q1).trans (g.1.trans ((hM3 q (by omega)).trans (hM2' q q3))),g.2⟩
end
section
variable {B nb lg pd:Nat} {v:Value} {bs:List Int} {lasts room:Int} {p g mb:Nat} {hv dv:Value} {rows:List (List Value)} {l:List Dm} {h:List En} {bt:Bts} {tk me:Int} {ov:Value}
theorem zao.ptn (H:zao F M B nb lg pd v bs lasts room p g mb hv dv rows l h bt tk me ov) {q:Nat} {e:TypeId} {c:List Value} {t:Nat} (hq:M q=some (.cells e c t)) (he:e≠58∧e≠141∧e≠143):¬ (q=p∨q=mb∨q=g∨hv.ownBlock=some q):=λhh=>by
 have := H.ptne hq he
 rcases hh with rfl | rfl | rfl | hh
 ·exact this.2.2.2 rfl
 ·exact this.2.2.1 rfl
 ·exact this.2.1 rfl
 ·exact this.1 hh
theorem zao.disk {v':Value} {bs':List Int} {lasts':Int} (H:zao F M B nb lg pd v bs lasts room p g mb hv dv rows l h bt tk me ov) (hm:za5 M N) (P':zc2 M' B pd v' bs' lasts' room (-1)) (hf:bfr M M' N pd v v'):zao F M' B nb lg pd v' bs' lasts' room p g mb hv dv rows l h bt tk me ov:=by
 obtain ⟨lr,hp⟩:=H.dk.pp
 have vne:∀ {q e c t},M q=some (.cells e c t) -> e≠5 -> v.ownBlock≠some q:=λhq he hv=>by
  obtain ⟨c',t',h'⟩:=zc7 H.dk.ow _ hv;exact zef hq h' he rfl
 refine ⟨(hf nb (zef H.nn hp (by decide)) (vne H.nn (by decide)) (hm.lt H.nn)).1.trans H.nn,(hf lg (zef H.ll hp (by decide)) (vne H.ll (by decide)) (hm.lt H.ll)).1.trans H.ll,P',H.pt.keep (za7.refl _) λq hq=>(hf q (λe=>?_) (λe=>?_) (H.pt.lt hm q hq).2).1⟩
 ·subst e; exact H.ptn hp ⟨by decide,by decide,by decide⟩ hq
 ·obtain ⟨c',t',h'⟩:=zc7 H.dk.ow _ e;exact H.ptn h' ⟨by decide,by decide,by decide⟩ hq
theorem zao.part {hv':Value} {rows':List (List Value)} {h':List En} {bt':Bts} {tk':Int} (H:zao F M B nb lg pd v bs lasts room p g mb hv dv rows l h bt tk me ov) (hm:za5 M N) (P':zb8 F' M' B p g mb hv' dv rows' l h' bt' tk') (hf:pfr M M' N p g mb hv hv'):zao F' M' B nb lg pd v bs lasts room p g mb hv' dv rows' l h' bt' tk' me ov:=by
 have kp:∀ {q e c t},M q=some (.cells e c t) -> (e≠58∧e≠141∧e≠143) -> M' q=M q:=λ{q e c t} hq he=>by
  have := H.ptne hq he;exact (hf q this.1 this.2.1 this.2.2.1 this.2.2.2 (hm.lt hq)).1
 obtain ⟨lr,hp⟩:=H.dk.pp;refine ⟨(kp H.nn ⟨by decide,by decide,by decide⟩).trans H.nn,(kp H.ll ⟨by decide,by decide,by decide⟩).trans H.ll,⟨⟨lr,(kp hp ⟨by decide,by decide,by decide⟩).trans hp⟩,H.dk.ow.keep (λq hq=>?_) (Nat.le_refl _),H.dk.ne,H.dk.bl⟩,P'⟩;obtain ⟨c',t',h''⟩:=zc7 H.dk.ow _ hq;exact kp h'' ⟨by decide,by decide,by decide⟩
theorem ykh {v' hv':Value} {M'':Nat -> Option zak} {N1:Nat} (h1:bfr M M' N pd v v') (h2:pfr M' M'' N1 p g mb hv hv') (hN:N≤N1):∀ q,¬ nft nb lg pd p g mb v hv q -> q<N -> M'' q=M q∧¬ nft nb lg pd p g mb v' hv' q:=λq q1 q2=>by
 have g1:=h1 q (λe=>q1 (.inr (.inr (.inl e)))) (λe=>q1 (.inr (.inr (.inr (.inl e))))) q2;have g2:=h2 q (λe=>q1 (.inr (.inr (.inr (.inr (.inr (.inr (.inr e)))))))) (λe=>q1 (.inr (.inr (.inr (.inr (.inr (.inr (.inl e)))))))) (λe=>q1 (.inr (.inr (.inr (.inr (.inr (.inl e))))))) (λe=>q1 (.inr (.inr (.inr (.inr (.inl e)))))) (by omega);refine ⟨g2.1.trans g1.1,λhh=>?_⟩
 rcases hh with hh | hh | hh | hh | hh | hh | hh | hh
 ·exact q1 (.inl hh)
 ·exact q1 (.inr (.inl hh))
 ·exact q1 (.inr (.inr (.inl hh)))
 ·exact g1.2 hh
 ·exact q1 (.inr (.inr (.inr (.inr (.inl hh)))))
 ·exact q1 (.inr (.inr (.inr (.inr (.inr (.inl hh))))))
 ·exact q1 (.inr (.inr (.inr (.inr (.inr (.inr (.inl hh)))))))
 ·exact g2.2 hh
def rAb (id:Int):zaj:=⟨3,id,0,[],[],0,0,[]⟩
def zo3 (id:Int):List Value:=[.int .u8 3,.int .u32 id,.int .u32 0,.slice none 0 0,.slice none 0 0,.int .u32 0,.slice none 0 0,.int .i64 0,.int .i64 0,.slice none 0 0]
theorem ykd (id:Int):zdr F (zo3 id) (rAb id):=⟨none,0,.slice none 0 0,none,0,.slice none 0 0,rfl,sF.nil _ _ _,⟨[],sF.nil _ _ _,zag.nil _ _⟩,zc6.nil⟩
theorem zzo (id:Int):(rAb id).lens:=⟨by simp [rAb],by simp [rAb],by simp [rAb],λx hx=>absurd hx List.not_mem_nil⟩
theorem ycz {id:Int} (h:0≤id∧id<4294967296):(rAb id).typ:=⟨h,⟨Int.le_refl _,by simp [rAb]⟩,λx hx=>absurd hx List.not_mem_nil,λx hx=>absurd hx List.not_mem_nil⟩
theorem yhm {id:Int} (h:0≤id∧id<4294967296):(rAb id).ok:=⟨h,Int.le_refl _,by simp [rAb],by simp [rAb],by simp [rAb],λx hx=>absurd hx List.not_mem_nil⟩
theorem yo0 (id:Int):zbn (rAb id)=true:=by simp [zbn,rAb]
theorem znh (id:Int):(zah (rAb id)).length=5:=by rw [zcw]; simp [rAb]
theorem yjt {id st:Int} (H:zao F M B nb lg pd v bs lasts room p g mb hv dv rows l h bt tk me ov) (hB:B≤N) (hr0:0≤room) (hroom:room≤2000000) (o:okH l 5000 200 h) (hdl:l.length≤1000) (hid:0≤id∧id<4294967296) (hfb:(zal bt id).fs.length≤140737488351232)
  (k0:(st>1∨¬ (bs.length:Int)+12≤room) -> ∀ M' N',zao F M' B nb lg pd v bs lasts room p g mb hv dv rows l h bt tk me ov -> (∀ q,¬ nft nb lg pd p g mb v hv q -> q<N -> M' q=M q) -> N≤N' -> za5 M' N' -> (Hp.mk F M' N').wf -> K (.tuple #[]) ⟨F,M',N'⟩)
  (k1:¬ st>1 -> (bs.length:Int)+12≤room -> ∀ v' hv' F' M' N' rows',za7 F F' -> zao F' M' B nb lg pd v' (bs++zbd (zah (rAb id))) lasts room p g mb hv' dv rows' l (apH l h bt tk (rAb id)) (apS l h bt (rAb id)) (apT l h tk (rAb id)) me ov ->
   (∀ q,¬ nft nb lg pd p g mb v hv q -> q<N -> M' q=M q∧¬ nft nb lg pd p g mb v' hv' q) -> N≤N' -> za5 M' N' -> (Hp.mk F' M' N').wf -> K (.tuple #[]) ⟨F',M',N'⟩) :
  cF 47 #[.pointer (some ⟨nb,0,none⟩),.int .u32 id,.int .u8 st] K E ⟨F,M,N⟩:=by
 refine za4 za8 Tryz.func47 (by kernel_rfl) (t47 _ E _ _ _) (λhw=>?_);have hm:za5 M N:=hw.m;refine zbw (λhg=>zax ?_) (λhg=>zaq ?_)
 ·exact λhc=>⟨_,za1 hc,λhw'=>k0 (.inl hg) M N H (λ_ _ _=>rfl) (Nat.le_refl _) hm hw'⟩
 refine zaa (v:=.agg (zo3 id).toArray) (by kernel_rfl) ?_;refine zap (cs:=zac) (λb hb=>?_);refine stM (cs':=zo3 id) ?_ (za0 _ _ _) rfl rfl (List.all_eq_true.1 rfl);rw [zan];have hel:zac.length=10:=rfl;try simp only [hel]
 have hx:=za0 M b (some (.cells 77 (zo3 id) 10));have hM1:∀ q,q<N -> upd M b (some (.cells 77 (zo3 id) 10)) q=M q:=λq hq=>za3 _ _ (by omega);have hm1:=hm.new hb (some (.cells 77 (zo3 id) 10));generalize upd M b _=M1 at *;have H1:=H.up hm (za7.refl _) hM1;obtain ⟨lr,hdp⟩:=H1.dk.pp
 have vne:∀ {q e c t},M1 q=some (.cells e c t) -> e≠5 -> v.ownBlock≠some q:=λhq he hv=>by
  obtain ⟨c',t',h'⟩:=zc7 H1.dk.ow _ hv;exact zef hq h' he rfl
 try simp only [sS]
 refine ldM (v:=.pointer (some ⟨lg,0,none⟩)) ?_ H1.nn;refine zb6 (vs:=zo3 id) ?_ hx rfl (by exact (show 0+10≤10 by omega))
 refine ydu H1.dk (by omega) H1.ll (vne H1.ll (by decide)) (zef H1.ll hdp (by decide)) hr0 hroom (ykd id) (zzo id) (ycz hid) (by simp [rAb]) (by rw [znh]; omega) (λh0=>by rw [yo0] at h0; cases h0) (λh0 hbig=>by rw [znh] at hbig; omega)
  (λh0 hle hno M2 N2 P2 hf2 hN2 hm2 hw2=>?_) (λh0 hle hyes v2 M2 N2 P2 hf2 hN2 hm2 hw2=>?_)
 ·rw [znh] at hno;refine zbj (by decide) ?_;try simp only [sS]
  refine λhc=>⟨_,za1 hc,λhw'=>k0 (.inr (by omega)) M2 N2 (H1.disk hm1 P2 hf2) (λq q1 q2=>?_) (by omega) hm2 hw'⟩;exact (hf2 q (λe=>q1 (.inr (.inr (.inl e)))) (λe=>q1 (.inr (.inr (.inr (.inl e))))) (by omega)).1.trans (hM1 q q2)
 ·rw [znh] at hyes;have H2:=H1.disk hm1 P2 hf2;refine zeg rfl ?_;try simp only [sS]
  refine ldM (v:=.pointer (some ⟨p,0,none⟩)) ?_ H2.nn;refine zb6 (vs:=zo3 id) ?_ ((hf2 b (zef hx hdp (by decide)) (vne hx (by decide)) (by omega)).1.trans hx) rfl (by exact (show 0+10≤10 by omega));refine zsz H2.pt (by omega) o hdl (ykd id).rec (yhm hid) hfb (λhv3 F3 M3 N3 rows3 hF3 P3 hf3 hN3 hm3 hw3=>?_);have H3:=H2.part hm2 P3 hf3;have hst:=ykh (nb:=nb) (lg:=lg) hf2 hf3 (by omega);refine λhc=>⟨_,za1 hc,λhw'=>k1 hg (by omega) v2 hv3 F3 M3 N3 rows3 hF3 H3 (λq q1 q2=>?_) (by omega) hm3 hw'⟩;exact ⟨(hst q q1 (by omega)).1.trans (hM1 q q2),(hst q q1 (by omega)).2⟩
end
end Go.Proofs.YtlhlhpgjnjjhnaaGreatDoor.A
