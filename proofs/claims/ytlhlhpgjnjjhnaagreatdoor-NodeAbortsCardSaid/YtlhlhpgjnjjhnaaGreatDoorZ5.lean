import Derived.Test.YtlhlhpgjnjjhnaaGreatDoorZ4
import Derived.Test.YtlhlhpgjnjjhnaaGreatDoorZ2
import Derived.Test.YtlhlhpgjnjjhnaaGreatDoorZ3
set_option maxHeartbeats 16000000
set_option maxRecDepth 20000
open Go Go.RowKit Go.Proofs.YtlhlhpgjnjjhnaaGreatDoor.K Go.Proofs.YtlhlhpgjnjjhnaaGreatDoor.T
set_option linter.unusedVariables false
set_option linter.unusedSimpArgs false
namespace Go.Proofs.YtlhlhpgjnjjhnaaGreatDoor.A
variable {F F':Nat -> Option (List Value)} {M M':Nat -> Option zah} {N N':Nat} {K:zae} {E:zb2}
theorem yd3 (h es:List En) {i:Nat} (hi:i<es.length):zco h (es.take (i+1))=zjq (zco h (es.take i)) es[i]:=by
 unfold zco;rw [List.take_add_one,List.getElem?_eq_getElem hi,Option.toList_some,List.foldl_append]; rfl
theorem yek {B g:Nat} {hv dv ev:Value} {rows:List (List Value)} {l:List Dm} {h es:List En} {a b:Int} (hC:zgi F M B g hv dv rows l h) (hB:B≤N) (o:okH l 5000 200 h) (hdl:l.length≤1000) (hes:zcb F ev es) (hel:es.length≤140737488351232) (heT:∀ e∈es,e.1<4294967296)
  (k:∀ hv' F' M' N' rows',za9 F F' -> zgi F' M' B g hv' dv rows' l (zra l a b h es) -> (∀ q,hv.ownBlock≠some q -> q≠g -> q<N -> M' q=M q∧hv'.ownBlock≠some q) -> N≤N' -> za6 M' N' -> (Hp.mk F' M' N').wf -> K (.int .u16 ((zic l a b h es:Nat):Int)) ⟨F',M',N'⟩) :
  cF 136 #[.pointer (some ⟨g,0,none⟩),.int .i64 a,.int .i64 b,ev] K E ⟨F,M,N⟩:=by
 refine za5 mixed Tryz.func136 (by kernel_rfl) (yyq _ E _ _ _ _) (λhw=>?_);have hm:za6 M N:=hw.m;have hgN:=hm.lt hC.gg;have hol:=o.le;have hgB:=hC.gB;have hlv:zac hv=some (.int .i64 (h.length:Nat)):=by obtain ⟨x,c,e,_⟩:=hC.oo.form; rw [e]; rfl
 have same:zic l a b h es≠0 -> ∀ F' M' N',(Hp.mk F' M' N').wf -> za9 F F' -> N≤N' -> (∀ q,q<N -> M' q=M q) -> K (.int .u16 ((zic l a b h es:Nat):Int)) ⟨F',M',N'⟩:=λhne F' M' N' hw' hF hN hM=>by
  refine k hv F' M' N' rows hF ?_ (λq hq _ hqN=>⟨hM q hqN,hq⟩) hN hw'.m hw';unfold zra; rw [if_neg hne];exact hC.keep hF (λq hq=>hM q (hC.lt hm q hq).2)
 refine zp7 (λw F1 N1 hw1 hF1 hN1 hW=>?_);refine yjc (hC.keep (M':=M) hF1 (λ_ _=>rfl)) hdl (hes.mono hF1) (by omega) hW (λF2 N2 hw2 hF2 hN2=>?_);have F02:=hF1.trans hF2;cases hrt:zfv l a b 0 es
 ·have e1:zic l a b h es=1:=by unfold zic; rw [if_pos hrt]
  try simp only [sS]
  refine λhc=>⟨_,za0 hc,λhw'=>?_⟩;have := same (by omega) _ _ _ hw' F02 (by omega) (λ_ _=>rfl);rw [e1] at this; exact this
 have hrE:zic l a b h es=if 5000<(zmf a b h es).length∨zme (zmf a b h es)=true then 3 else 0:=by unfold zic; rw [if_neg (by rw [hrt]; decide)]
 obtain ⟨er1,er2⟩:=zv4 hrt;have hen:=zuv hrt (by decide:(0:Int)<4294967296) heT;try simp only [sS]
 refine ldM (v:=hv) ?_ hC.gg;refine zab hlv ?_
 refine zoe (σ:=Nat×Value) (λs=>s.2) (λs=>.int .i64 (s.1:Nat))
  (λs h'=>∃ F' M' N' rows',h'=⟨F',M',N'⟩∧za9 F2 F'∧N≤N'∧(∀ q,q<N -> M' q=M q)∧za6 M' N'∧s.1≤h.length∧own M' N 143 2 s.2 (zct a b (h.take s.1)).length rows'.flatten∧zaf (ze6 F') 2 rows' (zct a b (h.take s.1))) (λs=>h.length - s.1) (0,.slice none 0 0) rfl rfl
  (λhw3=>⟨_,za0 hw3,F2,M,N2,[],rfl,za9.refl _,by omega,λ_ _=>rfl,hw2.m,Nat.zero_le _,own.nil,zaf.nil _ _⟩) (λkk s j h1 hI hw3 next=>?_)
 ·rw [zp4];obtain ⟨F3,M3,N3,rows3,rfl,hF3,hN3,hM3,hm3,hi,ho,hr⟩:=hI;refine zau (λhlt=>?_) (λhge=>?_)
  ·have i1:s.1<h.length:=by omega
   have e1:=ye8 (zl3 a b) h i1;have hle:(zct a b (h.take s.1)).length≤s.1:=yj4 (zl3 a b) h s.1;try simp only [sS]
   have hoo1:own M3 B 143 2 hv h.length rows.flatten:=hC.oo.keep (λq hq=>hM3 q (hC.oo.lt hm q hq)) (Nat.le_refl _);refine zkm hoo1 hC.rr (by decide) i1 λp r _ hR _ hr1=>?_;obtain ⟨fv,rfl,hfv,hfl⟩:=hR;have hfm:=o.fl _ (List.getElem_mem i1);refine zar (λb4 hb4=>?_);refine stM (cs':=[.int .u32 h[s.1].1,fv]) ?_ (za2 _ _ _) rfl rfl hr1;rw [zas];have hbox:=za2 M3 b4 (some (.cells 143 [.int .u32 h[s.1].1,fv] [Value.int .u32 0,Value.slice none 0 0].length));have ho2:=ho.box hm3 hb4 (some (.cells 143 [.int .u32 h[s.1].1,fv] [Value.int .u32 0,Value.slice none 0 0].length));have hm4:=hm3.new hb4 (some (.cells 143 [.int .u32 h[s.1].1,fv] [Value.int .u32 0,Value.slice none 0 0].length));have hM4:∀ q,q<N -> upd M3 b4 (some (.cells 143 [.int .u32 h[s.1].1,fv] [Value.int .u32 0,Value.slice none 0 0].length)) q=M q:=λq hq=>(za4 _ _ (by omega)).trans (hM3 q hq);generalize upd M3 b4 _=M4 at *;try simp only [sS]
   refine ldM (v:=fv) ?_ hbox;have hfv3:=hfv.mono (F02.trans hF3);have hfv3':=hfv3;obtain ⟨frows0,hfv3a,_⟩:=hfv3';refine zs9 hfv3 (hW.mono (hF2.trans hF3)) (by omega) (o.keys hdl (List.getElem_mem i1)) (λv4 F4 N4 hw4 hF4 hN4 hf4=>?_);rw [zyn] at hf4;obtain ⟨frows,hf4a,hf4b⟩:=hf4;have hF4':=hF3.trans hF4;have hflen:(h[s.1].2.filter (zh0 a b)).length≤200:=by have := List.length_filter_le (zh0 a b) h[s.1].2; omega
   obtain ⟨a5,c5,e5,_⟩:=hf4a.form;have he4:ze6 F4 [.int .u32 h[s.1].1,v4] (h[s.1].1,h[s.1].2.filter (zh0 a b)):=⟨v4,rfl,⟨frows,hf4a,hf4b⟩,by simp only; omega⟩;refine zb1 hf4a ?_
   have skip:¬ (0<(h[s.1].2.filter (zh0 a b)).length∨h[s.1].2.length=0) -> zct a b (h.take (s.1+1))=zct a b (h.take s.1):=λhn=>by
    unfold zct;rw [e1];unfold zl3;rw [if_neg hn]; simp
   have take1:(0<(h[s.1].2.filter (zh0 a b)).length∨h[s.1].2.length=0) -> zct a b (h.take (s.1+1))=zct a b (h.take s.1)++[(h[s.1].1,h[s.1].2.filter (zh0 a b))]:=λhn=>by
    unfold zct;rw [e1];unfold zl3;rw [if_pos hn]; rfl
   refine zby (λh0=>?_) (λh0=>?_)
   rotate_left
   try simp only [sS]
   refine ldM (v:=fv) ?_ hbox;try simp only [sS]
   refine zb1 hfv3a ?_;try simp only [sS]
   refine zat (λh9=>?_) (λh9=>?_)
   rotate_left
   ·try simp only [sS]
    rw [zgu];refine zaq (by omega) ?_;refine next (s.1+1,s.2) _ _ (by simp only; omega) (λhw5=>⟨_,za0 hw5,F4,M4,N4,rows3,rfl,hF4',by omega,hM4,hw4.m,i1,?_,?_⟩)
    ·simp only;rw [skip (by omega)]; exact ho2
    ·simp only;rw [skip (by omega)]; exact hr.mono λ_ _ h=>h.mono hF4
   all_goals
    try simp only [sS]
    refine ldM (v:=.int .u32 h[s.1].1) ?_ hbox;refine zab (v:=.agg #[.int .u32 h[s.1].1,v4]) (by rw [e5]; kernel_rfl) ?_;refine zj8 (new:=[.int .u32 h[s.1].1,v4]) ho2 hw4.m (by omega) (by rw [e5]; kernel_rfl) rfl he4.one.2 (by omega) (by unfold maxLen; omega) (λp v' M5 N5 g1 g2 g3 g4=>?_);rw [zgu];refine zaq (by omega) ?_;refine next (s.1+1,v') _ _ (by simp only; omega) (λhw5=>⟨_,za0 hw5,F4,M5,N5,rows3++[[.int .u32 h[s.1].1,v4]],rfl,hF4',by omega,λq hq=>?_,g4,i1,?_,?_⟩)
    ·exact ((g2 q (λe=>by have := (ho2.ge q e).1; omega) (by omega)).1).trans (hM4 q hq)
    ·simp only;rw [take1 (by omega),List.length_append,List.length_singleton];exact (by simpa using g1:own M5 N 143 2 v' _ (rows3++[[.int .u32 h[s.1].1,v4]]).flatten)
    ·simp only;rw [take1 (by omega)];exact zcq (hr.mono λ_ _ h=>h.mono hF4) he4.one he4
  ·try simp only [sS]
   rw [List.take_of_length_le (by omega)] at ho hr;have oR:=o.rest a b;have F03:=F02.trans hF3;obtain ⟨erows,hes1,hes2⟩:=hes.mono F03
   have hlay:∀ i,zc8 (zco (zct a b h) (es.take i))∧(zco (zct a b h) (es.take i)).length≤9000000000∧∀ e∈zco (zct a b h) (es.take i),e.2.length≤1000000:=λi=>by
    have x1:=zvi (es.take i) (zct a b h);have x2:=oR.le;rw [List.length_take] at x1;have x3:zc8 (es.take i):=er1.sublist (List.take_sublist _ _);refine ⟨zlt oR.rs,by omega,λe he=>?_⟩;have := yi8 oR.rs x3 oR.fl (λe he=>(zh6 (er2 e (List.mem_of_mem_take he)).2.1).1) e he;omega
   refine zb1 hes1 ?_
   refine zmy (σ:=Nat×Value) (λs=>s.2) (λs=>.int .i64 (s.1:Nat))
    (λs h'=>∃ F' M' N' rows',h'=⟨F',M',N'⟩∧za9 F3 F'∧N≤N'∧(∀ q,q<N -> M' q=M q)∧za6 M' N'∧s.1≤es.length∧own M' N 143 2 s.2 (zco (zct a b h) (es.take s.1)).length rows'.flatten∧zaf (ze6 F') 2 rows' (zco (zct a b h) (es.take s.1))) (λs=>es.length - s.1) (0,s.2) rfl rfl
    (λhw4=>⟨_,za0 hw4,F3,M3,N3,rows3,rfl,za9.refl _,hN3,hM3,hm3,Nat.zero_le _,ho,hr⟩) (λkk s j h1 hI hw4 next=>?_)
   rw [zms];obtain ⟨F4,M4,N4,rows4,rfl,hF4,hN4,hM4,hm4,hi,ho,hr⟩:=hI;obtain ⟨y1,y2,y3⟩:=hlay s.1;refine zau (λhlt=>?_) (λhge=>?_)
   ·have i1:s.1<es.length:=by omega
    have et:=yd3 (zct a b h) es i1;obtain ⟨z1,z2,z3⟩:=er2 _ (List.getElem_mem i1);obtain ⟨f1,f2⟩:=zh6 z2;try simp only [sS]
    refine zie (hes1.mono hF4) (hes2.mono λ_ _ h=>h.mono hF4) (by decide) i1 (λp r _ hR hrl hr1=>?_);obtain ⟨fv,hre,hfv,hfl⟩:=hR;subst hre;refine zar (λb4 hb4=>?_);refine stM (cs':=[.int .u32 es[s.1].1,fv]) ?_ (za2 _ _ _) rfl rfl hr1;rw [zas];have hbox:=za2 M4 b4 (some (.cells 143 [.int .u32 es[s.1].1,fv] [Value.int .u32 0,Value.slice none 0 0].length));have ho2:=ho.box hm4 hb4 (some (.cells 143 [.int .u32 es[s.1].1,fv] [Value.int .u32 0,Value.slice none 0 0].length));have hm5:=hm4.new hb4 (some (.cells 143 [.int .u32 es[s.1].1,fv] [Value.int .u32 0,Value.slice none 0 0].length));have hM5:∀ q,q<N -> upd M4 b4 (some (.cells 143 [.int .u32 es[s.1].1,fv] [Value.int .u32 0,Value.slice none 0 0].length)) q=M q:=λq hq=>(za4 _ _ (by omega)).trans (hM4 q hq);generalize upd M4 b4 _=M5 at *;try simp only [sS]
    refine ldM (v:=fv) ?_ hbox;have hfv':=hfv;obtain ⟨frows,hfa,_⟩:=hfv';refine zb1 hfa ?_;refine zby (λh0=>?_) (λh0=>?_)
    ·try simp only [sS]
     refine ldM (v:=.int .u32 es[s.1].1) ?_ hbox;try simp only [sS]
     refine ldM (v:=fv) ?_ hbox;refine yjm ho2 (by omega) hr y1 (by omega) y3 hfv (by omega) (λf hf=>by have := zk2 (f2 f hf); omega) (λv' F6 M6 N6 rows6 hF6 g1 g2 g3 g4 g5 g6=>?_);rw [zgd];refine zaq (by omega) ?_
     have e3:zco (zct a b h) (es.take (s.1+1))=withR (zco (zct a b h) (es.take s.1)) es[s.1].1 es[s.1].2:=by
      rw [et]; unfold zjq; rw [if_pos (by omega)]
     refine next (s.1+1,v') _ _ (by simp only; omega) (λhw5=>⟨_,za0 hw5,F6,M6,N6,rows6,rfl,hF4.trans hF6,by omega,λq hq=>?_,g5,i1,?_,?_⟩)
     ·exact ((g3 q (λe=>by have := (ho2.ge q e).1; omega) (by omega)).1).trans (hM5 q hq)
     ·simp only;rw [e3]; exact g1
     ·simp only;rw [e3]; exact g2
    ·try simp only [sS]
     rw [zgd];refine zaq (by omega) ?_
     have e3:zco (zct a b h) (es.take (s.1+1))=zco (zct a b h) (es.take s.1):=by
      rw [et]; unfold zjq; rw [if_neg (by omega)]
     refine next (s.1+1,s.2) _ _ (by simp only; omega) (λhw5=>⟨_,za0 hw5,F4,M5,_,rows4,rfl,hF4,by omega,hM5,hm5,i1,?_,?_⟩)
     ·simp only;rw [e3]; exact ho2
     ·simp only;rw [e3]; exact hr
   ·try simp only [sS]
    rw [List.take_of_length_le (by omega)] at ho hr y1 y2 y3;have F04:=F03.trans hF4;have hlo:zac s.2=some (.int .i64 ((zco (zct a b h) es).length:Nat)):=by obtain ⟨x,c,e,_⟩:=ho.form; rw [e]; rfl
    have bad:zic l a b h es=3 -> ∀ N',N4≤N' -> ∀ h',h'=(⟨F4,M4,N'⟩:Hp) -> h'.wf -> ∃ h'',h'.wk h''∧(h''.wf -> K (.int .u16 3) h''):=λe3 N' hN' h' e' hc=>by
     subst e';refine ⟨_,za0 hc,λhw'=>?_⟩;have := same (by omega) _ _ _ hw' F04 (by omega) hM4;rw [e3] at this; exact this
    refine zab hlo ?_;refine zby (λh0=>?_) (λh0=>?_)
    ·try simp only [sS]
     exact bad (by rw [hrE]; unfold zmf; rw [if_pos (.inl (by omega))]) N4 (Nat.le_refl _) _ rfl
    ·try simp only [sS]
     refine yq5 ho hr (by omega) (λN5 hN5 hw5=>?_);cases hlg:zme (zco (zct a b h) es)
     ·have e0:zic l a b h es=0:=by
       rw [hrE]; unfold zmf; rw [if_neg (by rintro (q | q); omega; rw [hlg] at q; cases q)]
      obtain ⟨xa,xc,xe,_⟩:=ho.form;try simp only [sS]
      refine stM (cs':=[s.2,dv]) ?_ ((hM4 g hgN).trans hC.gg) (by rw [xe]; rfl) (by rw [xe]; rfl) (by rw [xe]; exact List.all_eq_true.1 rfl);have hsg:s.2.ownBlock≠some g:=λe=>by have := (ho.ge g e).1; omega
      refine λhc=>⟨_,za0 hc,λhw'=>?_⟩;rw [e0] at k;refine k s.2 F4 _ N5 rows4 F04 ?_ (λq hq hqg hqN=>⟨(za4 _ _ hqg).trans (hM4 q hqN),λe=>by have := (ho.ge q e).1; omega⟩) (by omega) (za6.set hw5.m (by omega) _) hw';unfold zra; rw [if_pos e0];exact ⟨za2 _ _ _,hgB,ho.keep (λq hq=>za4 _ _ (λe=>hsg (e ▸ hq))) hB,hr,hsg,hC.dd.mono F04,y1⟩
     ·try simp only [sS]
      exact bad (by rw [hrE]; unfold zmf; rw [if_pos (.inr hlg)]) N5 hN5 _ rfl
theorem zc6 {B:Nat} {e:TypeId} {sz n:Nat} {v:Value} {cs:List Value} (h:own M B e sz v n cs):∀ q,v.ownBlock=some q -> ∃ cs tot,M q=some (.cells e cs tot):=λq hq=>by
 rcases h.2 with ⟨rfl,_⟩ | ⟨b,c,rest,rfl,_,_,_,h4⟩
 ·simp [Value.ownBlock] at hq
 ·simp [Value.ownBlock] at hq
  subst hq;exact ⟨_,_,h4⟩
structure zb9 (F:Nat -> Option (List Value)) (M:Nat -> Option zah) (B p g mb:Nat) (hv dv:Value) (rows:List (List Value)) (l:List Dm) (h:List En) (bs:Bts) (tk:Int):Prop where
 pp:M p=some (.cells 58 [.pointer (some ⟨g,0,none⟩),.map (some mb),.int .u32 tk] 3)
 pB:B≤p
 mB:B≤mb
 mm:∃ es,M mb=some (.obj (.map es bs.length))∧zfs F es bs
 cc:zgi F M B g hv dv rows l h
section
variable {B p g mb:Nat} {hv dv:Value} {rows:List (List Value)} {l:List Dm} {h:List En} {bs:Bts} {tk:Int}
theorem zb9.keep (P:zb9 F M B p g mb hv dv rows l h bs tk) (hF:za9 F F') (hM:∀ q,q=p∨q=mb∨q=g∨hv.ownBlock=some q -> M' q=M q):zb9 F' M' B p g mb hv dv rows l h bs tk :=
 ⟨(hM p (.inl rfl)).trans P.pp,P.pB,P.mB,let ⟨es,h1,h2⟩:=P.mm; ⟨es,(hM mb (.inr (.inl rfl))).trans h1,h2.mono hF⟩,P.cc.keep hF (λq hq=>hM q (.inr (.inr hq)))⟩
theorem zb9.lt (P:zb9 F M B p g mb hv dv rows l h bs tk) (hm:za6 M N):∀ q,q=p∨q=mb∨q=g∨hv.ownBlock=some q -> B≤q∧q<N:=λq hq=>by
 rcases hq with rfl | rfl | hq
 ·exact ⟨P.pB,hm.lt P.pp⟩
 ·obtain ⟨es,h1,_⟩:=P.mm; exact ⟨P.mB,hm.lt h1⟩
 ·exact P.cc.lt hm q hq
theorem zb9.up (P:zb9 F M B p g mb hv dv rows l h bs tk) (hm:za6 M N) (hF:za9 F F') (hM:∀ q,q<N -> M' q=M q):zb9 F' M' B p g mb hv dv rows l h bs tk:=P.keep hF (λq hq=>hM q (P.lt hm q hq).2)
theorem zb9.box (P:zb9 F M B p g mb hv dv rows l h bs tk) (hm:za6 M N) {b:Nat} (hb:N≤b) (x:Option zah):zb9 F (upd M b x) B p g mb hv dv rows l h bs tk:=P.up hm (za9.refl _) (λq hq=>za4 _ _ (by omega))
theorem zb9.pg (P:zb9 F M B p g mb hv dv rows l h bs tk):p≠g∧p≠mb∧mb≠g∧hv.ownBlock≠some p∧hv.ownBlock≠some mb:=by
 obtain ⟨es,h1,_⟩:=P.mm;refine ⟨λe=>?_,λe=>?_,λe=>?_,λe=>?_,λe=>?_⟩
 ·have := P.pp; rw [e,P.cc.gg] at this; cases this
 ·have := P.pp; rw [e,h1] at this; cases this
 ·have := P.cc.gg; rw [← e,h1] at this; cases this
 ·obtain ⟨c,t,h2⟩:=zc6 P.cc.oo p e; rw [P.pp] at h2; cases h2
 ·obtain ⟨c,t,h2⟩:=zc6 P.cc.oo mb e; rw [h1] at h2; cases h2
theorem ys7 {v:Value} (hv:zeb F v l) (hl:l.length≤140737488351232) (k1:zca l=false -> ∀ N',N≤N' -> (Hp.mk F M N').wf -> K (.pointer none) ⟨F,M,N'⟩)
  (k2:zca l=true -> ∀ p g mb dv F' M' N',za9 F F' -> zb9 F' M' N p g mb (.slice none 0 0) dv [] l [] [] 0 -> (∀ q,q<N -> M' q=M q) -> N≤N' -> za6 M' N' -> (Hp.mk F' M' N').wf -> K (.pointer (some ⟨p,0,none⟩)) ⟨F',M',N'⟩) :
  cF 38 #[v] K E ⟨F,M,N⟩:=by
 refine za5 mixed Tryz.func38 (by kernel_rfl) (t38 _ E _) (λhw=>?_);refine yt7 hv hl (λh0 N1 hN1 hw1=>?_) (λh0 g dv F1 M1 N1 hF hC hM1 hN1 hm1 hw1=>?_)
 ·refine zab (v:=.bool true) rfl ?_;try simp only [sS]
  exact λhc=>⟨_,za0 hc,λhw'=>k1 h0 _ hN1 hw'⟩
 ·refine zi5 ?_;try simp only [sS]
  refine yt4 (λmb hmb=>?_);refine zab (v:=.agg #[.pointer (some ⟨g,0,none⟩),.map (some mb),.int .u32 0]) (by kernel_rfl) ?_;refine zar (cs:=[.pointer (some ⟨g,0,none⟩),.map (some mb),.int .u32 0]) (λp hp=>?_);have hgN:=hC.lt hm1;refine λhc=>⟨_,za0 hc,λhw'=>k2 h0 p g mb dv F1 _ _ hF ⟨za2 _ _ _,by omega,by omega,⟨#[],(za4 _ _ (by omega)).trans (za2 _ _ _),zfs.nil⟩,hC.keep (za9.refl _) (λq hq=>?_)⟩ (λq hq=>?_) (by omega) ((hm1.new hmb _).new hp _) hw'⟩
  ·have := (hgN q hq).2;exact (za4 _ _ (by omega)).trans (za4 _ _ (by omega))
  ·exact ((za4 _ _ (by omega)).trans (za4 _ _ (by omega))).trans (hM1 q hq)
theorem zpq {id:Int} (P:zb9 F M B p g mb hv dv rows l h bs tk) (k:∀ N',N≤N' -> (Hp.mk F M N').wf -> K (.agg #[.int .u8 (zal bs id).st,.int .u32 (zal bs id).tm]) ⟨F,M,N'⟩) :
  cF 28 #[.pointer (some ⟨p,0,none⟩),.int .u32 id] K E ⟨F,M,N⟩:=by
 refine za5 mixed Tryz.func28 (by kernel_rfl) (t28 _ E _ _) (λhw=>?_);have hm:za6 M N:=hw.m;refine zar (λb1 hb1=>?_);have P1:=P.box hm hb1 (some (.cells 85 [.int .u8 0,.int .u32 0] 2));obtain ⟨es,h1,h2⟩:=P1.mm;try simp only [sS]
 refine ldM (v:=.map (some mb)) ?_ P1.pp;refine zqy (id:=id) h1 h2 (λv hv=>?_);obtain ⟨nv,fv,rfl,_⟩:=hv;refine zab (v:=.agg #[.int .u8 (zal bs id).st,.int .u32 (zal bs id).tm]) (by kernel_rfl) ?_;refine stM (cs':=[.int .u8 (zal bs id).st,.int .u32 (zal bs id).tm]) ?_ (za2 _ _ _) rfl rfl (List.all_eq_true.1 rfl);rw [zas];refine zbd (vs:=[.int .u8 (zal bs id).st,.int .u32 (zal bs id).tm]) ?_ (za2 _ _ _);exact λhc=>⟨⟨F,M,b1+1⟩,zbm hc (zb4 (zbc _) (hm _ hb1)),λhw'=>k _ (by omega) hw'⟩
theorem ydn {id:Int} (P:zb9 F M B p g mb hv dv rows l h bs tk) (k:(Hp.mk F M N).wf -> K (.bool (decide ((zal bs id).st=1))) ⟨F,M,N⟩) :
  cF 58 #[.pointer (some ⟨p,0,none⟩),.int .u32 id] K E ⟨F,M,N⟩:=by
 refine za5 mixed Tryz.func58 (by kernel_rfl) (t58 _ E _ _) (λhw=>?_);obtain ⟨es,h1,h2⟩:=P.mm;try simp only [sS]
 refine ldM (v:=.map (some mb)) ?_ P.pp;refine zqy (id:=id) h1 h2 (λv hv=>?_);obtain ⟨nv,fv,rfl,_⟩:=hv;refine zab (v:=.agg #[.int .u8 (zal bs id).st,.int .u32 (zal bs id).tm]) (by kernel_rfl) ?_;refine zab (v:=.int .u8 (zal bs id).st) (by kernel_rfl) ?_;refine zat (λh0=>?_) (λh0=>?_)
 ·rw [decide_eq_true h0] at k;exact λhc=>⟨_,za0 hc,k⟩
 ·rw [decide_eq_false h0] at k;exact λhc=>⟨_,za0 hc,k⟩
theorem ylh (P:zb9 F M B p g mb hv dv rows l h bs tk) (k:(Hp.mk F M N).wf -> K (.int .u32 tk) ⟨F,M,N⟩) :
  cF 75 #[.pointer (some ⟨p,0,none⟩)] K E ⟨F,M,N⟩:=by
 refine za5 mixed Tryz.func75 (by kernel_rfl) (t75 _ E _) (λhw=>?_);try simp only [sS]
 refine ldM (v:=.int .u32 tk) ?_ P.pp;exact λhc=>⟨_,za0 hc,k⟩
structure zaj where
 kind:Int
 id:Int
 tm:Int
 ns:List Int
 fs:List Fc
 lo:Int
 hi:Int
 es:List En
def zln (F:Nat -> Option (List Value)) (cs:List Value) (r:zaj):Prop:=∃ nv fv ep sv ev,cs=[.int .u8 r.kind,.int .u32 r.id,.int .u32 r.tm,nv,fv,ep,sv,.int .i64 r.lo,.int .i64 r.hi,ev]∧sF F 1 nv r.ns.length (ic r.ns)∧zbp F fv r.fs∧zcb F ev r.es∧ep.oneCell'=true∧sv.oneCell'=true
theorem zln.mono {cs:List Value} {r:zaj} (h:zln F cs r) (hF:za9 F F'):zln F' cs r :=
 let ⟨nv,fv,ep,sv,ev,e,h1,h2,h3,h4⟩:=h; ⟨nv,fv,ep,sv,ev,e,h1.mono hF,h2.mono hF,h3.mono hF,h4⟩
theorem zln.one {cs:List Value} {r:zaj} (h:zln F cs r):cs.length=10∧∀ c∈cs,c.oneCell'=true:=by
 obtain ⟨nv,fv,ep,sv,ev,rfl,h1,h2,h3,h4,h5⟩:=h;obtain ⟨a1,c1,rfl,_⟩:=h1.form;obtain ⟨a2,c2,rfl⟩:=h2.form;obtain ⟨a3,c3,rfl⟩:=h3.form;refine ⟨rfl,λc hc=>?_⟩;simp only [List.mem_cons,List.not_mem_nil,or_false] at hc
 rcases hc with rfl | rfl | rfl | rfl | rfl | rfl | rfl | rfl | rfl | rfl<;>first | rfl | assumption
def abE (bs:Bts) (r:zaj):Nat:=if (zal bs r.id).st>1 then 140 else 0
def abS (bs:Bts) (r:zaj):Bts:=if (zal bs r.id).st>1 then bs else zhz bs r.id ⟨3,0,[],[]⟩
theorem ymy {cs:List Value} {r:zaj} (P:zb9 F M B p g mb hv dv rows l h bs tk) (hr:zln F cs r) (h0:0≤r.id) (h1:r.id<4294967296)
  (k:∀ M' N',zb9 F M' B p g mb hv dv rows l h (abS bs r) tk -> (∀ q,q≠mb -> q<N -> M' q=M q) -> N≤N' -> za6 M' N' -> (Hp.mk F M' N').wf -> K (.int .u16 ((abE bs r:Nat):Int)) ⟨F,M',N'⟩) :
  cF 93 #[.pointer (some ⟨p,0,none⟩),.agg cs.toArray] K E ⟨F,M,N⟩:=by
 refine za5 mixed Tryz.func93 (by kernel_rfl) (t93 _ E _ _) (λhw=>?_);have hm:za6 M N:=hw.m;have hone:=hr.one;refine zar (cs:=cs) (λb1 hb1=>?_) rfl;obtain ⟨nv,fv,ep,sv,ev,e,hn,hf,he,_⟩:=hr;have hb:=za2 M b1 (some (.cells 77 cs cs.length));have P1:=P.box hm hb1 (some (.cells 77 cs cs.length));have hm1:=hm.new hb1 (some (.cells 77 cs cs.length));have hM1:∀ q,q<N -> upd M b1 (some (.cells 77 cs cs.length)) q=M q:=λq hq=>za4 _ _ (by omega);subst e;generalize upd M b1 _=M1 at *;obtain ⟨es,h2,h3⟩:=P1.mm;have hpn:=P1.pg;have hmbN:=(P.lt hm mb (.inr (.inl rfl))).2;try simp only [sS]
 refine ldM (v:=.map (some mb)) ?_ P1.pp;refine ldM (v:=.int .u32 r.id) ?_ hb;refine zqy (id:=r.id) h2 h3 (λv hv=>?_);obtain ⟨nv',fv',rfl,_⟩:=hv;refine zab (v:=.agg #[.int .u8 (zal bs r.id).st,.int .u32 (zal bs r.id).tm]) (by kernel_rfl) ?_;refine zab (v:=.int .u8 (zal bs r.id).st) (by kernel_rfl) ?_;refine zby (λhg=>?_) (λhg=>?_)
 ·try simp only [sS]
  refine λhc=>⟨_,za0 hc,λhw'=>?_⟩;have := k M1 (b1+1) (by unfold abS; rw [if_pos hg]; exact P1) (λq _ hq=>hM1 q hq) (by omega) hm1 hw';unfold abE at this; rw [if_pos hg] at this; exact this
 ·try simp only [sS]
  refine ldM (v:=.map (some mb)) ?_ P1.pp;refine ldM (v:=.int .u32 r.id) ?_ hb;refine zab (v:=.agg #[.int .u8 3,.int .u32 0]) (by kernel_rfl) ?_;refine zab (v:=.agg #[.int .u8 3,.int .u32 0,.slice none 0 0,.slice none 0 0]) (by kernel_rfl) ?_;refine yg5 (b:=⟨3,0,[],[]⟩) h2 h3 ⟨_,_,rfl,sF.nil _ _ _,zbp.nil⟩ h0 h1 (λes' hes'=>?_);refine λhc=>⟨_,za0 hc,λhw'=>?_⟩;have := k _ (b1+1) (by unfold abS; rw [if_neg hg]; exact ⟨(za4 _ _ hpn.2.1).trans P1.pp,P.pB,P.mB,⟨es',za2 _ _ _,hes'⟩,P1.cc.keep (za9.refl _) (λq hq=>za4 _ _ (λe=>by subst e; rcases hq with hq | hq; exact hpn.2.2.1 hq; exact hpn.2.2.2.2 hq))⟩) (λq hq hqN=>(za4 _ _ hq).trans (hM1 q hqN)) (by omega) (hm1.set (by omega) _) hw';unfold abE at this; rw [if_neg hg] at this; exact this
end
theorem yhy (x:Int) (n:Nat):zam x (n+1)=zjf x n::zam x n:=by
 unfold zam zgf;rw [List.range_succ_eq_map,List.map_cons,List.map_map]
 congr 1
 refine List.map_congr_left λj hj=>?_;simp only [Function.comp]
 congr 1; simp at hj; omega
theorem yw7 (k:Nat):(2:Int) ^ (8*k)=((256 ^ k:Nat):Int):=by
 rw [Int.pow_mul,Int.natCast_pow]; rfl
theorem yed (m:Nat) {k:Nat} (hk:k≤7):zjf (m:Nat) k=((m/256 ^ k%256:Nat):Int):=by
 unfold zjf;rw [Nat.min_eq_left (by omega),yw7,Int.fdiv_eq_ediv_of_nonneg _ (Int.natCast_nonneg _),← Int.natCast_ediv,IntKind.wrap_u8]
 rfl
def rdV (l:List Int) (a:Int):Int:=l.foldl (λn c=>n*256+c) a
theorem zwk (m:Nat):∀ {n:Nat} (_:n≤8) (a:Int),rdV (zam (m:Nat) n) a=a*((256 ^ n:Nat):Int)+((m%256 ^ n:Nat):Int)
 | 0,_,a=>by simp [rdV,zam,zgf,Nat.mod_one]
 | n+1,hn,a=>by
  rw [yhy,rdV,List.foldl_cons];have := zwk m (n:=n) (by omega) (a*256+zjf m n);rw [rdV] at this;rw [this,yed m (by omega),Nat.pow_succ,Nat.mod_mul];generalize 256 ^ n=P;generalize m/P%256=q;generalize m%P=r;rw [Int.add_mul,Int.natCast_add,Int.natCast_mul,Int.natCast_mul,Int.mul_comm (P:Int) ((256:Nat):Int),Int.mul_assoc,Int.mul_comm (P:Int) (q:Int)];have:((256:Nat):Int)=256:=rfl;rw [this]; omega
def rd (size:Nat) (l:List Int):Option (Int×List Int):=if l.length<size then none else some (rdV (l.take size) 0,l.drop size)
theorem zhd {x:Int} {n:Nat} (hn:n≤8) (h0:0≤x) (h1:x<((256 ^ n:Nat):Int)) (r:List Int):rd n (zam x n++r)=some (x,r):=by
 obtain ⟨m,rfl⟩:∃ m:Nat,x=(m:Nat):=⟨x.toNat,by omega⟩;have hl:=zaa (m:Nat) n;unfold rd;rw [if_neg (by rw [List.length_append]; omega),List.take_left' hl,List.drop_left' hl,zwk m hn,Nat.mod_eq_of_lt (by omega)]
 simp
def rdM (size least:Nat) (l:List Int):Option (Nat×List Int):=match rd size l with
 | none=>none
 | some (n,r)=>if n>((r.length/least:Nat):Int) then none else some (n.toNat,r)
def rdL {α:Type} (f:List Int -> Option (α×List Int)):Nat -> List Int -> Option (List α×List Int)
 | 0,l=>some ([],l)
 | n+1,l=>match f l with
  | none=>none
  | some (x,r)=>match rdL f n r with
   | none=>none
   | some (xs,r)=>some (x::xs,r)
theorem znw {α:Type} {f:List Int -> Option (α×List Int)} {enc:α -> List Int}:∀ (xs:List α) (r:List Int),(∀ x∈xs,∀ r,f (enc x++r)=some (x,r)) -> rdL f xs.length (xs.flatMap enc++r)=some (xs,r)
 | [],r,_=>rfl
 | x::xs,r,h=>by
  rw [List.flatMap_cons,List.append_assoc,List.length_cons,rdL,h x (by simp)];simp only;rw [znw xs r (λy hy=>h y (by simp [hy]))]
theorem zge {x:Int} (h0:0≤x) (h1:x<18446744073709551616):zaz x=x:=by unfold zaz; rw [IntKind.wrap_u64]; omega
theorem zr1 {n size least:Nat} (hs:size≤8) (hn:n<256 ^ size) (hn':n<18446744073709551616) {r:List Int} (hl:n*least≤r.length) (h0:0<least):rdM size least (zam (zaz (n:Nat)) size++r)=some (n,r):=by
 unfold rdM;rw [zge (by omega) (by omega),zhd hs (by omega) (by omega)];have := (Nat.le_div_iff_mul_le h0).2 hl;simp only;rw [if_neg (by omega)]; simp
def zjo (l:List Int):Option (List Int×List Int):=match rdM 1 4 l with
 | none=>none
 | some (n,r)=>rdL (rd 4) n r
def zlq (x:Int):Int:=IntKind.i64.wrap x
def rdF (l:List Int):Option (Fc×List Int):=match zjo l with
 | none=>none
 | some (k,r)=>match rd 8 r with
  | none=>none
  | some (v,r)=>some ((k,zlq v),r)
def zgz (l:List Int):Option (List Fc×List Int):=match rdM 4 9 l with
 | none=>none
 | some (n,r)=>rdL rdF n r
def rdE (l:List Int):Option (En×List Int):=match rd 4 l with
 | none=>none
 | some (t,r)=>match zgz r with
  | none=>none
  | some (fs,r)=>some ((t,fs),r)
def zil (l:List Int):Option (List En×List Int):=match rdM 4 8 l with
 | none=>none
 | some (n,r)=>rdL rdE n r
def rdN (l:List Int):Option (List Int×List Int):=match rdM 1 1 l with
 | none=>none
 | some (n,r)=>rdL (rd 1) n r
def zcn (l:List Int):List Int:=zam (zaz (l.length:Nat)) 1++l.flatMap λx=>zam (zaz x) 1
def zet:Int -> List Int -> Bool
 | _,[]=>true
 | p,x::xs=>decide (p<x∧x<6)&&zet x xs
def zh1 (f:Fc):Bool:=decide (f.1.length≤4)&&f.1.all λx=>decide (0≤x∧x≤9999)
def zf0 (l:List Fc):Bool:=decide (l.length≤200)&&l.all zh1
def zgs:Int -> List En -> Bool
 | _,[]=>true
 | p,e::es=>zf0 e.2&&decide (p<e.1)&&zgs e.1 es
def zho (l:List En):Bool:=decide (l.length≤5000)&&zgs (-1) l
def zff (x:Int):Prop:=-9223372036854775808≤x∧x≤9223372036854775807
theorem yli {x:Int} (h:zff x):zlq (zaz x)=x:=by
 unfold zlq zaz zff at *;rw [IntKind.wrap_u64,IntKind.wrap_i64]; omega
theorem yqg (x:Int):0≤zaz x∧zaz x<18446744073709551616:=by unfold zaz; rw [IntKind.wrap_u64]; omega
theorem zgn {α:Type} (f:α -> List Int) (n:Nat):∀ l:List α,(∀ x∈l,n≤(f x).length) -> l.length*n≤(l.flatMap f).length
 | [],_=>by simp
 | x::l,h=>by
  have := zgn f n l λy hy=>h y (by simp [hy]);have := h x (by simp);rw [List.flatMap_cons,List.length_append,List.length_cons,Nat.succ_mul]; omega
theorem zpy (l:List Int):(zg4 l).length=l.length*4:=by
 induction l with
 | nil=>rfl
 | cons x l ih=>
  unfold zg4 at ih ⊢;rw [List.flatMap_cons,List.length_append,ih,zaa,List.length_cons]; omega
theorem zlr (f:Fc):(ze5 f).length=9+f.1.length*4:=by unfold ze5; rw [List.length_append,List.length_append,zaa,zaa,zpy]; omega
theorem ypo {f:Fc} (h:zh1 f=true) (hv:zff f.2) (r:List Int):rdF (ze5 f++r)=some (f,r):=by
 obtain ⟨k,v⟩:=f;simp only [zh1,Bool.and_eq_true,decide_eq_true_eq,List.all_eq_true] at h;unfold rdF zjo ze5;rw [List.append_assoc,zr1 (by omega) (by simp; omega) (by simp; omega) (by simp [zpy]) (by omega)];simp only
 rw [List.append_assoc,zg4,znw k _ (λx hx r=>by
  have := h.2 x hx;rw [zge (by omega) (by omega)];exact zhd (by omega) (by omega) (by simp; omega) r)]
 simp only;have := yqg v;rw [zhd (by omega) this.1 (by simpa using this.2)];simp only;rw [yli hv]
theorem yab {l:List Fc} (h:zf0 l=true) (hv:∀ f∈l,zff f.2) (r:List Int):zgz (zce l++r)=some (l,r):=by
 simp only [zf0,Bool.and_eq_true,decide_eq_true_eq,List.all_eq_true] at h;unfold zgz zce;have := zgn ze5 9 l λf _=>by rw [zlr]; omega
 rw [List.append_assoc,zr1 (by omega) (by simp; omega) (by omega) (by simp only [List.length_append]; omega) (by omega)];exact znw l r λf hf r=>ypo (h.2 f hf) (hv f hf) r
theorem zyj (l:List Fc):4≤(zce l).length:=by unfold zce; rw [List.length_append,zaa]; omega
theorem yp8 {e:En} (h0:0≤e.1) (h1:e.1<4294967296) (h:zf0 e.2=true) (hv:∀ f∈e.2,zff f.2) (r:List Int):rdE (zeu e++r)=some (e,r):=by
 unfold rdE zeu;rw [List.append_assoc,zge h0 (by omega),zhd (by omega) h0 (by simpa using h1)];simp only;rw [yab h hv]
theorem ybp:∀ {l:List En} {p:Int},zgs p l=true -> ∀ e∈l,zf0 e.2=true
 | [],_,_,e,he=>by cases he
 | a::l,p,h,e,he=>by
  simp only [zgs,Bool.and_eq_true] at h
  rcases List.mem_cons.1 he with rfl | he
  ·exact h.1.1
  ·exact ybp h.2 e he
theorem yls {l:List En} (h:zho l=true) (hk:∀ e∈l,0≤e.1∧e.1<4294967296∧∀ f∈e.2,zff f.2) (r:List Int):zil (zdn l++r)=some (l,r):=by
 simp only [zho,Bool.and_eq_true,decide_eq_true_eq] at h;unfold zil zdn;have := zgn zeu 8 l λe _=>by unfold zeu; rw [List.length_append,zaa]; have := zyj e.2; omega
 rw [List.append_assoc,zr1 (by omega) (by simp; omega) (by omega) (by simp only [List.length_append]; omega) (by omega)];exact znw l r λe he r=>yp8 (hk e he).1 (hk e he).2.1 (ybp h.2 e he) (hk e he).2.2 r
theorem ybo:∀ {l:List Int} {p:Int},zet p l=true -> ∀ x∈l,p<x∧x<6
 | [],_,_,x,hx=>by cases hx
 | a::l,p,h,x,hx=>by
  simp only [zet,Bool.and_eq_true,decide_eq_true_eq] at h
  rcases List.mem_cons.1 hx with rfl | hx
  ·exact h.1
  ·have := ybo h.2 x hx; omega
theorem ybs:∀ {l:List Int} {p:Int},zet p l=true -> p<6 -> (l.length:Int)≤5 - p
 | [],p,_,hp=>by simp; omega
 | a::l,p,h,hp=>by
  simp only [zet,Bool.and_eq_true,decide_eq_true_eq] at h;have := ybs h.2 h.1.2
  simp; omega
theorem ydf {l:List Int} (h:zet (-1) l=true) (r:List Int):rdN (zcn l++r)=some (l,r):=by
 have hl:=ybs h (by omega);unfold rdN zcn;have := zgn (λx=>zam (zaz x) 1) 1 l λx _=>by rw [zaa]; omega
 rw [List.append_assoc,zr1 (by omega) (by simp; omega) (by omega) (by simp only [List.length_append]; omega) (by omega)];refine znw l r λx hx r=>?_;have := ybo h x hx;rw [zge (by omega) (by omega)];exact zhd (by omega) (by omega) (by simp; omega) r
def zag (r:zaj):List Int:=zam r.kind 1++(zam r.id 4 ++
 if r.kind=1 then zcn r.ns++zce r.fs else if r.kind=2 then zam r.tm 4++zcn r.ns else if r.kind=7 then zam (zaz r.lo) 4++(zam (zaz r.hi) 4++zdn r.es) else [])
def zbv (r:zaj):Bool :=
 if r.kind=1 then decide (r.tm=0∧r.lo=0∧r.hi=0∧r.es=[])&&zet (-1) r.ns&&zf0 r.fs
 else if r.kind=2 then decide (r.lo=0∧r.hi=0∧r.es=[]∧r.fs=[])&&zet (-1) r.ns
 else if r.kind=3∨r.kind=4∨r.kind=5 then decide (r.tm=0∧r.lo=0∧r.hi=0∧r.es=[]∧r.fs=[]∧r.ns=[])
 else if r.kind=7 then decide (r.tm=0∧r.ns=[]∧r.fs=[]∧0≤r.lo∧r.lo≤10000∧0≤r.hi∧r.hi≤10000)&&zho r.es
 else false
structure zaj.typ (r:zaj):Prop where
 i0:0≤r.id∧r.id<4294967296
 t0:0≤r.tm∧r.tm<4294967296
 fv:∀ f∈r.fs,zff f.2
 ev:∀ e∈r.es,0≤e.1∧e.1<4294967296∧∀ f∈e.2,zff f.2
def rdR (l:List Int):Option (zaj×List Int):=match rd 1 l with
 | none=>none
 | some (kind,l)=>match rd 4 l with
  | none=>none
  | some (id,l)=>
   if kind=1 then match rdN l with
    | none=>none
    | some (ns,l)=>match zgz l with
     | none=>none
     | some (fs,l)=>some (⟨kind,id,0,ns,fs,0,0,[]⟩,l)
   else if kind=2 then match rd 4 l with
    | none=>none
    | some (tm,l)=>match rdN l with
     | none=>none
     | some (ns,l)=>some (⟨kind,id,tm,ns,[],0,0,[]⟩,l)
   else if kind=7 then match rd 4 l with
    | none=>none
    | some (lo,l)=>match rd 4 l with
     | none=>none
     | some (hi,l)=>match zil l with
      | none=>none
      | some (es,l)=>some (⟨kind,id,0,[],[],lo,hi,es⟩,l)
   else some (⟨kind,id,0,[],[],0,0,[]⟩,l)
theorem zqn {r:zaj} (h:zbv r=true):1≤r.kind∧r.kind≤7∧r.kind≠6:=by
 unfold zbv at h
 repeat' (split at h)
 all_goals first | omega | cases h
theorem ypn {r:zaj} (h:zbv r=true) (t:r.typ) (q:List Int):rdR (zag r++q)=some (r,q):=by
 have hk:=zqn h;unfold rdR zag;rw [List.append_assoc,zhd (by omega) (by omega) (by simp; omega)];simp only;rw [List.append_assoc,zhd (by omega) t.i0.1 (by have := t.i0.2; simpa using this)];simp only;obtain ⟨kind,id,tm,ns,fs,lo,hi,es⟩:=r;obtain ⟨⟨i0,i1⟩,⟨t0,t1⟩,fv,ev⟩:=t;simp only at *;unfold zbv at h;simp only at h
 by_cases h1:kind=1
 ·subst h1;simp only [if_true,Bool.and_eq_true,decide_eq_true_eq] at h ⊢;obtain ⟨⟨⟨rfl,rfl,rfl,rfl⟩,hn⟩,hf⟩:=h;rw [List.append_assoc,ydf hn];simp only;rw [yab hf fv]
 ·rw [if_neg h1] at h;rw [if_neg h1,if_neg h1]
  by_cases h2:kind=2
  ·subst h2;simp only [if_true,Bool.and_eq_true,decide_eq_true_eq] at h ⊢;obtain ⟨⟨rfl,rfl,rfl,rfl⟩,hn⟩:=h;rw [List.append_assoc,zhd (by omega) t0 (by simpa using t1)];simp only;rw [ydf hn]
  ·rw [if_neg h2] at h;rw [if_neg h2,if_neg h2]
   by_cases h7:kind=7
   ·subst h7;simp only [show ¬ ((7:Int)=3∨(7:Int)=4∨(7:Int)=5) by omega,if_false,if_true,Bool.and_eq_true,decide_eq_true_eq] at h ⊢;obtain ⟨⟨rfl,rfl,rfl,l0,l1,h0,h1'⟩,he⟩:=h;rw [zge (by omega) (by omega),zge (by omega) (by omega),List.append_assoc,zhd (by omega) (by omega) (by simp; omega)];simp only;rw [List.append_assoc,zhd (by omega) (by omega) (by simp; omega)];simp only;rw [yls he ev]
   ·rw [if_neg h7,if_neg h7]
    by_cases h3:kind=3∨kind=4∨kind=5
    ·rw [if_pos h3] at h;simp only [decide_eq_true_eq] at h;obtain ⟨rfl,rfl,rfl,rfl,rfl,rfl⟩:=h
     simp
    ·rw [if_neg h3,if_neg h7] at h; cases h
section
variable {B p tot:Nat} {e:TypeId} {post:List Value} {v:Value} {bs:List Int}
theorem zbf.box (P:zbf M B p e post tot v bs) (hm:za6 M N) {b:Nat} (hb:N≤b) (x:Option zah):zbf (upd M b x) B p e post tot v bs:=by
 obtain ⟨lr,hp⟩:=P.pp;have := hm.lt hp;exact ⟨⟨lr,(za4 _ _ (by omega)).trans hp⟩,P.ow.keep (λq hq=>za4 _ _ (by have := P.ow.lt hm q hq; omega)) (Nat.le_refl _),P.ne,P.bl⟩
theorem bfr.box {v':Value} {b:Nat} {x:Option zah} (hb:N≤b) (h:bfr (upd M b x) M' (b+1) p v v'):bfr M M' N p v v':=λq q1 q2 q3=>
 ⟨((h q q1 q2 (by omega)).1).trans (za4 _ _ (by omega)),(h q q1 q2 (by omega)).2⟩
theorem yb2 {nv:Value} {l:List Int} (P:zbf M B p e post tot v bs) (hm:za6 M N) (hB:B≤N) (hn:sF F 1 nv l.length (ic l)) (hl:bs.length+(zcn l).length≤2097152) (k:ztc F M N B p e post tot v bs (zcn l) K) :
  cF 195 #[.pointer (some ⟨p,0,none⟩),nv] K E ⟨F,M,N⟩:=by
 refine za5 mixed Tryz.func195 (by kernel_rfl) (ywt _ E _ _) (λhw=>?_);have hfl:=zgn (λx=>zam (zaz x) 1) 1 l λx _=>by rw [zaa]; omega
 unfold zcn at hl;rw [List.length_append,zaa] at hl;refine zb1 hn ?_;refine zkh (size:=1) P hm hB (by omega) (by omega) (λv1 M1 N1 P1 hfr1 hN1 hm1 hw1=>?_);refine zb1 hn ?_
 refine ybi (σ:=Nat×Value) (λs=>.int .i64 (s.1:Nat))
  (λs h'=>∃ M' N',h'=⟨F,M',N'⟩∧N≤N'∧za6 M' N'∧s.1≤l.length∧zbf M' B p e post tot s.2 (bs++zam (zaz (l.length:Nat)) 1++(l.take s.1).flatMap λx=>zam (zaz x) 1)∧bfr M M' N p v s.2) (λs=>l.length - s.1) (0,v1) rfl
  (λhw2=>⟨_,za0 hw2,M1,N1,rfl,hN1,hm1,Nat.zero_le _,by simpa using P1,hfr1⟩) (λkk s j h1 hI hw2 next=>?_)
 rw [yb9];obtain ⟨M2,N2,rfl,hN2,hm2,hi,P2,hfr⟩:=hI;refine zau (λhlt=>?_) (λhge=>?_)
 ·have i1:s.1<l.length:=by omega
  have et:=zeg (λx=>zam (zaz x) 1) l i1;have hle:=zjd (λx=>zam (zaz x) 1) l (s.1+1);rw [et,List.length_append,zaa] at hle;try simp only [sS]
  refine zes hn i1 λp'=>?_;refine zkh (size:=1) P2 hm2 (by omega) (by omega) (by rw [List.length_append,List.length_append,zaa]; omega) (λv3 M3 N3 P3 hfr3 hN3 hm3 hw3=>?_);refine zaq (by omega) ?_;refine next (s.1+1,v3) _ _ (by simp only; omega) (λhw5=>⟨_,za0 hw5,M3,N3,rfl,by omega,hm3,i1,?_,hfr.trans hfr3 hN2⟩);simp only;rw [et,← List.append_assoc];exact P3
 ·try simp only [sS]
  have es:s.1=l.length:=by omega
  rw [es,List.take_length,List.append_assoc] at P2;exact λhc=>⟨_,za0 hc,λhw'=>k s.2 M2 N2 P2 hfr hN2 hm2 hw'⟩
theorem yc3 {fv:Value} {l:List Fc} (P:zbf M B p e post tot v bs) (hm:za6 M N) (hB:B≤N) (hf:zbp F fv l) (hl:bs.length+(zce l).length≤2097152) (k:ztc F M N B p e post tot v bs (zce l) K) :
  cF 196 #[.pointer (some ⟨p,0,none⟩),fv] K E ⟨F,M,N⟩:=by
 refine za5 mixed Tryz.func196 (by kernel_rfl) (yvy _ E _ _) (λhw=>?_);obtain ⟨rows,hf1,hf2⟩:=hf;have hfl:=zgn ze5 9 l λf _=>by rw [zlr]; omega
 unfold zce at hl;rw [List.length_append,zaa] at hl;refine zb1 hf1 ?_;refine zkh (size:=4) P hm hB (by omega) (by omega) (λv1 M1 N1 P1 hfr1 hN1 hm1 hw1=>?_);refine zb1 hf1 ?_
 refine yau (σ:=Nat×Value) (λs=>.int .i64 (s.1:Nat))
  (λs h'=>∃ M' N',h'=⟨F,M',N'⟩∧N≤N'∧za6 M' N'∧s.1≤l.length∧zbf M' B p e post tot s.2 (bs++zam (zaz (l.length:Nat)) 4++(l.take s.1).flatMap ze5)∧bfr M M' N p v s.2) (λs=>l.length - s.1) (0,v1) rfl
  (λhw2=>⟨_,za0 hw2,M1,N1,rfl,hN1,hm1,Nat.zero_le _,by simpa using P1,hfr1⟩) (λkk s j h1 hI hw2 next=>?_)
 rw [yb0];obtain ⟨M2,N2,rfl,hN2,hm2,hi,P2,hfr⟩:=hI;refine zau (λhlt=>?_) (λhge=>?_)
 ·have i1:s.1<l.length:=by omega
  have et:=zeg ze5 l i1;have hle:=zjd ze5 l (s.1+1);rw [et,List.length_append,zlr] at hle;have hpl:(bs++zam (zaz (l.length:Nat)) 4++(l.take s.1).flatMap ze5).length+(9+l[s.1].1.length*4)≤2097152:=by rw [List.length_append,List.length_append,zaa]; omega
  generalize hpre:bs++zam (zaz (l.length:Nat)) 4++(l.take s.1).flatMap ze5=pre at P2 hpl;try simp only [sS]
  refine zie hf1 hf2 (by decide) i1 λp' r _ hR _ _=>?_;obtain ⟨kv,rfl,hkv,hkl⟩:=hR;obtain ⟨ka,kc,rfl,_⟩:=hkv.form;refine zar (cs:=[.slice none 0 0,.int .i64 0]) (λb1 hb1=>?_);refine stM (cs':=[.slice ka l[s.1].1.length kc,.int .i64 l[s.1].2]) ?_ (za2 _ _ _) rfl rfl (List.all_eq_true.1 rfl);rw [zas];have P3:=P2.box hm2 hb1 (some (.cells 110 [.slice ka l[s.1].1.length kc,.int .i64 l[s.1].2] 2));have hb:=za2 M2 b1 (some (.cells 110 [.slice ka l[s.1].1.length kc,.int .i64 l[s.1].2] 2));have hm3:=hm2.new hb1 (some (.cells 110 [.slice ka l[s.1].1.length kc,.int .i64 l[s.1].2] 2));have hM3:∀ q,q<N2 -> upd M2 b1 (some (.cells 110 [.slice ka l[s.1].1.length kc,.int .i64 l[s.1].2] 2)) q=M2 q:=λq hq=>za4 _ _ (by omega);generalize upd M2 b1 _=M3 at *;try simp only [sS]
  refine ldM (v:=.slice ka l[s.1].1.length kc) ?_ hb;refine zb1 hkv ?_;refine zkh (size:=1) P3 hm3 (by omega) (by omega) (by omega) (λv4 M4 N4 P4 hfr4 hN4 hm4 hw4=>?_)
  have hvb:b1≠p∧s.2.ownBlock≠some b1:=by
   obtain ⟨lr,hp⟩:=P2.pp;exact ⟨by have := hm2.lt hp; omega,λh=>by have := P2.ow.lt hm2 _ h; omega⟩
  try simp only [sS]
  refine ldM (v:=.slice ka l[s.1].1.length kc) ?_ ((hfr4 b1 hvb.1 hvb.2 (by omega)).1.trans hb);refine zb1 hkv ?_
  refine zio (σ:=Nat×Value) (λt=>.int .i64 (t.1:Nat))
   (λt h'=>∃ M' N',h'=⟨F,M',N'⟩∧b1<N'∧za6 M' N'∧t.1≤l[s.1].1.length∧zbf M' B p e post tot t.2 (pre++zam (zaz (l[s.1].1.length:Nat)) 1++zg4 (l[s.1].1.take t.1))∧bfr M3 M' (b1+1) p s.2 t.2) (λt=>l[s.1].1.length - t.1) (0,v4) rfl
   (λhw5=>⟨_,za0 hw5,M4,N4,rfl,by omega,hm4,Nat.zero_le _,by simpa [zg4] using P4,hfr4⟩) (λkk2 t j2 h2 hI2 hw5 next2=>?_)
  rw [zih];obtain ⟨M5,N5,rfl,hN5,hm5,hi5,P5,hfr5⟩:=hI2;refine zau (λhlt2=>?_) (λhge2=>?_)
  ·have k1:t.1<l[s.1].1.length:=by omega
   try simp only [sS]
   refine zes hkv k1 λp'=>?_;refine zkh (size:=4) P5 hm5 (by omega) (by omega) (by rw [List.length_append,List.length_append,zaa,zlz,List.length_take]; omega) (λv6 M6 N6 P6 hfr6 hN6 hm6 hw6=>?_);refine zaq (by omega) ?_;have ek:zg4 (l[s.1].1.take (t.1+1))=zg4 (l[s.1].1.take t.1)++zam (zaz l[s.1].1[t.1]) 4:=zeg _ _ k1;refine next2 (t.1+1,v6) _ _ (by simp only; omega) (λhw7=>⟨_,za0 hw7,M6,N6,rfl,by omega,hm6,k1,?_,hfr5.trans hfr6 (by omega)⟩);simp only;rw [ek,← List.append_assoc];exact P6
  ·try simp only [sS]
   have es:t.1=l[s.1].1.length:=by omega
   rw [es,List.take_length] at P5;try simp only [sS]
   refine ldM (v:=.int .i64 l[s.1].2) ?_ ((hfr5 b1 hvb.1 hvb.2 (by omega)).1.trans hb);refine ynt (size:=8) P5 hm5 (by omega) (by omega) (by rw [List.length_append,List.length_append,zaa,zlz]; omega) (λv6 M6 N6 P6 hfr6 hN6 hm6 hw6=>?_);refine zaq (by omega) ?_;refine next (s.1+1,v6) _ _ (by simp only; omega) (λhw7=>⟨_,za0 hw7,M6,N6,rfl,by omega,hm6,i1,?_,?_⟩)
   ·simp only;rw [et,← List.append_assoc,hpre];have:ze5 l[s.1]=zam (zaz (l[s.1].1.length:Nat)) 1++(zg4 l[s.1].1++zam (zaz l[s.1].2) 8):=rfl;rw [this,← List.append_assoc,← List.append_assoc];exact P6
   ·exact hfr.trans (λq q1 q2 q3=>by
     have h1:=hfr5 q q1 q2 (by omega);have h2:=hfr6 q q1 h1.2 (by omega);exact ⟨(h2.1.trans h1.1).trans (hM3 q q3),h2.2⟩) hN2
 ·try simp only [sS]
  have es:s.1=l.length:=by omega
  rw [es,List.take_length,List.append_assoc] at P2;exact λhc=>⟨_,za0 hc,λhw'=>k s.2 M2 N2 P2 hfr hN2 hm2 hw'⟩
end
theorem ynd {b:Bool} (h:true = !b):b=false:=by cases b<;>simp_all
theorem yne {b:Bool} (h:false = !b):b=true:=by cases b<;>simp_all
def okm (x:Int):Bool:=decide (0≤x∧x≤9999)
theorem yo0 {x:Int} (k:K (.bool (!okm x)) ⟨F,M,N⟩):cF 320 #[.int .i64 x] K E ⟨F,M,N⟩:=by
 refine za5 mixed Tryz.func320 (by kernel_rfl) (yvm _ E _) (λhw=>?_);unfold okm at k;refine zau (λh=>?_) (λh=>?_)
 ·try simp only [sS]
  rw [decide_eq_false (by omega)] at k;exact λhc=>⟨_,za0 hc,λ_=>k⟩
 ·try simp only [sS]
  refine zby (λh2=>?_) (λh2=>?_)
  ·try simp only [sS]
   rw [decide_eq_false (by omega)] at k;exact λhc=>⟨_,za0 hc,λ_=>k⟩
  ·try simp only [sS]
   rw [decide_eq_true (by omega)] at k;exact λhc=>⟨_,za0 hc,λ_=>k⟩
theorem yqh {v:Value} {l:List Int} (hv:sF F 1 v l.length (ic l)) (hl:l.length≤140737488351232) (k:∀ r:Int,(decide (r≥0) = !l.all okm) -> K (.int .i64 r) ⟨F,M,N⟩) :
  cF 322 #[v,.func (.func 320) #[] #[]] K E ⟨F,M,N⟩:=by
 refine za5 mixed Tryz.func322 (by kernel_rfl) (yxt _ E _ _) (λhw=>?_);refine zb1 hv ?_
 refine zx2 (σ:=Nat) (λi=>.int .i64 (i:Nat)) (λi h=>h=⟨F,M,N⟩∧i≤l.length∧l.all okm=(l.drop i).all okm) (λi=>l.length - i) 0 rfl
  (λhw1=>⟨_,za0 hw1,rfl,Nat.zero_le _,rfl⟩) (λk1 i j h1 hI hw1 next=>?_)
 rw [zx7];obtain ⟨rfl,hi,he⟩:=hI;refine zau (λhlt=>?_) (λhge=>?_)
 ·have h1:i<l.length:=by omega
  try simp only [sS]
  refine zes hv h1 λp=>yo0 ?_;rw [List.drop_eq_getElem_cons h1,List.all_cons] at he;cases hn:okm l[i]
  ·try simp only [sS]
   refine λhc=>⟨_,za0 hc,λ_=>k _ ?_⟩;rw [he,hn,decide_eq_true (by omega)]; rfl
  ·try simp only [sS]
   refine zaq (by omega) ?_;refine next (i+1) _ _ (by omega) (λhw2=>⟨_,za0 hw2,rfl,by omega,?_⟩);rw [he,hn,Bool.true_and]
 ·try simp only [sS]
  refine λhc=>⟨_,za0 hc,λ_=>k _ ?_⟩;rw [he,List.drop_eq_nil_of_le (by omega)]; rfl
theorem ykj {cs:List Value} {f:Fc} (hf:zcr F cs f) (k:∀ N',N≤N' -> (Hp.mk F M N').wf -> K (.bool (zh1 f)) ⟨F,M,N'⟩) :
  cF 301 #[.agg cs.toArray] K E ⟨F,M,N⟩:=by
 refine za5 mixed Tryz.func301 (by kernel_rfl) (yu2 _ E _) (λhw=>?_);have hm:za6 M N:=hw.m;obtain ⟨kv,rfl,hkv,hkl⟩:=hf;have he:zh1 f=(decide (f.1.length≤4)&&f.1.all okm):=rfl;rw [he] at k;refine zar (cs:=[kv,.int .i64 f.2]) (λb hb=>?_)
 have fin:∀ v',v'=(decide (f.1.length≤4)&&f.1.all okm) -> ∀ h',h'=(⟨F,upd M b (some (.cells 110 [kv,.int .i64 f.2] 2)),b+1⟩:Hp) -> h'.wf -> ∃ h'',h'.wk h''∧(h''.wf -> K (.bool v') h''):=λv' e h' e' hc=>by
  subst e; subst e';exact ⟨⟨F,M,b+1⟩,zbm hc (zb4 (zbc _) (hm _ hb)),λhw'=>k _ (by omega) hw'⟩
 try simp only [sS]
 refine ldM (v:=kv) ?_ (za2 _ _ _);refine zb1 hkv ?_;refine zdv (λh=>?_) (λh=>?_)
 ·try simp only [sS]
  refine ldM (v:=kv) ?_ (za2 _ _ _);refine za5 mixed Tryz.func310 (by kernel_rfl) (yxo _ E _ _) (λhw=>?_);refine yqh hkv hkl (λr hr=>?_);refine zg7 (λh2=>?_) (λh2=>?_)
  ·rw [decide_eq_true h2] at hr;refine λhc=>⟨_,za0 hc,λhw'=>?_⟩;try simp only [sS]
   exact fin _ (by rw [ynd hr,Bool.and_false]) _ rfl
  ·rw [decide_eq_false h2] at hr;refine λhc=>⟨_,za0 hc,λhw'=>?_⟩;try simp only [sS]
   exact fin _ (by rw [decide_eq_true (by omega),yne hr]; rfl) _ rfl
 ·try simp only [sS]
  exact fin _ (by rw [decide_eq_false (by omega)]; rfl) _ rfl
theorem ym7 {cs:List Value} {f:Fc} (hf:zcr F cs f) (k:∀ N',N≤N' -> (Hp.mk F M N').wf -> K (.bool (!zh1 f)) ⟨F,M,N'⟩) :
  cF 300 #[.agg cs.toArray] K E ⟨F,M,N⟩:=by
 refine za5 mixed Tryz.func300 (by kernel_rfl) (yw1 _ E _) (λhw=>?_);have hm:za6 M N:=hw.m;obtain ⟨kv,rfl,hkv,hkl⟩:=hf;refine zar (cs:=[kv,.int .i64 f.2]) (λb hb=>?_);refine zbd (vs:=[kv,.int .i64 f.2]) ?_ (za2 _ _ _);refine ykj ⟨kv,rfl,hkv,hkl⟩ (λN' hN hw'=>?_);try simp only [sS]
 exact λhc=>⟨⟨F,M,N'⟩,zbm hc (zb4 (zbc _) (hm _ hb)),λhw'=>k _ (by omega) hw'⟩
theorem ys9 {v:Value} {l:List Fc} (hv:zbp F v l) (hl:l.length≤140737488351232) (k:∀ r:Int,∀ N',N≤N' -> (Hp.mk F M N').wf -> (decide (r≥0) = !l.all zh1) -> K (.int .i64 r) ⟨F,M,N'⟩) :
  cF 152 #[v,.func (.func 300) #[] #[]] K E ⟨F,M,N⟩:=by
 refine za5 mixed Tryz.func152 (by kernel_rfl) (yle _ E _ _) (λhw=>?_);obtain ⟨rows,hf1,hf2⟩:=hv;refine zb1 hf1 ?_
 refine zk5 (σ:=Nat) (λi=>.int .i64 (i:Nat)) (λi h=>∃ N',h=⟨F,M,N'⟩∧N≤N'∧i≤l.length∧l.all zh1=(l.drop i).all zh1) (λi=>l.length - i) 0 rfl
  (λhw1=>⟨_,za0 hw1,N,rfl,Nat.le_refl _,Nat.zero_le _,rfl⟩) (λk1 i j h1 hI hw1 next=>?_)
 rw [zjt];obtain ⟨N1,rfl,hN1,hi,he⟩:=hI;refine zau (λhlt=>?_) (λhge=>?_)
 ·have i1:i<l.length:=by omega
  try simp only [sS]
  refine zie hf1 hf2 (by decide) i1 λp r _ hR _ _=>ym7 hR (λN2 hN2 hw2=>?_);rw [List.drop_eq_getElem_cons i1,List.all_cons] at he;cases hn:zh1 l[i]
  ·try simp only [sS]
   refine λhc=>⟨_,za0 hc,λhw'=>k _ _ (by omega) hw' ?_⟩;rw [he,hn,decide_eq_true (by omega)]; rfl
  ·try simp only [sS]
   refine zaq (by omega) ?_;refine next (i+1) _ _ (by omega) (λhw3=>⟨_,za0 hw3,N2,rfl,by omega,by omega,?_⟩);rw [he,hn,Bool.true_and]
 ·try simp only [sS]
  refine λhc=>⟨_,za0 hc,λhw'=>k _ _ hN1 hw' ?_⟩;rw [he,List.drop_eq_nil_of_le (by omega)]; rfl
theorem ydi {v:Value} {l:List Fc} (hv:zbp F v l) (hl:l.length≤140737488351232) (k:∀ N',N≤N' -> (Hp.mk F M N').wf -> K (.bool (zf0 l)) ⟨F,M,N'⟩) :
  cF 256 #[v] K E ⟨F,M,N⟩:=by
 refine za5 mixed Tryz.func256 (by kernel_rfl) (yvt _ E _) (λhw=>?_);unfold zf0 at k;have hlv:zac v=some (.int .i64 (l.length:Nat)):=by obtain ⟨a,c,h⟩:=hv.form; rw [h]; rfl
 refine zab hlv ?_;refine zdv (λh=>?_) (λh=>?_)
 ·rw [decide_eq_true (by omega),Bool.true_and] at k;try simp only [sS]
  refine za5 mixed Tryz.func142 (by kernel_rfl) (yro _ E _ _) (λhw=>?_);refine ys9 hv hl (λr N2 hN2 hw2 hr=>?_);refine zg7 (λh2=>?_) (λh2=>?_)
  ·rw [decide_eq_true h2] at hr;have ha:=ynd hr;rw [ha] at k;refine λhc=>⟨_,za0 hc,λhw'=>?_⟩;try simp only [sS]
   exact λhc=>⟨_,za0 hc,λhw'=>k _ (by omega) hw'⟩
  ·rw [decide_eq_false h2] at hr;have ha:=yne hr;rw [ha] at k;refine λhc=>⟨_,za0 hc,λhw'=>?_⟩;try simp only [sS]
   exact λhc=>⟨_,za0 hc,λhw'=>k _ (by omega) hw'⟩
 ·rw [decide_eq_false (by omega),Bool.false_and] at k;try simp only [sS]
  exact λhc=>⟨_,za0 hc,λhw'=>k _ (Nat.le_refl _) hw'⟩
theorem ydt {v:Value} {l:List Int} (hv:sF F 1 v l.length (ic l)) (hl:l.length≤140737488351232) (k:(Hp.mk F M N).wf -> K (.bool (zet (-1) l)) ⟨F,M,N⟩) :
  cF 255 #[v] K E ⟨F,M,N⟩:=by
 refine za5 mixed Tryz.func255 (by kernel_rfl) (yxs _ E _) (λhw=>?_);refine zb1 hv ?_
 refine zsv (σ:=Nat×Int) (λs=>.int .i64 s.2) (λs=>.int .i64 (s.1:Nat)) (λs h=>h=⟨F,M,N⟩∧s.1≤l.length∧zet (-1) l=zet s.2 (l.drop s.1)) (λs=>l.length - s.1) (0,-1) rfl rfl
  (λhw1=>⟨_,za0 hw1,rfl,Nat.zero_le _,rfl⟩) (λk1 s j h1 hI hw1 next=>?_)
 rw [zt9];obtain ⟨rfl,hi,he⟩:=hI;refine zau (λhlt=>?_) (λhge=>?_)
 ·have i1:s.1<l.length:=by omega
  try simp only [sS]
  refine zes hv i1 λp=>?_;rw [List.drop_eq_getElem_cons i1,zet] at he;refine zdv (λh=>?_) (λh=>?_)
  ·try simp only [sS]
   rw [decide_eq_false (by omega),Bool.false_and] at he;rw [he] at k;exact λhc=>⟨_,za0 hc,k⟩
  ·try simp only [sS]
   refine zg7 (λh2=>?_) (λh2=>?_)
   ·try simp only [sS]
    rw [decide_eq_false (by omega),Bool.false_and] at he;rw [he] at k;exact λhc=>⟨_,za0 hc,k⟩
   ·try simp only [sS]
    rw [decide_eq_true (by omega),Bool.true_and] at he;refine zaq (by omega) ?_;exact next (s.1+1,l[s.1]) _ _ (by simp only; omega) (λhw3=>⟨_,za0 hw3,rfl,i1,he⟩)
 ·try simp only [sS]
  try rw [t255_1_1_1]
  rw [List.drop_eq_nil_of_le (by omega)] at he;rw [he] at k;exact λhc=>⟨_,za0 hc,k⟩
section
variable {B p tot:Nat} {e:TypeId} {post:List Value} {v:Value} {bs:List Int}
theorem ynj {ev:Value} {l:List En} (P:zbf M B p e post tot v bs) (hm:za6 M N) (hB:B≤N) (hf:zcb F ev l) (hl:bs.length+(zdn l).length≤2097152) (k:ztc F M N B p e post tot v bs (zdn l) K) :
  cF 198 #[.pointer (some ⟨p,0,none⟩),ev] K E ⟨F,M,N⟩:=by
 refine za5 mixed Tryz.func198 (by kernel_rfl) (yv2 _ E _ _) (λhw=>?_);obtain ⟨rows,hf1,hf2⟩:=hf;have hfl:=zgn zeu 8 l λf _=>by unfold zeu; rw [List.length_append,zaa]; have := zyj f.2; omega
 unfold zdn at hl;rw [List.length_append,zaa] at hl;refine zb1 hf1 ?_;refine zkh (size:=4) P hm hB (by omega) (by omega) (λv1 M1 N1 P1 hfr1 hN1 hm1 hw1=>?_);refine zb1 hf1 ?_
 refine yav (σ:=Nat×Value) (λs=>.int .i64 (s.1:Nat))
  (λs h'=>∃ M' N',h'=⟨F,M',N'⟩∧N≤N'∧za6 M' N'∧s.1≤l.length∧zbf M' B p e post tot s.2 (bs++zam (zaz (l.length:Nat)) 4++(l.take s.1).flatMap zeu)∧bfr M M' N p v s.2) (λs=>l.length - s.1) (0,v1) rfl
  (λhw2=>⟨_,za0 hw2,M1,N1,rfl,hN1,hm1,Nat.zero_le _,by simpa using P1,hfr1⟩) (λkk s j h1 hI hw2 next=>?_)
 rw [ycd];obtain ⟨M2,N2,rfl,hN2,hm2,hi,P2,hfr⟩:=hI;refine zau (λhlt=>?_) (λhge=>?_)
 ·have i1:s.1<l.length:=by omega
  have et:=zeg zeu l i1;have hle:=zjd zeu l (s.1+1);rw [et,List.length_append] at hle;have eE:zeu l[s.1]=zam (zaz l[s.1].1) 4++zce l[s.1].2:=rfl;rw [eE,List.length_append,zaa] at hle;have hpl:(bs++zam (zaz (l.length:Nat)) 4++(l.take s.1).flatMap zeu).length+(4+(zce l[s.1].2).length)≤2097152:=by rw [List.length_append,List.length_append,zaa]; omega
  generalize hpre:bs++zam (zaz (l.length:Nat)) 4++(l.take s.1).flatMap zeu=pre at P2 hpl;try simp only [sS]
  refine zie hf1 hf2 (by decide) i1 λp' r _ hR _ _=>?_;obtain ⟨fv,rfl,hfv,hkl⟩:=hR;obtain ⟨ka,kc,e1⟩:=hfv.form;refine zar (cs:=[.int .u32 0,.slice none 0 0]) (λb1 hb1=>?_);refine stM (cs':=[.int .u32 l[s.1].1,fv]) ?_ (za2 _ _ _) rfl rfl (by rw [e1]; exact List.all_eq_true.1 rfl);rw [zas];have P3:=P2.box hm2 hb1 (some (.cells 143 [.int .u32 l[s.1].1,fv] 2));have hb:=za2 M2 b1 (some (.cells 143 [.int .u32 l[s.1].1,fv] 2));have hm3:=hm2.new hb1 (some (.cells 143 [.int .u32 l[s.1].1,fv] 2));have hM3:∀ q,q<N2 -> upd M2 b1 (some (.cells 143 [.int .u32 l[s.1].1,fv] 2)) q=M2 q:=λq hq=>za4 _ _ (by omega);generalize upd M2 b1 _=M3 at *;try simp only [sS]
  refine ldM (v:=.int .u32 l[s.1].1) ?_ hb;refine zy7 (size:=4) P3 hm3 (by omega) (by omega) (by omega) (λv4 M4 N4 P4 hfr4 hN4 hm4 hw4=>?_)
  have hvb:b1≠p∧s.2.ownBlock≠some b1:=by
   obtain ⟨lr,hp⟩:=P2.pp;exact ⟨by have := hm2.lt hp; omega,λh=>by have := P2.ow.lt hm2 _ h; omega⟩
  try simp only [sS]
  refine ldM (v:=fv) ?_ ((hfr4 b1 hvb.1 hvb.2 (by omega)).1.trans hb);refine yc3 P4 hm4 (by omega) hfv (by rw [List.length_append,zaa]; omega) (λv6 M6 N6 P6 hfr6 hN6 hm6 hw6=>?_);refine zaq (by omega) ?_;refine next (s.1+1,v6) _ _ (by simp only; omega) (λhw7=>⟨_,za0 hw7,M6,N6,rfl,by omega,hm6,i1,?_,?_⟩)
  ·simp only;rw [et,← List.append_assoc,hpre,eE,← List.append_assoc];exact P6
  ·exact hfr.trans (λq q1 q2 q3=>by
    have h1:=hfr4 q q1 q2 (by omega);have h2:=hfr6 q q1 h1.2 (by omega);exact ⟨(h2.1.trans h1.1).trans (hM3 q q3),h2.2⟩) hN2
 ·try simp only [sS]
  have es:s.1=l.length:=by omega
  rw [es,List.take_length,List.append_assoc] at P2;exact λhc=>⟨_,za0 hc,λhw'=>k s.2 M2 N2 P2 hfr hN2 hm2 hw'⟩
end
def prv (l:List En) (i:Nat):Int:=if i=0 then -1 else (l.getD (i - 1) (0,[])).1
theorem yax {l:List En} {i:Nat} (h0:0<i) (hi:i - 1<l.length):prv l i=l[i - 1].1:=by
 unfold prv; rw [if_neg (by omega),List.getD_eq_getElem?_getD,List.getElem?_eq_getElem hi]; rfl
theorem ys3 {v:Value} {l:List En} (hv:zcb F v l) (hl:l.length≤140737488351232) (ht:∀ x∈l,0≤x.1) (k:∀ M' N',N≤N' -> (∀ q,q<N -> M' q=M q) -> za6 M' N' -> (Hp.mk F M' N').wf -> K (.bool (zho l)) ⟨F,M',N'⟩) :
  cF 260 #[v] K E ⟨F,M,N⟩:=by
 refine za5 mixed Tryz.func260 (by kernel_rfl) (ywr _ E _) (λhw=>?_);have hm:za6 M N:=hw.m;obtain ⟨rows,hf1,hf2⟩:=hv;unfold zho at k;refine zb1 hf1 ?_
 refine zwx (σ:=Nat) (λi=>.int .i64 (i:Nat)) (λi h=>∃ M' N',h=⟨F,M',N'⟩∧N≤N'∧(∀ q,q<N -> M' q=M q)∧za6 M' N'∧i≤l.length∧zgs (-1) l=zgs (prv l i) (l.drop i)) (λi=>l.length - i) 0 rfl
  (λhw1=>⟨_,za0 hw1,M,N,rfl,Nat.le_refl _,λ_ _=>rfl,hm,Nat.zero_le _,rfl⟩) (λk1 i j h1 hI hw1 next=>?_)
 rw [zxg];obtain ⟨M1,N1,rfl,hN1,hM1,hm1,hi,he⟩:=hI;refine zau (λhlt=>?_) (λhge=>?_)
 ·have i1:i<l.length:=by omega
  try simp only [sS]
  refine zie hf1 hf2 (by decide) i1 λp' r _ hR _ _=>?_;obtain ⟨fv,rfl,hfv,hkl⟩:=hR;obtain ⟨ka,kc,e1⟩:=hfv.form;refine zar (cs:=[.int .u32 0,.slice none 0 0]) (λb1 hb1=>?_);refine stM (cs':=[.int .u32 l[i].1,fv]) ?_ (za2 _ _ _) rfl rfl (by rw [e1]; exact List.all_eq_true.1 rfl);rw [zas];have hb:=za2 M1 b1 (some (.cells 143 [.int .u32 l[i].1,fv] 2));have hm3:=hm1.new hb1 (some (.cells 143 [.int .u32 l[i].1,fv] 2));have hM3:∀ q,q<N -> upd M1 b1 (some (.cells 143 [.int .u32 l[i].1,fv] 2)) q=M q:=λq hq=>(za4 _ _ (by omega)).trans (hM1 q hq);generalize upd M1 b1 _=M3 at *;rw [List.drop_eq_getElem_cons i1,zgs] at he
  have no:∀ N',b1+1≤N' -> zgs (-1) l=false -> ∀ h':Hp,h'=⟨F,M3,N'⟩ -> h'.wf -> ∃ h'',h'.wk h''∧(h''.wf -> K (.bool false) h''):=λN' hN h0 h' e' hc=>by
   subst e';rw [h0,Bool.and_false] at k;exact ⟨_,za0 hc,λhw'=>k M3 N' (by omega) hM3 (hm3.up hN) hw'⟩
  try simp only [sS]
  refine ldM (v:=fv) ?_ hb;refine ydi hfv hkl (λN2 hN2 hw2=>?_);cases hbt:zf0 l[i].2
  ·try simp only [sS]
   exact no _ hN2 (by rw [he,hbt]; rfl) _ rfl
  ·try simp only [sS]
   rw [hbt,Bool.true_and] at he;refine zby (λh2=>?_) (λh2=>?_)
   ·try simp only [sS]
    refine ldM (v:=.int .u32 l[i].1) ?_ hb;refine zcz (by omega) (by omega) ?_;rw [show ((i:Nat):Int) - 1=((i - 1:Nat):Int) by omega];refine zeo hf1 hf2 (by decide) (show i - 1<l.length by omega) (off:=0) (by decide) λp q r x hR _ hx=>?_;obtain ⟨gv,rfl,_⟩:=hR;have hx':x=.int .u32 l[i - 1].1:=by simpa using hx.symm
    subst hx';have hp:prv l i=l[i - 1].1:=yax (by omega) (by omega);rw [hp] at he;refine zdv (λh3=>?_) (λh3=>?_)
    ·try simp only [sS]
     exact no _ hN2 (by rw [he,decide_eq_false (by omega)]; rfl) _ rfl
    ·try simp only [sS]
     rw [decide_eq_true (by omega),Bool.true_and] at he;refine zaq (by omega) ?_;refine next (i+1) _ _ (by omega) (λhw3=>⟨_,za0 hw3,M3,N2,rfl,by omega,hM3,hm3.up hN2,by omega,?_⟩);rw [he,yax (by omega) (by simpa using i1)]; rfl
   ·try simp only [sS]
    have h0:i=0:=by omega
    have hp:prv l i = -1:=by unfold prv; rw [if_pos h0]
    have := ht l[i] (List.getElem_mem _);rw [hp,decide_eq_true (by omega),Bool.true_and] at he;refine zaq (by omega) ?_;refine next (i+1) _ _ (by omega) (λhw3=>⟨_,za0 hw3,M3,N2,rfl,by omega,hM3,hm3.up hN2,by omega,?_⟩);rw [he,yax (by omega) (by simpa using i1)]; rfl
 ·try simp only [sS]
  try rw [t260_1_1]
  rw [List.drop_eq_nil_of_le (by omega),zgs] at he;rw [he,Bool.and_true] at k;refine zb1 hf1 ?_;refine zdv (λh3=>?_) (λh3=>?_)
  ·rw [decide_eq_true (by omega)] at k;exact λhc=>⟨_,za0 hc,λhw'=>k M1 N1 hN1 hM1 hm1 hw'⟩
  ·rw [decide_eq_false (by omega)] at k;exact λhc=>⟨_,za0 hc,λhw'=>k M1 N1 hN1 hM1 hm1 hw'⟩
theorem znc (hm:za6 M N) (h:∀ q,q<N -> M' q=M q):zf1 M M':=λq c hq=>by
 rcases Nat.lt_or_ge q N with hl | hl
 ·rw [h q hl]; exact hq
 ·rw [hm q hl] at hq; cases hq
theorem yor {t lo hi:Int} {na fa sa ea:Option Addr} {nn nc fn fc sc en ec:Nat}
  (k:∀ N',N≤N' -> (Hp.mk F M N').wf -> K (.bool (decide (t=0∧nn=0∧fn=0∧lo=0∧hi=0∧en=0))) ⟨F,M,N'⟩) :
  cF 261 #[.agg #[.int .u8 0,.int .u32 0,.int .u32 t,.slice na nn nc,.slice fa fn fc,.int .u32 0,.slice sa 0 sc,.int .i64 lo,.int .i64 hi,.slice ea en ec]] K E ⟨F,M,N⟩:=by
 refine za5 mixed Tryz.func261 (by kernel_rfl) (yyf _ E _) (λhw=>?_);have hm:za6 M N:=hw.m;refine zar (cs:=[.int .u8 0,.int .u32 0,.int .u32 t,.slice na nn nc,.slice fa fn fc,.int .u32 0,.slice sa 0 sc,.int .i64 lo,.int .i64 hi,.slice ea en ec]) (λb hb=>?_)
 have fin:∀ v',v'=decide (t=0∧nn=0∧fn=0∧lo=0∧hi=0∧en=0) -> ∀ h',h'=(⟨F,upd M b (some (.cells 77 [.int .u8 0,.int .u32 0,.int .u32 t,.slice na nn nc,.slice fa fn fc,.int .u32 0,.slice sa 0 sc,.int .i64 lo,.int .i64 hi,.slice ea en ec] 10)),b+1⟩:Hp) -> h'.wf -> ∃ h'',h'.wk h''∧(h''.wf -> K (.bool v') h''):=λv' e h' e' hc=>by
  subst e; subst e';exact ⟨⟨F,M,b+1⟩,zbm hc (zb4 (zbc _) (hm _ hb)),λhw'=>k _ (by omega) hw'⟩
 try simp only [sS]
 refine ldM (v:=.int .u8 0) ?_ (za2 _ _ _);refine zcj rfl ?_;try simp only [sS]
 refine ldM (v:=.int .u32 0) ?_ (za2 _ _ _);refine zcj rfl ?_;try simp only [sS]
 refine ldM (v:=.int .u32 t) ?_ (za2 _ _ _);refine zat (λh1=>?_) (λh1=>?_)
 rotate_left
 ·try simp only [sS]
  exact fin _ (decide_eq_false λh=>h1 h.1).symm _ rfl
 try simp only [sS]
 refine ldM (v:=.slice na nn nc) ?_ (za2 _ _ _);try simp only [sS]
 refine zat (λh2=>?_) (λh2=>?_)
 rotate_left
 ·try simp only [sS]
  exact fin _ (decide_eq_false λh=>h2 (by have := h.2.1; omega)).symm _ rfl
 try simp only [sS]
 refine ldM (v:=.slice fa fn fc) ?_ (za2 _ _ _);try simp only [sS]
 refine zat (λh3=>?_) (λh3=>?_)
 rotate_left
 ·try simp only [sS]
  exact fin _ (decide_eq_false λh=>h3 (by have := h.2.2.1; omega)).symm _ rfl
 try simp only [sS]
 refine ldM (v:=.int .u32 0) ?_ (za2 _ _ _);refine zcj rfl ?_;try simp only [sS]
 refine ldM (v:=.slice sa 0 sc) ?_ (za2 _ _ _);try simp only [sS]
 refine zcj rfl ?_;try simp only [sS]
 refine ldM (v:=.int .i64 lo) ?_ (za2 _ _ _);refine zat (λh4=>?_) (λh4=>?_)
 rotate_left
 ·try simp only [sS]
  exact fin _ (decide_eq_false λh=>h4 h.2.2.2.1).symm _ rfl
 try simp only [sS]
 refine ldM (v:=.int .i64 hi) ?_ (za2 _ _ _);refine zat (λh5=>?_) (λh5=>?_)
 rotate_left
 ·try simp only [sS]
  exact fin _ (decide_eq_false λh=>h5 h.2.2.2.2.1).symm _ rfl
 try simp only [sS]
 refine ldM (v:=.slice ea en ec) ?_ (za2 _ _ _);try simp only [sS]
 refine zat (λh6=>?_) (λh6=>?_)
 ·try simp only [sS]
  exact fin _ (decide_eq_true ⟨h1,by omega,by omega,h4,h5,by omega⟩).symm _ rfl
 ·try simp only [sS]
  exact fin _ (decide_eq_false λh=>h6 (by have := h.2.2.2.2.2; omega)).symm _ rfl
def zef (F:Nat -> Option (List Value)) (cs:List Value) (r:zaj):Prop :=
 ∃ na nc fv sa sc ev,cs=[.int .u8 r.kind,.int .u32 r.id,.int .u32 r.tm,.slice na r.ns.length nc,fv,.int .u32 0,.slice sa 0 sc,.int .i64 r.lo,.int .i64 r.hi,ev]∧sF F 1 (.slice na r.ns.length nc) r.ns.length (ic r.ns)∧zbp F fv r.fs∧zcb F ev r.es
theorem zef.mono {cs:List Value} {r:zaj} (h:zef F cs r) (hF:za9 F F'):zef F' cs r:=let ⟨na,nc,fv,sa,sc,ev,h1,h2,h3,h4⟩:=h; ⟨na,nc,fv,sa,sc,ev,h1,h2.mono hF,h3.mono hF,h4.mono hF⟩
theorem zef.rec {cs:List Value} {r:zaj} (h:zef F cs r):zln F cs r:=let ⟨na,nc,fv,sa,sc,ev,h1,h2,h3,h4⟩:=h; ⟨_,fv,_,_,ev,h1,h2,h3,h4,rfl,rfl⟩
structure zaj.lens (r:zaj):Prop where
 nl:r.ns.length≤140737488351232
 fl:r.fs.length≤140737488351232
 el:r.es.length≤140737488351232
 et:∀ x∈r.es,0≤x.1
theorem zlk {cs:List Value} {r:zaj} (hr:zef F cs r) (hL:r.lens) (h6:r.kind≠6) (k:∀ N',N≤N' -> (Hp.mk F M N').wf -> K (.bool (zbv r)) ⟨F,M,N'⟩) :
  cF 192 #[.agg cs.toArray] K E ⟨F,M,N⟩:=by
 refine za5 mixed Tryz.func192 (by kernel_rfl) (yue _ E _) (λhw=>?_);have hm:za6 M N:=hw.m;obtain ⟨na,nc,fv,sa,sc,ev,rfl,hn,hf,he⟩:=hr;obtain ⟨fa,fc,rfl⟩:=hf.form;obtain ⟨ea,ec,rfl⟩:∃ ea ec,ev=.slice ea r.es.length ec:=by obtain ⟨rows,h1,_⟩:=he; obtain ⟨a,c,h2,_⟩:=h1.form; exact ⟨a,c,h2⟩
 refine zar (cs:=[.int .u8 r.kind,.int .u32 r.id,.int .u32 r.tm,.slice na r.ns.length nc,.slice fa r.fs.length fc,.int .u32 0,.slice sa 0 sc,.int .i64 r.lo,.int .i64 r.hi,.slice ea r.es.length ec]) (λb1 hb1=>?_)
 have fin:∀ v',v'=zbv r -> ∀ (M2:Nat -> Option zah) N2,(∀ q,q<N -> M2 q=M q) -> N≤N2 -> ∀ h',h'=(⟨F,M2,N2⟩:Hp) -> h'.wf -> ∃ h'',h'.wk h''∧(h''.wf -> K (.bool v') h''):=λv' e M2 N2 hM2 hN2 h' e' hc=>by
  subst e; subst e';exact ⟨⟨F,M,N2⟩,zbm hc (znc hm hM2),λhw'=>k _ hN2 hw'⟩
 have tail:∀ (b:Bool) (M2:Nat -> Option zah) (N2:Nat) (kd id t lo hi:Int) (na fa ea:Option Addr) (nn nc fn fc en ec:Nat),M2 b1=some (.cells 77 [.int .u8 kd,.int .u32 id,.int .u32 t,.slice na nn nc,.slice fa fn fc,.int .u32 0,.slice sa 0 sc,.int .i64 lo,.int .i64 hi,.slice ea en ec] 10) ->
   (∀ q,q<N -> M2 q=M q) -> b1<N2 -> (b&&decide (t=0∧nn=0∧fn=0∧lo=0∧hi=0∧en=0))=zbv r ->
   pv (faV 0 (.pointer (some ⟨b1,0,none⟩))) (λt1=>st 1 t1 (.int .u8 0) λ_=>pv (faV 1 (.pointer (some ⟨b1,0,none⟩))) λt2=>st 1 t2 (.int .u32 0) λ_=>gdK (.bool b) true (λk=>ld true 10 (.pointer (some ⟨b1,0,none⟩)) k) λt3=>gdK (.bool b) true (λk=>cF 261 #[t3] k E) λt4=>pv (zad (.bool b) t4 (.bool false)) λt5 h=>h.wf -> ∃ h',h.wk h'∧(h'.wf -> K t5 h')) ⟨F,M2,N2⟩:=by
  intro b M2 N2 kd id t lo hi na fa ea nn nc fn fc en ec h1 h2 h3 h4;refine zab rfl ?_;refine stM (cs':=[.int .u8 0,.int .u32 id,.int .u32 t,.slice na nn nc,.slice fa fn fc,.int .u32 0,.slice sa 0 sc,.int .i64 lo,.int .i64 hi,.slice ea en ec]) ?_ h1 rfl rfl (List.all_eq_true.1 rfl);refine zab rfl ?_;refine stM (cs':=[.int .u8 0,.int .u32 0,.int .u32 t,.slice na nn nc,.slice fa fn fc,.int .u32 0,.slice sa 0 sc,.int .i64 lo,.int .i64 hi,.slice ea en ec]) ?_ (za2 _ _ _) rfl rfl (List.all_eq_true.1 rfl);rw [zas];have hM3:∀ x,∀ q,q<N -> upd M2 b1 x q=M q:=λx q hq=>(za4 _ _ (by omega)).trans (h2 q hq);cases b with
  | false=>
   try simp only [sS]
   exact fin _ (by rw [← h4]; rfl) _ N2 (hM3 _) (by omega) _ rfl
  | true=>
   try simp only [sS]
   refine zbd (vs:=[.int .u8 0,.int .u32 0,.int .u32 t,.slice na nn nc,.slice fa fn fc,.int .u32 0,.slice sa 0 sc,.int .i64 lo,.int .i64 hi,.slice ea en ec]) ?_ (za2 _ _ _);refine yor (λN3 hN3 hw3=>?_);try simp only [sS]
   rw [Bool.true_and] at h4;exact fin _ h4 _ N3 (hM3 _) (by omega) _ rfl
 have hb:=za2 M b1 (some (.cells 77 [.int .u8 r.kind,.int .u32 r.id,.int .u32 r.tm,.slice na r.ns.length nc,.slice fa r.fs.length fc,.int .u32 0,.slice sa 0 sc,.int .i64 r.lo,.int .i64 r.hi,.slice ea r.es.length ec] 10));have hM1:∀ q,q<N -> upd M b1 (some (.cells 77 [.int .u8 r.kind,.int .u32 r.id,.int .u32 r.tm,.slice na r.ns.length nc,.slice fa r.fs.length fc,.int .u32 0,.slice sa 0 sc,.int .i64 r.lo,.int .i64 r.hi,.slice ea r.es.length ec] 10)) q=M q:=λq hq=>za4 _ _ (by omega);have hm1:=hm.new hb1 (some (.cells 77 [.int .u8 r.kind,.int .u32 r.id,.int .u32 r.tm,.slice na r.ns.length nc,.slice fa r.fs.length fc,.int .u32 0,.slice sa 0 sc,.int .i64 r.lo,.int .i64 r.hi,.slice ea r.es.length ec] 10));generalize upd M b1 _=M1 at *;have go:∀ (x:Option zah) q,q<N -> upd M1 b1 x q=M q:=λx q hq=>(za4 _ _ (by omega)).trans (hM1 q hq);unfold zbv at tail fin;try simp only [sS]
 refine ldM (v:=.int .u8 r.kind) ?_ hb;refine zat (λg1=>?_) (λg1=>?_)
 ·simp only [g1,if_true] at tail;try simp only [sS]
  refine ldM (v:=.slice na r.ns.length nc) ?_ hb;refine ydt hn hL.nl (λhw1=>?_);cases hs:zet (-1) r.ns
  ·try simp only [sS]
   refine stM (cs':=[.int .u8 r.kind,.int .u32 r.id,.int .u32 r.tm,.slice none 0 0,.slice fa r.fs.length fc,.int .u32 0,.slice sa 0 sc,.int .i64 r.lo,.int .i64 r.hi,.slice ea r.es.length ec]) ?_ hb rfl rfl (List.all_eq_true.1 rfl);refine stM (cs':=[.int .u8 r.kind,.int .u32 r.id,.int .u32 r.tm,.slice none 0 0,.slice none 0 0,.int .u32 0,.slice sa 0 sc,.int .i64 r.lo,.int .i64 r.hi,.slice ea r.es.length ec]) ?_ (za2 _ _ _) rfl rfl (List.all_eq_true.1 rfl);rw [zas,zgm];refine tail _ _ (b1+1) _ _ _ _ _ _ _ _ _ _ _ _ _ _ (za2 _ _ _) (go _) (by omega) ?_
   simp [hs]
  ·try simp only [sS]
   refine ldM (v:=.slice fa r.fs.length fc) ?_ hb;refine ydi hf hL.fl (λN2 hN2 hw2=>?_);try simp only [sS]
   refine stM (cs':=[.int .u8 r.kind,.int .u32 r.id,.int .u32 r.tm,.slice none 0 0,.slice fa r.fs.length fc,.int .u32 0,.slice sa 0 sc,.int .i64 r.lo,.int .i64 r.hi,.slice ea r.es.length ec]) ?_ hb rfl rfl (List.all_eq_true.1 rfl);refine stM (cs':=[.int .u8 r.kind,.int .u32 r.id,.int .u32 r.tm,.slice none 0 0,.slice none 0 0,.int .u32 0,.slice sa 0 sc,.int .i64 r.lo,.int .i64 r.hi,.slice ea r.es.length ec]) ?_ (za2 _ _ _) rfl rfl (List.all_eq_true.1 rfl);rw [zas,zgm];refine tail _ _ _ _ _ _ _ _ _ _ _ _ _ _ _ _ _ (za2 _ _ _) (go _) (by omega) ?_;cases zf0 r.fs<;>simp [hs]
 ·simp only [g1,if_false] at tail fin;refine zan ?_;refine zat (λg2=>?_) (λg2=>?_)
  ·simp only [g2,if_true] at tail;try simp only [sS]
   refine ldM (v:=.slice na r.ns.length nc) ?_ hb;refine ydt hn hL.nl (λhw1=>?_);try simp only [sS]
   refine stM (cs':=[.int .u8 r.kind,.int .u32 r.id,.int .u32 0,.slice na r.ns.length nc,.slice fa r.fs.length fc,.int .u32 0,.slice sa 0 sc,.int .i64 r.lo,.int .i64 r.hi,.slice ea r.es.length ec]) ?_ hb rfl rfl (List.all_eq_true.1 rfl);refine stM (cs':=[.int .u8 r.kind,.int .u32 r.id,.int .u32 0,.slice none 0 0,.slice fa r.fs.length fc,.int .u32 0,.slice sa 0 sc,.int .i64 r.lo,.int .i64 r.hi,.slice ea r.es.length ec]) ?_ (za2 _ _ _) rfl rfl (List.all_eq_true.1 rfl);rw [zas,zgm];refine tail _ _ (b1+1) _ _ _ _ _ _ _ _ _ _ _ _ _ _ (za2 _ _ _) (go _) (by omega) ?_;rw [Bool.and_comm]
   congr 1
   refine decide_eq_decide.2 ?_;simp only [List.length_eq_zero_iff];exact ⟨λ⟨_,_,a,b,c,d⟩=>⟨b,c,d,a⟩,λ⟨a,b,c,d⟩=>⟨by trivial,by trivial,d,a,b,c⟩⟩
  ·simp only [g2,if_false] at tail fin;refine zan ?_
   have k345:r.kind=3∨r.kind=4∨r.kind=5 -> (true&&decide (r.tm=0∧r.ns.length=0∧r.fs.length=0∧r.lo=0∧r.hi=0∧r.es.length=0))=(if r.kind=3∨r.kind=4∨r.kind=5 then decide (r.tm=0∧r.lo=0∧r.hi=0∧r.es=[]∧r.fs=[]∧r.ns=[]) else if r.kind=7 then decide (r.tm=0∧r.ns=[]∧r.fs=[]∧0≤r.lo∧r.lo≤10000∧0≤r.hi∧r.hi≤10000)&&zho r.es else false):=λh=>by
    rw [if_pos h,Bool.true_and];refine decide_eq_decide.2 ?_;simp only [List.length_eq_zero_iff];exact ⟨λ⟨a,b,c,d,e,f⟩=>⟨a,d,e,f,c,b⟩,λ⟨a,b,c,d,e,f⟩=>⟨a,f,e,b,c,d⟩⟩
   refine zat (λg3=>?_) (λg3=>?_)
   ·refine zav ?_;rw [zdo];refine zav ?_;rw [zgm];exact tail _ _ (b1+1) _ _ _ _ _ _ _ _ _ _ _ _ _ _ hb hM1 (by omega) (k345 (by omega))
   refine zan ?_;refine zat (λg4=>?_) (λg4=>?_)
   ·refine zav ?_;rw [zdo];refine zav ?_;rw [zgm];exact tail _ _ (b1+1) _ _ _ _ _ _ _ _ _ _ _ _ _ _ hb hM1 (by omega) (k345 (by omega))
   refine zan ?_;refine zat (λg5=>?_) (λg5=>?_)
   ·rw [zdo];refine zav ?_;rw [zgm];exact tail _ _ (b1+1) _ _ _ _ _ _ _ _ _ _ _ _ _ _ hb hM1 (by omega) (k345 (by omega))
   rw [zdo];refine zan (zbo h6 (zan ?_));rw [if_neg (by omega)] at fin tail;refine zat (λg7=>?_) (λg7=>?_)
   ·simp only [g7,if_true] at tail;try simp only [sS]
    refine ldM (v:=.slice ea r.es.length ec) ?_ hb;refine ys3 he hL.el hL.et (λM2 N2 hN2 hM2 hm2 hw2=>?_);have hb2:=(hM2 b1 (by omega)).trans hb;have go2:∀ (x:Option zah) q,q<N -> upd M2 b1 x q=M q:=λx q hq=>((za4 _ _ (by omega)).trans (hM2 q (by omega))).trans (hM1 q hq);cases hs:zho r.es
    case' true=>
     try simp only [sS]
     refine ldM (v:=.int .i64 r.lo) ?_ hb2;refine zg7 (λl1=>?_) (λl1=>?_)
     case' refine_1=>
      try simp only [sS]
      refine ldM (v:=.int .i64 r.lo) ?_ hb2;refine zdv (λl2=>?_) (λl2=>?_)
      case' refine_1=>
       try simp only [sS]
       refine ldM (v:=.int .i64 r.hi) ?_ hb2;refine zg7 (λl3=>?_) (λl3=>?_)
       case' refine_1=>
        try simp only [sS]
        refine ldM (v:=.int .i64 r.hi) ?_ hb2;refine zdv (λl4=>?_) (λl4=>?_)
    all_goals try simp only [sS]
    all_goals refine stM (cs':=[.int .u8 r.kind,.int .u32 r.id,.int .u32 r.tm,.slice na r.ns.length nc,.slice fa r.fs.length fc,.int .u32 0,.slice sa 0 sc,.int .i64 0,.int .i64 r.hi,.slice ea r.es.length ec]) ?_ hb2 rfl rfl (List.all_eq_true.1 rfl)
    all_goals refine stM (cs':=[.int .u8 r.kind,.int .u32 r.id,.int .u32 r.tm,.slice na r.ns.length nc,.slice fa r.fs.length fc,.int .u32 0,.slice sa 0 sc,.int .i64 0,.int .i64 0,.slice ea r.es.length ec]) ?_ (za2 _ _ _) rfl rfl (List.all_eq_true.1 rfl)
    all_goals refine stM (cs':=[.int .u8 r.kind,.int .u32 r.id,.int .u32 r.tm,.slice na r.ns.length nc,.slice fa r.fs.length fc,.int .u32 0,.slice sa 0 sc,.int .i64 0,.int .i64 0,.slice none 0 0]) ?_ (za2 _ _ _) rfl rfl (List.all_eq_true.1 rfl)
    all_goals rw [zas,zas,zgm]
    all_goals refine tail _ _ N2 _ _ _ _ _ _ _ _ _ _ _ _ _ _ (za2 _ _ _) (go2 _) (by omega) ?_
    all_goals rw [hs]
    all_goals first
     | rw [Bool.and_false,Bool.false_and]
     | (rw [Bool.and_true,Bool.true_and];refine decide_eq_decide.2 ?_;simp only [List.length_eq_zero_iff];exact ⟨λ⟨a,b,c,_⟩=>⟨a,b,c,l1,l2,l3,l4⟩,λ⟨a,b,c,_⟩=>⟨a,b,c,by trivial⟩⟩)
     | (rw [Bool.and_true,Bool.false_and]; exact (decide_eq_false λ⟨_,_,_,a,b,c,d⟩=>by omega).symm)
   ·rw [if_neg g7] at fin;refine zan ?_;exact fin _ rfl _ _ hM1 (by omega) _ rfl
theorem yca {cs:List Value} {r:zaj} (hr:zef F cs r) (hL:r.lens) (ht:r.typ) (h6:r.kind≠6) (hE:(zag r).length≤2097152)
  (k0:zbv r=false -> ∀ N',N≤N' -> (Hp.mk F M N').wf -> K (.tuple #[.slice none 0 0,.int .u16 1]) ⟨F,M,N'⟩)
  (k1:zbv r=true -> (zag r).length>60000 -> ∀ N',N≤N' -> (Hp.mk F M N').wf -> K (.tuple #[.slice none 0 0,.int .u16 3]) ⟨F,M,N'⟩)
  (k2:zbv r=true -> (zag r).length≤60000 -> ∀ v M' N',own M' N 5 1 v (zag r).length (bts (zag r)) -> (∀ q,q<N -> M' q=M q) -> N≤N' -> za6 M' N' -> (Hp.mk F M' N').wf -> K (.tuple #[v,.int .u16 0]) ⟨F,M',N'⟩) :
  cF 138 #[.agg cs.toArray] K E ⟨F,M,N⟩:=by
 refine za5 mixed Tryz.func138 (by kernel_rfl) (yv6 _ E _) (λhw=>?_);have hm:za6 M N:=hw.m;have hr0:=hr;obtain ⟨na,nc,fv,sa,sc,ev,rfl,hn,hf,he⟩:=hr;obtain ⟨fa,fc,e1⟩:=hf.form;obtain ⟨ea,ec,e2⟩:∃ ea ec,ev=.slice ea r.es.length ec:=by obtain ⟨rows,h1,_⟩:=he; obtain ⟨a,c,h2,_⟩:=h1.form; exact ⟨a,c,h2⟩
 refine zar (cs:=[.int .u8 r.kind,.int .u32 r.id,.int .u32 r.tm,.slice na r.ns.length nc,fv,.int .u32 0,.slice sa 0 sc,.int .i64 r.lo,.int .i64 r.hi,ev]) (λb1 hb1=>?_);refine zbd (vs:=[.int .u8 r.kind,.int .u32 r.id,.int .u32 r.tm,.slice na r.ns.length nc,fv,.int .u32 0,.slice sa 0 sc,.int .i64 r.lo,.int .i64 r.hi,ev]) ?_ (za2 _ _ _);refine zlk hr0 hL h6 (λN1 hN1 hw1=>?_);cases hs:zbv r
 ·try simp only [sS]
  exact λhc=>⟨⟨F,M,N1⟩,zbm hc (zb4 (zbc _) (hm _ hb1)),λhw'=>k0 hs _ (by omega) hw'⟩
 have hk:=zqn hs;try simp only [sS]
 refine zab (v:=.agg #[.slice none 0 0,.int .i64 0,.int .i8 0]) (by kernel_rfl) ?_;refine zar (cs:=[.slice none 0 0,.int .i64 0,.int .i8 0]) (λb2 hb2=>?_)
 have P:zbf (upd (upd M b1 (some (.cells 77 [.int .u8 r.kind,.int .u32 r.id,.int .u32 r.tm,.slice na r.ns.length nc,fv,.int .u32 0,.slice sa 0 sc,.int .i64 r.lo,.int .i64 r.hi,ev] 10))) b2 (some (.cells 116 [.slice none 0 0,.int .i64 0,.int .i8 0] 3))) N b2 116 [] 3 (.slice none 0 0) [] :=
  ⟨⟨0,za2 _ _ _⟩,own.nil,λh=>by simp [Value.ownBlock] at h,by simp⟩
 have hb:upd (upd M b1 (some (.cells 77 [.int .u8 r.kind,.int .u32 r.id,.int .u32 r.tm,.slice na r.ns.length nc,fv,.int .u32 0,.slice sa 0 sc,.int .i64 r.lo,.int .i64 r.hi,ev] 10))) b2 (some (.cells 116 [.slice none 0 0,.int .i64 0,.int .i8 0] 3)) b1=some (.cells 77 [.int .u8 r.kind,.int .u32 r.id,.int .u32 r.tm,.slice na r.ns.length nc,fv,.int .u32 0,.slice sa 0 sc,.int .i64 r.lo,.int .i64 r.hi,ev] 10):=(za4 _ _ (by omega)).trans (za2 _ _ _);have hM2:∀ q,q<N -> upd (upd M b1 (some (.cells 77 [.int .u8 r.kind,.int .u32 r.id,.int .u32 r.tm,.slice na r.ns.length nc,fv,.int .u32 0,.slice sa 0 sc,.int .i64 r.lo,.int .i64 r.hi,ev] 10))) b2 (some (.cells 116 [.slice none 0 0,.int .i64 0,.int .i8 0] 3)) q=M q:=λq hq=>(za4 _ _ (by omega)).trans (za4 _ _ (by omega));have hm2:za6 (upd (upd M b1 (some (.cells 77 [.int .u8 r.kind,.int .u32 r.id,.int .u32 r.tm,.slice na r.ns.length nc,fv,.int .u32 0,.slice sa 0 sc,.int .i64 r.lo,.int .i64 r.hi,ev] 10))) b2 (some (.cells 116 [.slice none 0 0,.int .i64 0,.int .i8 0] 3))) (b2+1):=((hm.new hb1 _).up hN1).new hb2 _;generalize upd (upd M b1 _) b2 _=M2 at *
 have eR:zag r=zam (zaz r.kind) 1++(zam (zaz r.id) 4++if r.kind=1 then zcn r.ns++zce r.fs else if r.kind=2 then zam (zaz r.tm) 4++zcn r.ns else if r.kind=7 then zam (zaz r.lo) 4++(zam (zaz r.hi) 4++zdn r.es) else []):=by
  unfold zag;rw [zge (x:=r.kind) (by omega) (by omega),zge (x:=r.id) ht.i0.1 (by have := ht.i0.2; omega),zge (x:=r.tm) ht.t0.1 (by have := ht.t0.2; omega)]
 have hkeep:∀ {M3:Nat -> Option zah} {v3:Value},bfr M2 M3 (b2+1) b2 (.slice none 0 0) v3 -> M3 b1=some (.cells 77 [.int .u8 r.kind,.int .u32 r.id,.int .u32 r.tm,.slice na r.ns.length nc,fv,.int .u32 0,.slice sa 0 sc,.int .i64 r.lo,.int .i64 r.hi,ev] 10):=λh=>(h b1 (by omega) (by simp [Value.ownBlock]) (by omega)).1.trans hb;try simp only [sS]
 refine ldM (v:=.int .u8 r.kind) ?_ hb;refine ys2 (size:=1) P hm2 (by omega) (by omega) (by simp) (λv3 M3 N3 P3 f3 hN3 hm3 hw3=>?_);try simp only [sS]
 refine ldM (v:=.int .u32 r.id) ?_ (hkeep f3);refine zy7 (size:=4) P3 hm3 (by omega) (by omega) (by simp [zaa]) (λv4 M4 N4 P4 f4 hN4 hm4 hw4=>?_);have f24:=f3.trans f4 hN3;try simp only [sS]
 refine ldM (v:=.int .u8 r.kind) ?_ (hkeep f24);rw [List.nil_append] at P4
 have fin:∀ (v5:Value) (M5:Nat -> Option zah) (N5:Nat),zbf M5 N b2 116 [] 3 v5 (zag r) -> bfr M2 M5 (b2+1) b2 (.slice none 0 0) v5 -> b2+1≤N5 -> za6 M5 N5 ->
   cF 65 #[.pointer (some ⟨b2,0,none⟩)] (λt1=>pv (za1 .none .gtr t1 (.int .i64 60000)) λt2=>cnd t2 (λh=>h.wf -> ∃ h',h.wk h'∧(h'.wf -> K (.tuple #[.slice none 0 0,.int .u16 3]) h'))
    (cF 85 #[.pointer (some ⟨b2,0,none⟩)] (λt3 h=>h.wf -> ∃ h',h.wk h'∧(h'.wf -> K (.tuple #[t3,.int .u16 0]) h')) E)) E ⟨F,M5,N5⟩:=by
  intro v5 M5 N5 P5 f5 hN5 hm5;have hM5:∀ q,q<N -> M5 q=M q:=λq hq=>((f5 q (by omega) (by simp [Value.ownBlock]) (by omega)).1).trans (hM2 q hq);refine zla P5 (λhw5=>?_);refine zby (λh1=>?_) (λh1=>?_)
  ·refine zav ?_;exact λhc=>⟨⟨F,M,N5⟩,zbm hc (znc hm hM5),λhw'=>k1 hs (by omega) _ (by omega) hw'⟩
  ·refine zan ?_;refine ya5 P5 (λhw6=>?_);exact λhc=>⟨_,za0 hc,λhw'=>k2 hs (by omega) v5 M5 N5 P5.ow hM5 (by omega) hm5 hw'⟩
 have hl0:(zam (zaz r.kind) 1++zam (zaz r.id) 4).length=5:=by rw [List.length_append,zaa,zaa]
 refine zat (λg1=>?_) (λg1=>?_)
 ·simp only [g1,if_true] at eR;rw [g1] at P4 hl0;have hlen:(zag r).length=5+((zcn r.ns).length+(zce r.fs).length):=by rw [eR]; simp only [List.length_append,zaa]; omega
  try simp only [sS]
  refine ldM (v:=.slice na r.ns.length nc) ?_ (hkeep f24);refine yb2 P4 hm4 (by omega) hn (by omega) (λv5 M5 N5 P5 f5 hN5 hm5 hw5=>?_);have f25:=f24.trans f5 (by omega);try simp only [sS]
  refine ldM (v:=fv) ?_ (hkeep f25);refine yc3 P5 hm5 (by omega) hf (by simp only [List.length_append,zaa]; omega) (λv6 M6 N6 P6 f6 hN6 hm6 hw6=>?_);rw [zgp];refine fin v6 M6 N6 ?_ (f25.trans f6 (by omega)) (by omega) hm6;rw [eR]
  simpa using P6
 ·simp only [g1,if_false] at eR;refine zan ?_;refine zat (λg2=>?_) (λg2=>?_)
  ·simp only [g2,if_true] at eR;rw [g2] at P4 hl0;have hlen:(zag r).length=5+(4+(zcn r.ns).length):=by rw [eR]; simp only [List.length_append,zaa]; omega
   try simp only [sS]
   refine ldM (v:=.int .u32 r.tm) ?_ (hkeep f24);refine zy7 (size:=4) P4 hm4 (by omega) (by omega) (by omega) (λv5 M5 N5 P5 f5 hN5 hm5 hw5=>?_);have f25:=f24.trans f5 (by omega);try simp only [sS]
   refine ldM (v:=.slice na r.ns.length nc) ?_ (hkeep f25);refine yb2 P5 hm5 (by omega) hn (by simp only [List.length_append,zaa]; omega) (λv6 M6 N6 P6 f6 hN6 hm6 hw6=>?_);rw [zgp];refine fin v6 M6 N6 ?_ (f25.trans f6 (by omega)) (by omega) hm6;rw [eR]
   simpa using P6
  ·simp only [g2,if_false] at eR;refine zan (zbo h6 (zan ?_));refine zat (λg7=>?_) (λg7=>?_)
   ·simp only [g7,if_true] at eR;rw [g7] at P4 hl0;have hlen:(zag r).length=5+(4+(4+(zdn r.es).length)):=by rw [eR]; simp only [List.length_append,zaa]; omega
    try simp only [sS]
    refine ldM (v:=.int .i64 r.lo) ?_ (hkeep f24);refine zkh (size:=4) P4 hm4 (by omega) (by omega) (by omega) (λv5 M5 N5 P5 f5 hN5 hm5 hw5=>?_);have f25:=f24.trans f5 (by omega);try simp only [sS]
    refine ldM (v:=.int .i64 r.hi) ?_ (hkeep f25);refine zkh (size:=4) P5 hm5 (by omega) (by omega) (by simp only [List.length_append,zaa]; omega) (λv6 M6 N6 P6 f6 hN6 hm6 hw6=>?_);have f26:=f25.trans f6 (by omega);try simp only [sS]
    refine ldM (v:=ev) ?_ (hkeep f26);refine ynj P6 hm6 (by omega) he (by simp only [List.length_append,zaa]; omega) (λv7 M7 N7 P7 f7 hN7 hm7 hw7=>?_);rw [zgp];refine fin v7 M7 N7 ?_ (f26.trans f7 (by omega)) (by omega) hm7;rw [eR]
    simpa using P7
   ·simp only [g7,if_false] at eR;refine zan ?_;rw [zgp];refine fin v4 M4 N4 ?_ f24 (by omega) hm4;rw [eR,List.append_nil];exact P4
def zko:List PanicEntry:=[{ v:=.iface 286 (.agg #[]),recovered:=false }]
structure zdi (F:Nat -> Option (List Value)) (M:Nat -> Option zah) (p:Nat) (v:Value) (l:List Int):Prop where
 pp:M p=some (.cells 289 [v] 1)
 rd:sR F M 1 v l.length (bts l)
 ne:v.ownBlock≠some p
 bt:∀ x∈l,0≤x∧x<256
 ln:l.length≤100000
theorem zdi.keep {p:Nat} {v:Value} {l:List Int} (h:zdi F M p v l) (hF:za9 F F') (hp:M' p=M p) (hM:∀ q c,v.ownBlock=some q -> M q=some c -> M' q=some c):zdi F' M' p v l:=⟨hp.trans h.pp,h.rd.keep hF hM,h.ne,h.bt,h.ln⟩
theorem ysk {v:Value} {l:List Int} {i:Nat} {K:Value -> zae} (hv:sR F M 1 v l.length (bts l)) (hi:i<l.length) {m c:Nat} {b o:Nat} (hb:v=.slice (some ⟨b,o,none⟩) l.length c) (him:i<m) (k:∀ p,K p (.int .u8 l[i]) ⟨F,M,N⟩) {c':Nat}:pv (iaV none 1 (.slice (some ⟨b,o,none⟩) m c') (.int .i64 (i:Nat))) (λp=>ld false 1 p (K p)) ⟨F,M,N⟩:=by
 rcases hv.2 with ⟨a,c1,h1,h2⟩ | ⟨b1,o1,c1,cs,h1,h2,h3,h4⟩
 ·rw [h2] at hi; omega
 ·rw [hb] at h1;simp only [Value.slice.injEq,Option.some.injEq,Addr.mk.injEq] at h1;obtain ⟨⟨rfl,rfl,_⟩,_,_⟩:=h1;refine zd0 him (zg3 (zb6 (cs:=cs) h3 ?_) (k _));have h5:(bts l)[i]?=some (.int .u8 l[i]):=by simp [bts,hi]
  rw [← h4,List.getElem?_take,if_pos (by omega),List.getElem?_drop] at h5;rw [Nat.mul_one]; exact h5
theorem yl1 (l:List Int) (x a:Int):rdV (l++[x]) a=rdV l a*256+x:=by simp [rdV]
theorem yix:∀ (l:List Int),(∀ x∈l,0≤x∧x<256) -> ∀ a:Nat,∃ m:Nat,rdV l (a:Nat)=(m:Nat)∧m<(a+1)*256 ^ l.length
 | [],_,a=>⟨a,rfl,by simp⟩
 | x::l,h,a=>by
  obtain ⟨y,rfl⟩:∃ y:Nat,x=(y:Nat):=⟨x.toNat,by have := h x (by simp); omega⟩;have hy:=(h _ (List.mem_cons_self ..)).2;obtain ⟨m,h1,h2⟩:=yix l (λz hz=>h z (by simp [hz])) (a*256+y);refine ⟨m,?_,?_⟩
  ·rw [← h1]; simp [rdV]
  ·rw [List.length_cons,Nat.pow_succ];refine Nat.lt_of_lt_of_le h2 ?_;rw [Nat.mul_comm (256 ^ l.length) 256,← Nat.mul_assoc];exact Nat.mul_le_mul_right _ (by omega)
theorem yra {a:Nat} {h:Hp} (ha:a<72057594037927936) (k:K (.int .u64 ((a*256:Nat):Int)) h):pv (za1 .none .shl (.int .u64 (a:Nat)) (.int .u64 8)) K h :=
 ⟨_,by
  have e:za1 .none .shl (.int .u64 (a:Nat)) (.int .u64 8)=zgh .shl .u64 (a:Nat) 8:=rfl;rw [e]; unfold zgh; rw [if_neg (by omega)],by
  have:IntKind.u64.wrap (((a:Nat):Int)*2 ^ (min (8:Int).toNat IntKind.u64.bits))=((a*256:Nat):Int):=by
   rw [show (2:Int) ^ (min (8:Int).toNat IntKind.u64.bits)=256 from rfl,IntKind.wrap_u64];omega
  rw [this]; exact k⟩
theorem ysw {a c:Nat} {h:Hp} (ha:a<72057594037927936) (hc:c<256) (k:K (.int .u64 ((a*256+c:Nat):Int)) h):pv (za1 .none .or (.int .u64 ((a*256:Nat):Int)) (.int .u64 (c:Nat))) K h :=
 ⟨_,by
  have e:za1 .none .or (.int .u64 ((a*256:Nat):Int)) (.int .u64 (c:Nat))=zfr .or .u64 ((a*256:Nat):Int) (c:Nat):=by simp [za1]
  rw [e]; rfl,by
  have h1:(BitVec.ofInt IntKind.u64.bits ((a*256:Nat):Int)|||BitVec.ofInt IntKind.u64.bits (c:Nat)).toNat=a*256+c:=by
   show (BitVec.ofInt 64 ((a*256:Nat):Int)|||BitVec.ofInt 64 (c:Nat)).toNat=_
   rw [BitVec.ofInt_natCast,BitVec.ofInt_natCast,BitVec.toNat_or,BitVec.toNat_ofNat,BitVec.toNat_ofNat,Nat.mod_eq_of_lt (by omega),Nat.mod_eq_of_lt (by omega)];have := Nat.shiftLeft_add_eq_or_of_lt (show c<2 ^ 8 by omega) a;rw [Nat.shiftLeft_eq] at this;exact this.symm
  rw [h1,show IntKind.u64.wrap ((a*256+c:Nat):Int)=((a*256+c:Nat):Int) by rw [IntKind.wrap_u64]; omega];exact k⟩
theorem ysa {p size:Nat} {v:Value} {l:List Int} (P:zdi F M p v l) (hs:size≤8) (hs0:0<size)
  (k:∀ v',size≤l.length -> zdi F (upd M p (some (.cells 289 [v'] 1))) p v' (l.drop size) -> v'.ownBlock=v.ownBlock -> (Hp.mk F (upd M p (some (.cells 289 [v'] 1))) N).wf -> K (.int .u64 (rdV (l.take size) 0)) ⟨F,upd M p (some (.cells 289 [v'] 1)),N⟩)
  (kE:l.length<size -> (Hp.mk F M N).wf -> E zko ⟨F,M,N⟩) :
  cF 250 #[.pointer (some ⟨p,0,none⟩),.int .i64 (size:Nat)] K E ⟨F,M,N⟩:=by
 refine za5 mixed Tryz.func250 (by kernel_rfl) (yv0 _ E _ _) (λhw=>?_);have hln:=P.ln;have hlv:zac v=some (.int .i64 (l.length:Nat)):=by obtain ⟨a,c,h,_⟩:=P.rd.form; rw [h]; rfl
 try simp only [sS]
 refine ldM (v:=v) ?_ P.pp;refine zab hlv ?_;refine zau (λh=>?_) (λh=>?_)
 ·refine zav ?_;refine zab (v:=.agg #[]) (by kernel_rfl) (zab rfl ?_);exact kE (by omega) hw
 refine zan ?_;rw [ym9];have hsl:size≤l.length:=by omega
 rcases P.rd.2 with ⟨a,c1,h1,h2⟩ | ⟨b,o,c,cs,rfl,h2,h3,h4⟩
 ·rw [h2] at hsl; omega
 try simp only [sS]
 refine ldM (v:=.slice (some ⟨b,o,none⟩) l.length c) ?_ P.pp;refine zh7 size (by omega) ?_;try simp only [sS]
 refine zqp (σ:=Nat×Nat) (λs=>.int .u64 (s.2:Nat)) (λs=>.int .i64 (s.1:Nat)) (λs h=>h=⟨F,M,N⟩∧s.1≤size∧rdV (l.take s.1) 0=(s.2:Nat)∧s.2<256 ^ s.1) (λs=>size - s.1) (0,0) rfl rfl
  (λhw1=>⟨_,za0 hw1,rfl,Nat.zero_le _,rfl,by simp⟩) (λk1 s j h1 hI hw1 next=>?_)
 rw [zpt];obtain ⟨rfl,hi,he,hlt0⟩:=hI;refine zau (λhlt=>?_) (λhge=>?_)
 ·have i1:s.1<l.length:=by omega
  try simp only [sS]
  refine ysk P.rd i1 rfl (by omega) λp'=>?_;have hbt:=P.bt l[s.1] (List.getElem_mem _);obtain ⟨y,hy⟩:∃ y:Nat,l[s.1]=(y:Nat):=⟨l[s.1].toNat,by omega⟩;have h56:s.2<72057594037927936:=Nat.lt_of_lt_of_le hlt0 (Nat.pow_le_pow_right (by omega) (show s.1≤7 by omega));refine yra h56 ?_;rw [hy];refine zab (v:=.int .u64 (y:Nat)) (by have:IntKind.u64.wrap (y:Nat)=(y:Nat):=(by rw [IntKind.wrap_u64]; omega); simp [cvV,this]) ?_;refine ysw h56 (by omega) ?_;refine zaq (by omega) ?_;refine next (s.1+1,s.2*256+y) _ _ (by simp only; omega) (λhw2=>⟨_,za0 hw2,rfl,by simp only; omega,?_,?_⟩)
  ·rw [List.take_add_one,List.getElem?_eq_getElem i1,Option.toList_some,yl1,he,hy]; simp
  ·rw [Nat.pow_succ]; simp only; omega
 ·try simp only [sS]
  have es:s.1=size:=by omega
  rw [es] at he;try rw [t250_1_1_1_1]
  try simp only [sS]
  refine ldM (v:=.slice (some ⟨b,o,none⟩) l.length c) ?_ P.pp;refine zga size hsl h2 ?_;try simp only [sS]
  have hpb:b≠p:=λe=>P.ne (by rw [e]; rfl);rw [← he];refine stM (cs':=[.slice (some (if c=size then ⟨b,o,none⟩ else ⟨b,o+size*1,none⟩)) (l.length - size) (c - size)]) ?_ P.pp rfl rfl (List.all_eq_true.1 rfl);have hob:(Value.slice (some (if c=size then ⟨b,o,none⟩ else ⟨b,o+size*1,none⟩)) (l.length - size) (c - size)).ownBlock=some b:=by split<;>rfl
  refine λhc=>⟨_,za0 hc,λhw'=>k _ hsl ⟨za2 _ _ _,?_,by rw [hob]; exact λe=>hpb (by simpa using e),λx hx=>P.bt x (List.mem_of_mem_drop hx),by rw [List.length_drop]; omega⟩ hob hw'⟩;refine ⟨by simp [bts],?_⟩;rw [List.length_drop]
  by_cases hcs:c=size
  ·exact .inl ⟨_,_,by rw [show l.length - size=0 by omega],by omega⟩
  ·refine .inr ⟨b,o+size*1,c - size,cs,by rw [if_neg hcs],by omega,?_,?_⟩
   ·rcases h3 with h3 | ⟨e,tot,h3⟩
    ·exact .inl h3
    ·exact .inr ⟨e,tot,(za4 _ _ hpb).trans h3⟩
   ·have h5:=congrArg (List.drop size) h4;rw [List.drop_take,List.drop_drop] at h5;rw [Nat.mul_one,Nat.mul_one,show (bts (l.drop size))=(bts l).drop size by simp [bts],← h5,Nat.mul_one]
def eOK (E:zb2) (F:Nat -> Option (List Value)) (M:Nat -> Option zah) (N p:Nat):Prop :=
 ∀ F' M' N',za9 F F' -> N≤N' -> (∀ q,q≠p -> q<N -> M' q=M q) -> za6 M' N' -> (Hp.mk F' M' N').wf -> E zko ⟨F',M',N'⟩
theorem eOK.step {p:Nat} (h:eOK E F M N p) (hF:za9 F F') (hN:N≤N') (hM:∀ q,q≠p -> q<N -> M' q=M q):eOK E F' M' N' p:=λF2 M2 N2 h1 h2 h3 h4 h5=>
 h F2 M2 N2 (hF.trans h1) (by omega) (λq q1 q2=>(h3 q q1 (by omega)).trans (hM q q1 q2)) h4 h5
def rdA {α:Type} (f:List Int -> Option (α×List Int)) (pre:List α) (n:Nat) (l:List Int):Option (List α×List Int):=(rdL f n l).map λx=>(pre++x.1,x.2)
theorem zr0 {α:Type} (f:List Int -> Option (α×List Int)) (n:Nat) (l:List Int):rdA f [] n l=rdL f n l:=by
 unfold rdA; cases rdL f n l<;>simp
theorem zim {α:Type} {f:List Int -> Option (α×List Int)} {pre:List α} {n:Nat} {l:List Int} (h:f l=none) (hn:0<n):rdA f pre n l=none:=by
 obtain ⟨m,rfl⟩:∃ m,n=m+1:=⟨n - 1,by omega⟩
 simp [rdA,rdL,h]
theorem znz {α:Type} {f:List Int -> Option (α×List Int)} {pre:List α} {n:Nat} {l r:List Int} {x:α} (h:f l=some (x,r)) (hn:0<n):rdA f pre n l=rdA f (pre++[x]) (n - 1) r:=by
 obtain ⟨m,rfl⟩:∃ m,n=m+1:=⟨n - 1,by omega⟩;simp only [rdA,rdL,h,Nat.add_sub_cancel];cases rdL f m r<;>simp
theorem zr6 {α:Type} (f:List Int -> Option (α×List Int)) (pre:List α) (l:List Int):rdA f pre 0 l=some (pre,l):=by simp [rdA,rdL]
theorem zj6 {size:Nat} {l r:List Int} {x:Int} (h:rd size l=some (x,r)) (hb:∀ x∈l,0≤x∧x<256):0≤x∧x<((256 ^ size:Nat):Int)∧r=l.drop size∧x=rdV (l.take size) 0∧size≤l.length:=by
 unfold rd at h
 split at h
 ·cases h
 ·rename_i hl
  simp only [Option.some.injEq,Prod.mk.injEq] at h;obtain ⟨m,h1,h2⟩:=yix (l.take size) (λx hx=>hb x (List.mem_of_mem_take hx)) 0;rw [List.length_take,Nat.min_eq_left (by omega)] at h2;have h1':rdV (l.take size) 0=(m:Nat):=h1;rw [h1'] at h;obtain ⟨rfl,rfl⟩:=h;exact ⟨by omega,by omega,rfl,h1'.symm,by omega⟩
theorem zgy {p size:Nat} {v:Value} {l:List Int} (P:zdi F M p v l) (hm:za6 M N) (hs:size≤8) (hs0:0<size)
  (k:∀ v' M' x r,rd size l=some (x,r) -> zdi F M' p v' r -> v'.ownBlock=v.ownBlock -> (∀ q,q≠p -> M' q=M q) -> za6 M' N -> (Hp.mk F M' N).wf -> K (.int .u64 x) ⟨F,M',N⟩)
  (kE:rd size l=none -> eOK E F M N p) :
  cF 250 #[.pointer (some ⟨p,0,none⟩),.int .i64 (size:Nat)] K E ⟨F,M,N⟩ :=
 ysa P hs hs0 (λv' h1 h2 h3 hw=>k v' _ _ _ (by unfold rd; rw [if_neg (by omega)]) h2 h3 (λq hq=>za4 _ _ hq) (hm.set (hm.lt P.pp) _) hw)
  (λh hw=>kE (by unfold rd; rw [if_pos h]) F M N (za9.refl _) (Nat.le_refl _) (λ_ _ _=>rfl) hm hw)
theorem zvc {x:Int} {h:Hp} (h0:0≤x) (h1:x<9223372036854775808) (k:K (.int .i64 x) h):pv (cvV .i64 (.int .u64 x)) K h:=⟨_,rfl,by rw [IntKind.wrap_i64,show (x+9223372036854775808)%18446744073709551616 - 9223372036854775808=x by omega]; exact k⟩
theorem zqv {p size least:Nat} {v:Value} {l:List Int} (P:zdi F M p v l) (hm:za6 M N) (hs:size≤4) (hs0:0<size) (hl:0<least) (hl1:least≤100)
  (k:∀ v' M' n r,rdM size least l=some (n,r) -> n*least≤r.length -> zdi F M' p v' r -> v'.ownBlock=v.ownBlock -> (∀ q,q≠p -> M' q=M q) -> za6 M' N -> (Hp.mk F M' N).wf -> K (.int .i64 (n:Nat)) ⟨F,M',N⟩)
  (kE:rdM size least l=none -> eOK E F M N p) :
  cF 299 #[.pointer (some ⟨p,0,none⟩),.int .i64 (size:Nat),.int .i64 (least:Nat)] K E ⟨F,M,N⟩:=by
 refine za5 mixed Tryz.func299 (by kernel_rfl) (ywx _ E _ _ _) (λhw=>?_);refine zgy P hm (by omega) hs0 (λv' M' x r h1 P1 h2 h3 hm1 hw1=>?_) (λh=>kE (by unfold rdM; rw [h]));have hx:=zj6 h1 P.bt
 have hx2:x<4294967296:=by
  have:(256 ^ size:Nat)≤256 ^ 4:=Nat.pow_le_pow_right (by omega) hs;omega
 have hlr:=P1.ln;have hlv:zac v'=some (.int .i64 (r.length:Nat)):=by obtain ⟨a,c,h,_⟩:=P1.rd.form; rw [h]; rfl
 try simp only [sS]
 refine ldM (v:=v') ?_ P1.pp;refine zab hlv ?_;refine yni (a:=(r.length:Nat)) (b:=(least:Nat)) (by omega) (by omega) (by omega) ?_;have eq:((r.length:Nat):Int)/((least:Nat):Int)=((r.length/least:Nat):Int):=by simp
 have hle:r.length/least≤r.length:=Nat.div_le_self _ _
 have hu:cvV .u64 (.int .i64 ((r.length/least:Nat):Int))=some (.int .u64 ((r.length/least:Nat):Int)):=by
  generalize r.length/least=y at hle;have:IntKind.u64.wrap (y:Int)=(y:Int):=by rw [IntKind.wrap_u64]; omega
  simp [cvV,this]
 rw [eq];refine zab hu ?_;refine zby (λh=>?_) (λh=>?_)
 ·refine zav ?_;refine zab (v:=.agg #[]) (by kernel_rfl) (zab rfl ?_);exact kE (by unfold rdM; rw [h1]; simp only; rw [if_pos h]) F M' N (za9.refl _) (Nat.le_refl _) (λq q1 _=>h3 q q1) hm1 hw1
 ·refine zan ?_;rw [yf1];refine zvc hx.1 (by omega) ?_;obtain ⟨n,rfl⟩:∃ n:Nat,x=(n:Nat):=⟨x.toNat,by omega⟩;refine λhc=>⟨_,za0 hc,λhw'=>k v' M' n r ?_ ?_ P1 h2 h3 hm1 hw'⟩
  ·unfold rdM; rw [h1]; simp only; rw [if_neg h]; simp
  ·exact (Nat.le_div_iff_mul_le hl).1 (by omega)
theorem zzq {e:TypeId} {z:List Value} {sz bytes n:Nat} (hb:n*bytes≤140737488355328) (hm:n≤maxLen) (k:∀ b,N≤b -> K (.slice (some ⟨b,0,none⟩) n n) ⟨F,upd M b (some (.cells e (List.replicate n z).flatten (n*sz))),b+1⟩):mks e z sz bytes (.int .i64 (n:Nat)) (.int .i64 (n:Nat)) K ⟨F,M,N⟩ :=
 ⟨.i64,n,.i64,n,rfl,rfl,Nat.le_refl _,hb,hm,k⟩
theorem zdi.box {p b:Nat} {v:Value} {l:List Int} (P:zdi F M p v l) (hm:za6 M N) (hb:N≤b) (x:Option zah):zdi F (upd M b x) p v l :=
 P.keep (za9.refl _) (za4 _ _ (by have := hm.lt P.pp; omega)) (λq c _ h=>(za4 _ _ (by have := hm.lt h; omega)).trans h)
theorem ybv {p:Nat} {v:Value} {l:List Int} (P:zdi F M p v l) (hm:za6 M N) (hv:∀ q,v.ownBlock=some q -> q<N)
  (k:∀ nv v' F' M' N' ns r,rdN l=some (ns,r) -> zdi F' M' p v' r -> v'.ownBlock=v.ownBlock -> za9 F F' -> sF F' 1 nv ns.length (ic ns) -> N≤N' -> (∀ q,q≠p -> q<N -> M' q=M q) -> za6 M' N' -> (Hp.mk F' M' N').wf -> K nv ⟨F',M',N'⟩)
  (kE:rdN l=none -> eOK E F M N p) :
  cF 251 #[.pointer (some ⟨p,0,none⟩)] K E ⟨F,M,N⟩:=by
 refine za5 mixed Tryz.func251 (by kernel_rfl) (yxz _ E _) (λhw=>?_);refine zqv (size:=1) (least:=1) P hm (by omega) (by omega) (by omega) (by omega) (λv1 M1 n r1 h1 hn1 P1 e1 hM1 hm1 hw1=>?_) (λh=>kE (by unfold rdN; rw [h]));have hrN:rdN l=rdL (rd 1) n r1:=by unfold rdN; rw [h1]
 have hln:=P1.ln;have hpN:p<N:=hm.lt P.pp;refine zzq (by omega) (by unfold maxLen; omega) (λb hb=>?_);try simp only [sS]
 refine zsi (σ:=Nat) (λi=>.int .i64 (i:Nat)) (λi h=>∃ M' v' pre r,h=⟨F,M',b+1⟩∧zdi F M' p v' r∧v'.ownBlock=v.ownBlock∧M' b=some (.cells 3 (ic pre++List.replicate (n - i) (.int .i64 0)) n)∧pre.length=i∧i≤n∧rdN l=rdA (rd 1) pre (n - i) r∧(∀ q,q≠p -> q<N -> M' q=M q)∧za6 M' (b+1)) (λi=>n - i) 0 rfl
  (λhw2=>⟨_,za0 hw2,_,v1,[],r1,rfl,P1.box hm1 hb _,e1,by rw [za2,Nat.mul_one]; simp [ic],rfl,Nat.zero_le _,by rw [hrN,Nat.sub_zero,zr0],λq q1 q2=>(za4 _ _ (by omega)).trans (hM1 q q1),hm1.new hb _⟩) (λk1 i j h1 hI hw2 next=>?_)
 rw [zsx];obtain ⟨M2,v2,pre,r2,rfl,P2,e2,hb2,hpl,hi,hrd,hM2,hm2⟩:=hI;refine zau (λhlt=>?_) (λhge=>?_)
 ·have i1:i<n:=by omega
  try simp only [sS]
  refine zgy (size:=1) P2 hm2 (by omega) (by omega) (λv3 M3 x r3 h3 P3 e3 hM3 hm3 hw3=>?_) (λh=>?_)
  ·have hx:=zj6 h3 P2.bt;refine zvc hx.1 (by omega) ?_;have hb3:M3 b=some (.cells 3 (ic pre++List.replicate (n - i) (.int .i64 0)) n):=(hM3 b (by omega)).trans hb2;refine zd0 i1 ?_;have hpi:(ic pre).length=i:=by simp [ic,hpl]
   refine stM (cs':=ic (pre++[x])++List.replicate (n - (i+1)) (.int .i64 0)) ?_ hb3 ?_ rfl (List.all_eq_true.1 rfl) (by simp [hpi]; omega)
   ·refine zaq (by omega) ?_;refine next (i+1) _ _ (by omega) (λhw4=>⟨_,za0 hw4,_,v3,pre++[x],r3,rfl,P3.keep (za9.refl _) (za4 _ _ (by omega)) (λq c hq h=>(za4 _ _ (by rw [e3,e2] at hq; have := hv q hq; omega)).trans h),e3.trans e2,za2 _ _ _,by simp [hpl],i1,?_,λq q1 q2=>(za4 _ _ (by omega)).trans ((hM3 q q1).trans (hM2 q q1 q2)),hm3.set (by omega) _⟩);rw [hrd,znz h3 (by omega),show n - i - 1=n - (i+1) by omega]
   ·have := zfx (ic pre) [.int .i64 0] [.int .i64 x] (List.replicate (n - (i+1)) (.int .i64 0)) rfl;rw [hpi] at this;rw [Nat.zero_add,Nat.mul_one,show (Value.int .i64 x).cells.toList=[.int .i64 x] from rfl,show List.replicate (n - i) (Value.int .i64 0)=[.int .i64 0]++List.replicate (n - (i+1)) (.int .i64 0) by rw [show n - i=n - (i+1)+1 by omega,List.replicate_succ]; rfl,← List.append_assoc,this]
    simp [ic]
  ·exact (kE (by rw [hrd,zim h (by omega)])).step (za9.refl _) (by omega) hM2
 ·try simp only [sS]
  have es:i=n:=by omega
  subst es;try rw [t251_1_1_1]
  rw [Nat.sub_self,zr6] at hrd;rw [Nat.sub_self,List.replicate_zero,List.append_nil] at hb2;have hsub:zf1 (upd M2 b none) M2:=λq c h=>by simp only [upd] at h; split at h; cases h; exact h
  refine λhc=>⟨⟨upd F b (some (ic pre)),upd M2 b none,b+1⟩,znf hc hsub (za2 _ _ _) hb2,λhw'=>k _ v2 _ _ _ pre r2 hrd ?_ e2 (zp1 hw hb _) ?_ (by omega) (λq q1 q2=>(za4 _ _ (by omega)).trans (hM2 q q1 q2)) (hm2.set (by omega) _) hw'⟩
  ·exact P2.keep (zp1 hw hb _) (za4 _ _ (by omega)) (λq c hq h=>(za4 _ _ (by rw [e2] at hq; have := hv q hq; omega)).trans h)
  ·have := zjx (F:=F) (b:=b) (sz:=1) (m:=pre.length) (c:=pre.length) (cells:=ic pre) (by simp [ic]) (Nat.le_refl _);rw [hpl] at this ⊢; exact this
theorem yqr {A C:List Value} {x y u:Value} {n:Nat} (h:A.length=n):zb3 (A++x::y::C) n [u]=A++u::y::C:=by
 have := zfx A [x] [u] (y::C) rfl;rw [h] at this
 simpa using this
theorem yq8 {A C:List Value} {x y u:Value} {n:Nat} (h:A.length=n):zb3 (A++x::y::C) (n+1) [u]=A++x::u::C:=by
 have := zfx (A++[x]) [y] [u] C rfl;rw [List.length_append,h] at this
 simpa using this
theorem yww {A C:List Value} {x y:Value} {n:Nat} (h:A.length=n):(A++x::y::C)[n]?=some x:=by rw [List.getElem?_append_right (by omega),h]; simp
theorem ygw (z:List Value) {n i:Nat} (h:i<n):(List.replicate (n - i) z).flatten=z++(List.replicate (n - (i+1)) z).flatten:=by
 rw [show n - i=n - (i+1)+1 by omega,List.replicate_succ,List.flatten_cons]
theorem zy2 {M':Nat -> Option zah} (b:Nat):zf1 (upd M' b none) M':=λq c h=>by simp only [upd] at h; split at h; cases h; exact h
theorem ybk {p:Nat} {v:Value} {l:List Int} (P:zdi F M p v l) (hm:za6 M N) (hv:∀ q,v.ownBlock=some q -> q<N)
  (k:∀ fv v' F' M' N' fs r,zgz l=some (fs,r) -> zdi F' M' p v' r -> v'.ownBlock=v.ownBlock -> za9 F F' -> zbp F' fv fs -> fs.length≤100000 -> N≤N' -> (∀ q,q≠p -> q<N -> M' q=M q) -> za6 M' N' -> (Hp.mk F' M' N').wf -> K fv ⟨F',M',N'⟩)
  (kE:zgz l=none -> eOK E F M N p) :
  cF 252 #[.pointer (some ⟨p,0,none⟩)] K E ⟨F,M,N⟩:=by
 refine za5 mixed Tryz.func252 (by kernel_rfl) (yve _ E _) (λhw=>?_);refine zqv (size:=4) (least:=9) P hm (by omega) (by omega) (by omega) (by omega) (λv1 M1 n r1 h1 hn1 P1 e1 hM1 hm1 hw1=>?_) (λh=>kE (by unfold zgz; rw [h]));have hrN:zgz l=rdL rdF n r1:=by unfold zgz; rw [h1]
 have hln:=P1.ln;have hpN:p<N:=hm.lt P.pp;refine zzq (by omega) (by unfold maxLen; omega) (λb hb=>?_);try simp only [sS]
 refine zto (σ:=Nat) (λi=>.int .i64 (i:Nat)) (λi h=>∃ F' M' N' v' pre rows r,h=⟨F',M',N'⟩∧za9 F F'∧b<N'∧zdi F' M' p v' r∧v'.ownBlock=v.ownBlock∧M' b=some (.cells 110 (rows.flatten++(List.replicate (n - i) [Value.slice none 0 0,.int .i64 0]).flatten) (n*2))∧zaf (zcr F') 2 rows pre∧pre.length=i∧i≤n∧zgz l=rdA rdF pre (n - i) r∧(∀ q,q≠p -> q<N -> M' q=M q)∧za6 M' N') (λi=>n - i) 0 rfl
  (λhw2=>⟨_,za0 hw2,F,_,b+1,v1,[],[],r1,rfl,za9.refl _,by omega,P1.box hm1 hb _,e1,by rw [za2]; simp,zaf.nil _ _,rfl,Nat.zero_le _,by rw [hrN,Nat.sub_zero,zr0],λq q1 q2=>(za4 _ _ (by omega)).trans (hM1 q q1),hm1.new hb _⟩) (λk1 i j h1 hI hw2 next=>?_)
 rw [zsf];obtain ⟨F2,M2,N2,v2,pre,rows,r2,rfl,hF2,hN2,P2,e2,hb2,hrows,hpl,hi,hrd,hM2,hm2⟩:=hI;have hv2:∀ q,v2.ownBlock=some q -> q<N:=λq hq=>hv q (by rw [← e2]; exact hq);have hfl:rows.flatten.length=i*2:=by rw [hrows.flen,hpl]
 refine zau (λhlt=>?_) (λhge=>?_)
 ·have i1:i<n:=by omega
  rw [ygw _ i1] at hb2;try simp only [sS]
  refine zqv (size:=1) (least:=4) P2 hm2 (by omega) (by omega) (by omega) (by omega) (λv3 M3 kn r3 h3 hn3 P3 e3 hM3 hm3 hw3=>?_) (λh=>?_)
  rotate_left
  ·exact (kE (by rw [hrd,zim (by unfold rdF zjo; rw [h]) (by omega)])).step hF2 (by omega) hM2
  have hln3:=P3.ln;have hb3:=(hM3 b (by omega)).trans hb2;refine zzq (by omega) (by unfold maxLen; omega) (λkb hkb=>?_);have P4:=P3.box hm3 hkb (some (.cells 3 (List.replicate kn [Value.int .i64 0]).flatten (kn*1)));have hkb4:=za2 M3 kb (some (.cells 3 (List.replicate kn [Value.int .i64 0]).flatten (kn*1)));have hb4:upd M3 kb (some (.cells 3 (List.replicate kn [Value.int .i64 0]).flatten (kn*1))) b=_:=(za4 _ _ (by omega)).trans hb3;have hM4:∀ q,q≠p -> q<N -> upd M3 kb (some (.cells 3 (List.replicate kn [Value.int .i64 0]).flatten (kn*1))) q=M q:=λq q1 q2=>(za4 _ _ (by omega)).trans ((hM3 q q1).trans (hM2 q q1 q2));have hm4:=hm3.new hkb (some (.cells 3 (List.replicate kn [Value.int .i64 0]).flatten (kn*1)));generalize upd M3 kb _=M4 at *;refine zd0 i1 ?_;refine zab rfl ?_;refine stM (cs':=rows.flatten ++ .slice (some ⟨kb,0,none⟩) kn kn :: .int .i64 0::(List.replicate (n - (i+1)) [Value.slice none 0 0,.int .i64 0]).flatten) ?_ hb4 (by rw [Nat.zero_add,Nat.add_zero]; exact yqr hfl) rfl (List.all_eq_true.1 rfl) (by simp only [List.length_append,hfl,List.length_cons]; omega);refine zd0 i1 ?_;refine zab rfl ?_;have hg0:(rows.flatten ++ .slice (some ⟨kb,0,none⟩) kn kn :: .int .i64 0::(List.replicate (n - (i+1)) [Value.slice none 0 0,.int .i64 0]).flatten)[0+i*2+0]?=some (.slice (some ⟨kb,0,none⟩) kn kn):=by rw [Nat.zero_add,Nat.add_zero]; exact yww hfl
  refine ldM (v:=.slice (some ⟨kb,0,none⟩) kn kn) ?_ (za2 _ _ _) hg0;have hm5:=hm4.set (show b<kb+1 by omega) (some (.cells 110 (rows.flatten ++ .slice (some ⟨kb,0,none⟩) kn kn :: .int .i64 0::(List.replicate (n - (i+1)) [Value.slice none 0 0,.int .i64 0]).flatten) (n*2)))
  have P5:zdi F2 (upd M4 b (some (.cells 110 (rows.flatten ++ .slice (some ⟨kb,0,none⟩) kn kn :: .int .i64 0::(List.replicate (n - (i+1)) [Value.slice none 0 0,.int .i64 0]).flatten) (n*2)))) p v3 r3 :=
   P4.keep (za9.refl _) (za4 _ _ (by omega)) (λq c hq h=>(za4 _ _ (by have := hv2 q (by rw [← e3]; exact hq); omega)).trans h)
  have hM5:∀ q,q≠p -> q<N -> upd M4 b (some (.cells 110 (rows.flatten ++ .slice (some ⟨kb,0,none⟩) kn kn :: .int .i64 0::(List.replicate (n - (i+1)) [Value.slice none 0 0,.int .i64 0]).flatten) (n*2))) q=M q:=λq q1 q2=>(za4 _ _ (by omega)).trans (hM4 q q1 q2);have hb5:=za2 M4 b (some (.cells 110 (rows.flatten ++ .slice (some ⟨kb,0,none⟩) kn kn :: .int .i64 0::(List.replicate (n - (i+1)) [Value.slice none 0 0,.int .i64 0]).flatten) (n*2)));have hkb5:upd M4 b (some (.cells 110 (rows.flatten ++ .slice (some ⟨kb,0,none⟩) kn kn :: .int .i64 0::(List.replicate (n - (i+1)) [Value.slice none 0 0,.int .i64 0]).flatten) (n*2))) kb=_:=(za4 _ _ (by omega)).trans hkb4;generalize upd M4 b _=M5 at *;refine zab rfl ?_;have hrdK:zjo r2=rdL (rd 4) kn r3:=by unfold zjo; rw [h3]
  simp only [Nat.zero_add,Nat.add_zero]
  refine zha (σ:=Nat) (λt=>.int .i64 (t:Nat)) (λt h=>∃ M' v' kp r,h=⟨F2,M',kb+1⟩∧zdi F2 M' p v' r∧v'.ownBlock=v.ownBlock∧M' b=some (.cells 110 (rows.flatten ++ .slice (some ⟨kb,0,none⟩) kn kn :: .int .i64 0::(List.replicate (n - (i+1)) [Value.slice none 0 0,.int .i64 0]).flatten) (n*2))∧M' kb=some (.cells 3 (ic kp++List.replicate (kn - t) (.int .i64 0)) kn)∧kp.length=t∧t≤kn∧zjo r2=rdA (rd 4) kp (kn - t) r∧(∀ q,q≠p -> q<N -> M' q=M q)∧za6 M' (kb+1)) (λt=>kn - t) 0 rfl
   (λhw5=>⟨_,za0 hw5,M5,v3,[],r3,rfl,P5,e3.trans e2,hb5,by rw [hkb5,Nat.mul_one]; simp [ic],rfl,Nat.zero_le _,by rw [hrdK,Nat.sub_zero,zr0],hM5,hm5⟩) (λkk2 t j2 h2 hI2 hw5 next2=>?_)
  rw [zhf];obtain ⟨M6,v6,kp,r6,rfl,P6,e6,hb6,hkb6,hkpl,ht,hrd6,hM6,hm6⟩:=hI2;have hv6:∀ q,v6.ownBlock=some q -> q<N:=λq hq=>hv q (by rw [← e6]; exact hq);refine zau (λhlt2=>?_) (λhge2=>?_)
  ·have t1:t<kn:=by omega
   try simp only [sS]
   refine zd0 i1 ?_;refine zab rfl ?_;refine ldM (v:=.slice (some ⟨kb,0,none⟩) kn kn) ?_ hb6 hg0;refine zgy (size:=4) P6 hm6 (by omega) (by omega) (λv7 M7 x r7 h7 P7 e7 hM7 hm7 hw7=>?_) (λh=>?_)
   rotate_left
   ·exact (kE (by rw [hrd,zim (by unfold rdF; rw [hrd6,zim h (by omega)]) (by omega)])).step hF2 (by omega) hM6
   have hb7:=(hM7 b (by omega)).trans hb6;have hkb7:=(hM7 kb (by omega)).trans hkb6;have hx:=zj6 h7 P6.bt;refine ⟨⟨_,zbe hb7,by simpa using hg0⟩,?_⟩;refine zvc hx.1 (by omega) ?_;refine zd0 t1 ?_;have hpi:(ic kp).length=t:=by simp [ic,hkpl]
   refine stM (cs':=ic (kp++[x])++List.replicate (kn - (t+1)) (.int .i64 0)) ?_ hkb7 ?_ rfl (List.all_eq_true.1 rfl) (by simp [hpi]; omega)
   ·refine zaq (by omega) ?_;refine next2 (t+1) _ _ (by omega) (λhw8=>⟨_,za0 hw8,_,v7,kp++[x],r7,rfl,P7.keep (za9.refl _) (za4 _ _ (by omega)) (λq c hq h=>(za4 _ _ (by have := hv6 q (by rw [← e7]; exact hq); omega)).trans h),e7.trans e6,(za4 _ _ (by omega)).trans hb7,za2 _ _ _,by simp [hkpl],t1,?_,λq q1 q2=>(za4 _ _ (by omega)).trans ((hM7 q q1).trans (hM6 q q1 q2)),hm7.set (by omega) _⟩);rw [hrd6,znz h7 (by omega),show kn - t - 1=kn - (t+1) by omega]
   ·have := zfx (ic kp) [.int .i64 0] [.int .i64 x] (List.replicate (kn - (t+1)) (.int .i64 0)) rfl;rw [hpi] at this;rw [Nat.zero_add,Nat.mul_one,show (Value.int .i64 x).cells.toList=[.int .i64 x] from rfl,show List.replicate (kn - t) (Value.int .i64 0)=[.int .i64 0]++List.replicate (kn - (t+1)) (.int .i64 0) by rw [show kn - t=kn - (t+1)+1 by omega,List.replicate_succ]; rfl,← List.append_assoc,this]
    simp [ic]
  ·try simp only [sS]
   have es:t=kn:=by omega
   subst es;rw [Nat.sub_self,zr6] at hrd6;rw [Nat.sub_self,List.replicate_zero,List.append_nil] at hkb6;refine zgy (size:=8) P6 hm6 (by omega) (by omega) (λv7 M7 x r7 h7 P7 e7 hM7 hm7 hw7=>?_) (λh=>?_)
   rotate_left
   ·exact (kE (by rw [hrd,zim (by unfold rdF; rw [hrd6]; simp only; rw [h]) (by omega)])).step hF2 (by omega) hM6
   have hb7:=(hM7 b (by omega)).trans hb6;have hkb7:=(hM7 kb (by omega)).trans hkb6;refine zab (v:=.int .i64 (zlq x)) rfl ?_;refine zd0 i1 ?_;refine zab rfl ?_;refine stM (cs':=rows.flatten ++ .slice (some ⟨kb,0,none⟩) t t :: .int .i64 (zlq x)::(List.replicate (n - (i+1)) [Value.slice none 0 0,.int .i64 0]).flatten) ?_ hb7 (by rw [Nat.zero_add]; exact yq8 hfl) rfl (List.all_eq_true.1 rfl) (by simp only [List.length_append,hfl,List.length_cons]; omega);refine zaq (by omega) ?_;have hF3:za9 F2 (upd F2 kb (some (ic kp))):=zp1 hw3 hkb _;have hkb8:upd M7 b (some (.cells 110 (rows.flatten ++ .slice (some ⟨kb,0,none⟩) t t :: .int .i64 (zlq x)::(List.replicate (n - (i+1)) [Value.slice none 0 0,.int .i64 0]).flatten) (n*2))) kb=_:=(za4 _ _ (by omega)).trans hkb7;refine next (i+1) _ _ (by omega) (λhw8=>⟨⟨upd F2 kb (some (ic kp)),upd (upd M7 b (some (.cells 110 (rows.flatten ++ .slice (some ⟨kb,0,none⟩) t t :: .int .i64 (zlq x)::(List.replicate (n - (i+1)) [Value.slice none 0 0,.int .i64 0]).flatten) (n*2)))) kb none,kb+1⟩,znf hw8 (zy2 _) (za2 _ _ _) hkb8,_,_,_,v7,pre++[(kp,zlq x)],rows++[[.slice (some ⟨kb,0,none⟩) t t,.int .i64 (zlq x)]],r7,rfl,hF2.trans hF3,by omega,?_,e7.trans e6,?_,?_,by simp [hpl],i1,?_,?_,(hm7.set (by omega) _).set (by omega) _⟩)
   ·exact P7.keep hF3 ((za4 _ _ (by omega)).trans (za4 _ _ (by omega))) (λq c hq h=>(za4 _ _ (by have := hv6 q (by rw [← e7]; exact hq); omega)).trans ((za4 _ _ (by have := hv6 q (by rw [← e7]; exact hq); omega)).trans h))
   ·refine (za4 _ _ (by omega)).trans ((za2 _ _ _).trans ?_)
    simp
   ·refine (hrows.mono λr x hr=>hr.mono hF3).snoc rfl (List.all_eq_true.1 rfl) ⟨_,rfl,?_,by simp only; omega⟩;have := zjx (F:=F2) (b:=kb) (sz:=1) (m:=kp.length) (c:=kp.length) (cells:=ic kp) (by simp [ic]) (Nat.le_refl _);simp only;rw [hkpl] at this ⊢; exact this
   ·rw [hrd,znz (x:=(kp,zlq x)) (r:=r7) (by unfold rdF; rw [hrd6]; simp only; rw [h7]) (by omega),show n - i - 1=n - (i+1) by omega]
   ·exact λq q1 q2=>(za4 _ _ (by omega)).trans ((za4 _ _ (by omega)).trans ((hM7 q q1).trans (hM6 q q1 q2)))
 ·try simp only [sS]
  have es:i=n:=by omega
  subst es;try rw [t252_1_1_1]
  rw [Nat.sub_self,zr6] at hrd;rw [Nat.sub_self,List.replicate_zero,List.flatten_nil,List.append_nil] at hb2
  have hbF:F2 b=none:=by
   cases h:F2 b with
   | none=>rfl
   | some cs=>have:M2 b=none:=hw2.d b cs h; rw [hb2] at this; cases this
  have hF3:za9 F2 (upd F2 b (some rows.flatten)):=za9.upd hbF;refine λhc=>⟨⟨upd F2 b (some rows.flatten),upd M2 b none,N2⟩,znf hc (zy2 _) (za2 _ _ _) hb2,λhw'=>k _ v2 _ _ _ pre r2 hrd ?_ e2 (hF2.trans hF3) ?_ (by omega) (by omega) (λq q1 q2=>(za4 _ _ (by omega)).trans (hM2 q q1 q2)) (hm2.set hN2 _) hw'⟩
  ·exact P2.keep hF3 (za4 _ _ (by omega)) (λq c hq h=>(za4 _ _ (by have := hv2 q hq; omega)).trans h)
  ·refine ⟨rows,?_,hrows.mono λr x hr=>hr.mono hF3⟩;have := zjx (F:=F2) (b:=b) (sz:=2) (m:=pre.length) (c:=pre.length) (cells:=rows.flatten) (by rw [hfl,hpl]) (Nat.le_refl _);rw [hpl] at this ⊢; exact this
theorem yoq {p:Nat} {v:Value} {l:List Int} (P:zdi F M p v l) (hm:za6 M N) (hv:∀ q,v.ownBlock=some q -> q<N)
  (k:∀ ev v' F' M' N' es r,zil l=some (es,r) -> zdi F' M' p v' r -> v'.ownBlock=v.ownBlock -> za9 F F' -> zcb F' ev es -> es.length≤100000 -> N≤N' -> (∀ q,q≠p -> q<N -> M' q=M q) -> za6 M' N' -> (Hp.mk F' M' N').wf -> K ev ⟨F',M',N'⟩)
  (kE:zil l=none -> eOK E F M N p) :
  cF 254 #[.pointer (some ⟨p,0,none⟩)] K E ⟨F,M,N⟩:=by
 refine za5 mixed Tryz.func254 (by kernel_rfl) (yym _ E _) (λhw=>?_);refine zqv (size:=4) (least:=8) P hm (by omega) (by omega) (by omega) (by omega) (λv1 M1 n r1 h1 hn1 P1 e1 hM1 hm1 hw1=>?_) (λh=>kE (by unfold zil; rw [h]));have hrN:zil l=rdL rdE n r1:=by unfold zil; rw [h1]
 have hln:=P1.ln;have hpN:p<N:=hm.lt P.pp;refine zzq (by omega) (by unfold maxLen; omega) (λb hb=>?_);try simp only [sS]
 refine zsu (σ:=Nat) (λi=>.int .i64 (i:Nat)) (λi h=>∃ F' M' N' v' pre rows r,h=⟨F',M',N'⟩∧za9 F F'∧b<N'∧zdi F' M' p v' r∧v'.ownBlock=v.ownBlock∧M' b=some (.cells 143 (rows.flatten++(List.replicate (n - i) [Value.int .u32 0,.slice none 0 0]).flatten) (n*2))∧zaf (ze6 F') 2 rows pre∧pre.length=i∧i≤n∧zil l=rdA rdE pre (n - i) r∧(∀ q,q≠p -> q<N -> M' q=M q)∧za6 M' N') (λi=>n - i) 0 rfl
  (λhw2=>⟨_,za0 hw2,F,_,b+1,v1,[],[],r1,rfl,za9.refl _,by omega,P1.box hm1 hb _,e1,by rw [za2]; simp,zaf.nil _ _,rfl,Nat.zero_le _,by rw [hrN,Nat.sub_zero,zr0],λq q1 q2=>(za4 _ _ (by omega)).trans (hM1 q q1),hm1.new hb _⟩) (λk1 i j h1 hI hw2 next=>?_)
 rw [ztj];obtain ⟨F2,M2,N2,v2,pre,rows,r2,rfl,hF2,hN2,P2,e2,hb2,hrows,hpl,hi,hrd,hM2,hm2⟩:=hI;have hv2:∀ q,v2.ownBlock=some q -> q<N:=λq hq=>hv q (by rw [← e2]; exact hq);have hfl:rows.flatten.length=i*2:=by rw [hrows.flen,hpl]
 refine zau (λhlt=>?_) (λhge=>?_)
 ·have i1:i<n:=by omega
  rw [ygw _ i1] at hb2;try simp only [sS]
  refine zgy (size:=4) P2 hm2 (by omega) (by omega) (λv3 M3 x r3 h3 P3 e3 hM3 hm3 hw3=>?_) (λh=>?_)
  rotate_left
  ·exact (kE (by rw [hrd,zim (by unfold rdE; rw [h]) (by omega)])).step hF2 (by omega) hM2
  have hx:=zj6 h3 P2.bt;have hb3:=(hM3 b (by omega)).trans hb2
  have hcv:cvV .u32 (.int .u64 x)=some (.int .u32 x):=by
   have:IntKind.u32.wrap x=x:=by rw [IntKind.wrap_u32]; have := hx.2.1; omega
   simp [cvV,this]
  refine zab hcv ?_;refine zd0 i1 ?_;refine zab rfl ?_;refine stM (cs':=rows.flatten ++ .int .u32 x :: .slice none 0 0::(List.replicate (n - (i+1)) [Value.int .u32 0,.slice none 0 0]).flatten) ?_ hb3 (by rw [Nat.zero_add,Nat.add_zero]; exact yqr hfl) rfl (List.all_eq_true.1 rfl) (by simp only [List.length_append,hfl,List.length_cons]; omega);have hm4:=hm3.set (show b<N2 from hN2) (some (.cells 143 (rows.flatten ++ .int .u32 x :: .slice none 0 0::(List.replicate (n - (i+1)) [Value.int .u32 0,.slice none 0 0]).flatten) (n*2)))
  have P4:zdi F2 (upd M3 b (some (.cells 143 (rows.flatten ++ .int .u32 x :: .slice none 0 0::(List.replicate (n - (i+1)) [Value.int .u32 0,.slice none 0 0]).flatten) (n*2)))) p v3 r3 :=
   P3.keep (za9.refl _) (za4 _ _ (by omega)) (λq c hq h=>(za4 _ _ (by have := hv2 q (by rw [← e3]; exact hq); omega)).trans h)
  have hM4:∀ q,q≠p -> q<N -> upd M3 b (some (.cells 143 (rows.flatten ++ .int .u32 x :: .slice none 0 0::(List.replicate (n - (i+1)) [Value.int .u32 0,.slice none 0 0]).flatten) (n*2))) q=M q:=λq q1 q2=>(za4 _ _ (by omega)).trans ((hM3 q q1).trans (hM2 q q1 q2));have hb4:=za2 M3 b (some (.cells 143 (rows.flatten ++ .int .u32 x :: .slice none 0 0::(List.replicate (n - (i+1)) [Value.int .u32 0,.slice none 0 0]).flatten) (n*2)));generalize upd M3 b _=M4 at *;refine ybk P4 hm4 (λq hq=>by have := hv2 q (by rw [← e3]; exact hq); omega) (λfv v5 F5 M5 N5 fs r5 h5 P5 e5 hF5 hfv hfs hN5 hM5 hm5 hw5=>?_) (λh=>?_)
  rotate_left
  ·exact (kE (by rw [hrd,zim (by unfold rdE; rw [h3]; simp only; rw [h]) (by omega)])).step hF2 (by omega) hM4
  have hb5:=(hM5 b (by omega) (by omega)).trans hb4;obtain ⟨fa,fc,rfl⟩:=hfv.form;refine zd0 i1 ?_;refine zab rfl ?_;refine stM (cs':=rows.flatten ++ .int .u32 x :: .slice fa fs.length fc::(List.replicate (n - (i+1)) [Value.int .u32 0,.slice none 0 0]).flatten) ?_ hb5 (by rw [Nat.zero_add]; exact yq8 hfl) rfl (List.all_eq_true.1 rfl) (by simp only [List.length_append,hfl,List.length_cons]; omega);refine zaq (by omega) ?_;refine next (i+1) _ _ (by omega) (λhw8=>⟨_,za0 hw8,F5,_,N5,v5,pre++[(x,fs)],rows++[[.int .u32 x,.slice fa fs.length fc]],r5,rfl,hF2.trans hF5,by omega,?_,(e5.trans e3).trans e2,?_,?_,by simp [hpl],i1,?_,?_,hm5.set (by omega) _⟩)
  ·exact P5.keep (za9.refl _) (za4 _ _ (by omega)) (λq c hq h=>(za4 _ _ (by have := hv2 q (by rw [← e3,← e5]; exact hq); omega)).trans h)
  ·refine (za2 _ _ _).trans ?_
   simp
  ·exact (hrows.mono λr x hr=>hr.mono hF5).snoc rfl (List.all_eq_true.1 rfl) ⟨_,rfl,hfv,by simp only; omega⟩
  ·rw [hrd,znz (x:=(x,fs)) (r:=r5) (by unfold rdE; rw [h3]; simp only; rw [h5]) (by omega),show n - i - 1=n - (i+1) by omega]
  ·exact λq q1 q2=>(za4 _ _ (by omega)).trans ((hM5 q q1 (by omega)).trans (hM4 q q1 q2))
 ·try simp only [sS]
  have es:i=n:=by omega
  subst es;try rw [t254_1_1_1]
  rw [Nat.sub_self,zr6] at hrd;rw [Nat.sub_self,List.replicate_zero,List.flatten_nil,List.append_nil] at hb2
  have hbF:F2 b=none:=by
   cases h:F2 b with
   | none=>rfl
   | some cs=>have:M2 b=none:=hw2.d b cs h; rw [hb2] at this; cases this
  have hF3:za9 F2 (upd F2 b (some rows.flatten)):=za9.upd hbF;refine λhc=>⟨⟨upd F2 b (some rows.flatten),upd M2 b none,N2⟩,znf hc (zy2 _) (za2 _ _ _) hb2,λhw'=>k _ v2 _ _ _ pre r2 hrd ?_ e2 (hF2.trans hF3) ?_ (by omega) (by omega) (λq q1 q2=>(za4 _ _ (by omega)).trans (hM2 q q1 q2)) (hm2.set hN2 _) hw'⟩
  ·exact P2.keep hF3 (za4 _ _ (by omega)) (λq c hq h=>(za4 _ _ (by have := hv2 q hq; omega)).trans h)
  ·refine ⟨rows,?_,hrows.mono λr x hr=>hr.mono hF3⟩;have := zjx (F:=F2) (b:=b) (sz:=2) (m:=pre.length) (c:=pre.length) (cells:=rows.flatten) (by rw [hfl,hpl]) (Nat.le_refl _);rw [hpl] at this ⊢; exact this
theorem zi7 {size:Nat} {l r:List Int} {x:Int} (h:rd size l=some (x,r)):size+r.length=l.length:=by
 unfold rd at h
 split at h
 ·cases h
 ·simp only [Option.some.injEq,Prod.mk.injEq] at h;rw [← h.2,List.length_drop]; omega
theorem znq {size least n:Nat} {l r:List Int} (h:rdM size least l=some (n,r)):size+r.length=l.length∧∃ x,rd size l=some (x,r):=by
 unfold rdM at h;cases h1:rd size l with
 | none=>rw [h1] at h; cases h
 | some p=>
  rw [h1] at h;simp only at h
  split at h
  ·cases h
  ·simp only [Option.some.injEq,Prod.mk.injEq] at h;have := zi7 h1;exact ⟨by rw [← h.2]; exact this,p.1,by rw [← h.2]⟩
theorem znt {α:Type} {f:List Int -> Option (α×List Int)} {enc:α -> List Int} (hf:∀ l x r,f l=some (x,r) -> (enc x).length+r.length=l.length):∀ (n:Nat) (l:List Int) (xs:List α) (r:List Int),rdL f n l=some (xs,r) -> (xs.flatMap enc).length+r.length=l.length
 | 0,l,xs,r,h=>by simp only [rdL,Option.some.injEq,Prod.mk.injEq] at h; obtain ⟨rfl,rfl⟩:=h; simp
 | n+1,l,xs,r,h=>by
  simp only [rdL] at h;cases h1:f l with
  | none=>rw [h1] at h; cases h
  | some p=>
   rw [h1] at h;simp only at h;cases h2:rdL f n p.2 with
   | none=>rw [h2] at h; cases h
   | some q=>
    rw [h2] at h;simp only [Option.some.injEq,Prod.mk.injEq] at h;obtain ⟨rfl,rfl⟩:=h;have a1:=hf l p.1 p.2 h1;have a2:=znt hf n p.2 q.1 q.2 h2;rw [List.flatMap_cons,List.length_append]; omega
abbrev zbi (l:List Int):Prop:=∀ x∈l,0≤x∧x<256
theorem zzo {size:Nat} {l r:List Int} {x:Int} (h:rd size l=some (x,r)) (hb:zbi l):zbi r:=by
 have := zj6 h hb;rw [this.2.2.1];exact λx hx=>hb x (List.mem_of_mem_drop hx)
theorem yba {size least n:Nat} {l r:List Int} (h:rdM size least l=some (n,r)) (hb:zbi l):zbi r:=let ⟨_,x,hx⟩:=znq h; zzo hx hb
theorem zrd {α:Type} {f:List Int -> Option (α×List Int)} {Q:α -> Prop} (hf:∀ l x r,zbi l -> f l=some (x,r) -> Q x∧zbi r):∀ (n:Nat) (l:List Int) (xs:List α) (r:List Int),zbi l -> rdL f n l=some (xs,r) -> (∀ x∈xs,Q x)∧zbi r
 | 0,l,xs,r,hb,h=>by simp only [rdL,Option.some.injEq,Prod.mk.injEq] at h; obtain ⟨rfl,rfl⟩:=h; exact ⟨λx hx=>(by cases hx),hb⟩
 | n+1,l,xs,r,hb,h=>by
  simp only [rdL] at h;cases h1:f l with
  | none=>rw [h1] at h; cases h
  | some p=>
   rw [h1] at h;simp only at h;cases h2:rdL f n p.2 with
   | none=>rw [h2] at h; cases h
   | some q=>
    rw [h2] at h;simp only [Option.some.injEq,Prod.mk.injEq] at h;obtain ⟨rfl,rfl⟩:=h;have a1:=hf l p.1 p.2 hb h1;have a2:=zrd hf n p.2 q.1 q.2 a1.2 h2;exact ⟨λx hx=>by rcases List.mem_cons.1 hx with rfl | hx; exact a1.1; exact a2.1 x hx,a2.2⟩
theorem ygh {l r:List Int} {k:List Int} (h:zjo l=some (k,r)):1+((zg4 k).length+r.length)=l.length:=by
 unfold zjo at h;cases h1:rdM 1 4 l with
 | none=>rw [h1] at h; cases h
 | some p=>
  rw [h1] at h;have a1:=(znq h1).1;have a2:=znt (enc:=λx=>zam (zaz x) 4) (λl x r h=>by have := zi7 h; simp only [zaa]; exact this) _ _ _ _ h;unfold zg4; omega
theorem ypi {l r:List Int} {f:Fc} (h:rdF l=some (f,r)):(ze5 f).length+r.length=l.length:=by
 unfold rdF at h;cases h1:zjo l with
 | none=>rw [h1] at h; cases h
 | some p=>
  rw [h1] at h;simp only at h;cases h2:rd 8 p.2 with
  | none=>rw [h2] at h; cases h
  | some q=>
   rw [h2] at h;simp only [Option.some.injEq,Prod.mk.injEq] at h;obtain ⟨rfl,rfl⟩:=h;have a1:=ygh h1;have a2:=zi7 h2;rw [zlr];rw [zpy] at a1;simp only; omega
theorem ybq {l r:List Int} {fs:List Fc} (h:zgz l=some (fs,r)):(zce fs).length+r.length=l.length:=by
 unfold zgz at h;cases h1:rdM 4 9 l with
 | none=>rw [h1] at h; cases h
 | some p=>
  rw [h1] at h;have a1:=(znq h1).1;have a2:=znt (enc:=ze5) (λl x r h=>ypi h) _ _ _ _ h;unfold zce; rw [List.length_append,zaa]; omega
theorem yo1 {l r:List Int} {e:En} (h:rdE l=some (e,r)):(zeu e).length+r.length=l.length:=by
 unfold rdE at h;cases h1:rd 4 l with
 | none=>rw [h1] at h; cases h
 | some p=>
  rw [h1] at h;simp only at h;cases h2:zgz p.2 with
  | none=>rw [h2] at h; cases h
  | some q=>
   rw [h2] at h;simp only [Option.some.injEq,Prod.mk.injEq] at h;obtain ⟨rfl,rfl⟩:=h;have a1:=zi7 h1;have a2:=ybq h2;unfold zeu; rw [List.length_append,zaa]; simp only; omega
theorem ymp {l r:List Int} {es:List En} (h:zil l=some (es,r)):(zdn es).length+r.length=l.length:=by
 unfold zil at h;cases h1:rdM 4 8 l with
 | none=>rw [h1] at h; cases h
 | some p=>
  rw [h1] at h;have a1:=(znq h1).1;have a2:=znt (enc:=zeu) (λl x r h=>yo1 h) _ _ _ _ h;unfold zdn; rw [List.length_append,zaa]; omega
theorem zr8 {l r:List Int} {ns:List Int} (h:rdN l=some (ns,r)):(zcn ns).length+r.length=l.length:=by
 unfold rdN at h;cases h1:rdM 1 1 l with
 | none=>rw [h1] at h; cases h
 | some p=>
  rw [h1] at h;have a1:=(znq h1).1;have a2:=znt (enc:=λx=>zam (zaz x) 1) (λl x r h=>by have := zi7 h; simp only [zaa]; exact this) _ _ _ _ h;unfold zcn; rw [List.length_append,zaa]; omega
theorem yrk {l r:List Int} {f:Fc} (hb:zbi l) (h:rdF l=some (f,r)):zff f.2∧zbi r:=by
 unfold rdF at h;cases h1:zjo l with
 | none=>rw [h1] at h; cases h
 | some p=>
  rw [h1] at h;simp only at h;cases h2:rd 8 p.2 with
  | none=>rw [h2] at h; cases h
  | some q=>
   rw [h2] at h;simp only [Option.some.injEq,Prod.mk.injEq] at h;obtain ⟨rfl,rfl⟩:=h
   have hp:zbi p.2:=by
    unfold zjo at h1;cases h3:rdM 1 4 l with
    | none=>rw [h3] at h1; cases h1
    | some u=>rw [h3] at h1; exact (zrd (Q:=λ_=>True) (λl x r hb h=>⟨trivial,zzo h hb⟩) _ _ _ _ (yba h3 hb) h1).2
   refine ⟨?_,zzo h2 hp⟩;unfold zff zlq; simp only; rw [IntKind.wrap_i64]; omega
theorem yeb {l r:List Int} {fs:List Fc} (hb:zbi l) (h:zgz l=some (fs,r)):(∀ f∈fs,zff f.2)∧zbi r:=by
 unfold zgz at h;cases h1:rdM 4 9 l with
 | none=>rw [h1] at h; cases h
 | some p=>rw [h1] at h; exact zrd (λl x r hb h=>yrk hb h) _ _ _ _ (yba h1 hb) h
theorem ypx {l r:List Int} {e:En} (hb:zbi l) (h:rdE l=some (e,r)):(0≤e.1∧e.1<4294967296∧∀ f∈e.2,zff f.2)∧zbi r:=by
 unfold rdE at h;cases h1:rd 4 l with
 | none=>rw [h1] at h; cases h
 | some p=>
  rw [h1] at h;simp only at h;cases h2:zgz p.2 with
  | none=>rw [h2] at h; cases h
  | some q=>
   rw [h2] at h;simp only [Option.some.injEq,Prod.mk.injEq] at h;obtain ⟨rfl,rfl⟩:=h;have a1:=zj6 h1 hb;have a2:=yeb (zzo h1 hb) h2;exact ⟨⟨a1.1,by simpa using a1.2.1,a2.1⟩,a2.2⟩
theorem ynl {l r:List Int} {es:List En} (hb:zbi l) (h:zil l=some (es,r)):(∀ e∈es,0≤e.1∧e.1<4294967296∧∀ f∈e.2,zff f.2)∧zbi r:=by
 unfold zil at h;cases h1:rdM 4 8 l with
 | none=>rw [h1] at h; cases h
 | some p=>rw [h1] at h; exact zrd (λl x r hb h=>ypx hb h) _ _ _ _ (yba h1 hb) h
theorem zyw {l:List Int} {kind id:Int} {l1 l2:List Int} (h1:rd 1 l=some (kind,l1)) (h2:rd 4 l1=some (id,l2)):rdR l =
  if kind=1 then match rdN l2 with
   | none=>none
   | some (ns,l)=>match zgz l with
    | none=>none
    | some (fs,l)=>some (⟨kind,id,0,ns,fs,0,0,[]⟩,l)
  else if kind=2 then match rd 4 l2 with
   | none=>none
   | some (tm,l)=>match rdN l with
    | none=>none
    | some (ns,l)=>some (⟨kind,id,tm,ns,[],0,0,[]⟩,l)
  else if kind=7 then match rd 4 l2 with
   | none=>none
   | some (lo,l)=>match rd 4 l with
    | none=>none
    | some (hi,l)=>match zil l with
     | none=>none
     | some (es,l)=>some (⟨kind,id,0,[],[],lo,hi,es⟩,l)
  else some (⟨kind,id,0,[],[],0,0,[]⟩,l2):=by
 unfold rdR; rw [h1]; simp only; rw [h2]; try rfl
theorem yrd {p:Nat} {v:Value} {l:List Int} (P:zdi F M p v l) (hm:za6 M N) (hv:∀ q,v.ownBlock=some q -> q<N) (h6:∀ x r,rd 1 l=some (x,r) -> x≠6)
  (k:∀ cs F' M' N' r q,rdR l=some (r,q) -> r.kind≠6 -> zef F' cs r -> r.lens -> r.typ -> za9 F F' -> N≤N' -> (∀ q,q≠p -> q<N -> M' q=M q) -> za6 M' N' -> (Hp.mk F' M' N').wf -> K (.agg cs.toArray) ⟨F',M',N'⟩)
  (kE:rdR l=none -> eOK E F M N p) :
  cF 191 #[.pointer (some ⟨p,0,none⟩)] K E ⟨F,M,N⟩:=by
 refine za5 mixed Tryz.func191 (by kernel_rfl) (yu4 _ E _) (λhw=>?_);have hpN:p<N:=hm.lt P.pp;refine zar (cs:=[.int .u8 0,.int .u32 0,.int .u32 0,.slice none 0 0,.slice none 0 0,.int .u32 0,.slice none 0 0,.int .i64 0,.int .i64 0,.slice none 0 0]) (λb1 hb1=>?_);have P1:=P.box hm hb1 (some (.cells 77 [.int .u8 0,.int .u32 0,.int .u32 0,.slice none 0 0,.slice none 0 0,.int .u32 0,.slice none 0 0,.int .i64 0,.int .i64 0,.slice none 0 0] 10));have hm1:=hm.new hb1 (some (.cells 77 [.int .u8 0,.int .u32 0,.int .u32 0,.slice none 0 0,.slice none 0 0,.int .u32 0,.slice none 0 0,.int .i64 0,.int .i64 0,.slice none 0 0] 10));have hM1:∀ q,q≠p -> q<N -> upd M b1 (some (.cells 77 [.int .u8 0,.int .u32 0,.int .u32 0,.slice none 0 0,.slice none 0 0,.int .u32 0,.slice none 0 0,.int .i64 0,.int .i64 0,.slice none 0 0] 10)) q=M q:=λq _ hq=>za4 _ _ (by omega);have hb:=za2 M b1 (some (.cells 77 [.int .u8 0,.int .u32 0,.int .u32 0,.slice none 0 0,.slice none 0 0,.int .u32 0,.slice none 0 0,.int .i64 0,.int .i64 0,.slice none 0 0] 10));generalize upd M b1 _=M1 at *;refine zgy (size:=1) P1 hm1 (by omega) (by omega) (λv2 M2 kind l2 h2 P2 e2 hM2 hm2 hw2=>?_) (λh=>(kE (by unfold rdR; rw [h])).step (za9.refl _) (by omega) hM1);have hx2:=zj6 h2 P.bt;have hk6:=h6 _ _ h2;refine zab (v:=.int .u8 kind) (by have:IntKind.u8.wrap kind=kind:=(by rw [IntKind.wrap_u8]; have := hx2.2.1; omega); simp [cvV,this]) ?_;refine zgy (size:=4) P2 hm2 (by omega) (by omega) (λv3 M3 id l3 h3 P3 e3 hM3 hm3 hw3=>?_) (λh=>(kE (by unfold rdR; rw [h2]; simp only; rw [h])).step (za9.refl _) (by omega) (λq q1 q2=>(hM2 q q1).trans (hM1 q q1 q2)));have hx3:=zj6 h3 P2.bt;have hR:=zyw h2 h3;refine zab (v:=.int .u32 id) (by have:IntKind.u32.wrap id=id:=(by rw [IntKind.wrap_u32]; have := hx3.2.1; omega); simp [cvV,this]) ?_;refine zab (v:=.agg #[.int .u8 kind,.int .u32 id,.int .u32 0,.slice none 0 0,.slice none 0 0,.int .u32 0,.slice none 0 0,.int .i64 0,.int .i64 0,.slice none 0 0]) (by kernel_rfl) ?_;refine zar (cs:=[.int .u8 0,.int .u32 0,.int .u32 0,.slice none 0 0,.slice none 0 0,.int .u32 0,.slice none 0 0,.int .i64 0,.int .i64 0,.slice none 0 0]) (λb2 hb2=>?_);refine stM (cs':=[.int .u8 kind,.int .u32 id,.int .u32 0,.slice none 0 0,.slice none 0 0,.int .u32 0,.slice none 0 0,.int .i64 0,.int .i64 0,.slice none 0 0]) ?_ (za2 _ _ _) rfl rfl (List.all_eq_true.1 rfl);rw [zas];have P4:=P3.box hm3 hb2 (some (.cells 77 [.int .u8 kind,.int .u32 id,.int .u32 0,.slice none 0 0,.slice none 0 0,.int .u32 0,.slice none 0 0,.int .i64 0,.int .i64 0,.slice none 0 0] 10));have hm4:=hm3.new hb2 (some (.cells 77 [.int .u8 kind,.int .u32 id,.int .u32 0,.slice none 0 0,.slice none 0 0,.int .u32 0,.slice none 0 0,.int .i64 0,.int .i64 0,.slice none 0 0] 10));have hM4:∀ q,q≠p -> q<N -> upd M3 b2 (some (.cells 77 [.int .u8 kind,.int .u32 id,.int .u32 0,.slice none 0 0,.slice none 0 0,.int .u32 0,.slice none 0 0,.int .i64 0,.int .i64 0,.slice none 0 0] 10)) q=M q:=λq q1 q2=>(za4 _ _ (by omega)).trans ((hM3 q q1).trans ((hM2 q q1).trans (hM1 q q1 q2)));have hb1':upd M3 b2 (some (.cells 77 [.int .u8 kind,.int .u32 id,.int .u32 0,.slice none 0 0,.slice none 0 0,.int .u32 0,.slice none 0 0,.int .i64 0,.int .i64 0,.slice none 0 0] 10)) b1=_:=(za4 _ _ (by omega)).trans ((hM3 b1 (by omega)).trans ((hM2 b1 (by omega)).trans hb));have hb2':=za2 M3 b2 (some (.cells 77 [.int .u8 kind,.int .u32 id,.int .u32 0,.slice none 0 0,.slice none 0 0,.int .u32 0,.slice none 0 0,.int .i64 0,.int .i64 0,.slice none 0 0] 10));have hv4:∀ q,v3.ownBlock=some q -> q<b2+1:=λq hq=>by have := hv q (by rw [← e2,← e3]; exact hq); omega
 generalize upd M3 b2 _=M4 at *
 have fin:∀ (F5:Nat -> Option (List Value)) (M5:Nat -> Option zah) (N5:Nat) (r:zaj) (q:List Int) (na:Option Addr) (nc:Nat) (fv ev:Value),rdR l=some (r,q) -> r.kind≠6 -> za9 F F5 -> b2<N5 -> (∀ q,q≠p -> q<N -> M5 q=M q) -> za6 M5 N5 -> M5 b1=some (.cells 77 [.int .u8 0,.int .u32 0,.int .u32 0,.slice none 0 0,.slice none 0 0,.int .u32 0,.slice none 0 0,.int .i64 0,.int .i64 0,.slice none 0 0] 10) ->
   M5 b2=some (.cells 77 [.int .u8 r.kind,.int .u32 r.id,.int .u32 r.tm,.slice na r.ns.length nc,fv,.int .u32 0,.slice none 0 0,.int .i64 r.lo,.int .i64 r.hi,ev] 10) -> sF F5 1 (.slice na r.ns.length nc) r.ns.length (ic r.ns) -> zbp F5 fv r.fs -> zcb F5 ev r.es -> r.lens -> r.typ ->
   ld true 10 (.pointer (some ⟨b2,0,none⟩)) (λt1=>st 10 (.pointer (some ⟨b1,0,none⟩)) t1 λ_=>ld true 10 (.pointer (some ⟨b1,0,none⟩)) λt2 h=>h.wf -> ∃ h',h.wk h'∧(h'.wf -> K t2 h')) ⟨F5,M5,N5⟩:=by
  intro F5 M5 N5 r q na nc fv ev g1 g2 g3 g4 g5 g6 g7 g8 g9 g10 g11 g12 g13;obtain ⟨fa,fc,rfl⟩:=g10.form;obtain ⟨ea,ec,rfl⟩:∃ ea ec,ev=.slice ea r.es.length ec:=by obtain ⟨rows,h1,_⟩:=g11; obtain ⟨a,c,h2,_⟩:=h1.form; exact ⟨a,c,h2⟩
  refine zbd (vs:=[.int .u8 r.kind,.int .u32 r.id,.int .u32 r.tm,.slice na r.ns.length nc,.slice fa r.fs.length fc,.int .u32 0,.slice none 0 0,.int .i64 r.lo,.int .i64 r.hi,.slice ea r.es.length ec]) ?_ g8;refine stM (cs':=[.int .u8 r.kind,.int .u32 r.id,.int .u32 r.tm,.slice na r.ns.length nc,.slice fa r.fs.length fc,.int .u32 0,.slice none 0 0,.int .i64 r.lo,.int .i64 r.hi,.slice ea r.es.length ec]) ?_ g7 rfl rfl (List.all_eq_true.1 rfl);refine zbd (vs:=[.int .u8 r.kind,.int .u32 r.id,.int .u32 r.tm,.slice na r.ns.length nc,.slice fa r.fs.length fc,.int .u32 0,.slice none 0 0,.int .i64 r.lo,.int .i64 r.hi,.slice ea r.es.length ec]) ?_ (za2 _ _ _);exact λhc=>⟨_,za0 hc,λhw'=>k _ F5 _ N5 r q g1 g2 ⟨na,nc,_,none,0,_,rfl,g9,g10,g11⟩ g12 g13 g3 (by omega) (λq q1 q2=>(za4 _ _ (by omega)).trans (g5 q q1 q2)) (g6.set (by omega) _) hw'⟩
 have hidr:0≤id∧id<4294967296:=⟨hx3.1,by have := hx3.2.1; simpa using this⟩;have sFn:∀ F':Nat -> Option (List Value),sF F' 1 (.slice none 0 0) 0 (ic []):=λF'=>by simpa [ic] using sF.nil F' 1 0
 have fn:∀ F':Nat -> Option (List Value),zbp F' (.slice none 0 0) []:=λF'=>⟨[],by simpa using sF.nil F' 2 0,zaf.nil _ _⟩;have en:∀ F':Nat -> Option (List Value),zcb F' (.slice none 0 0) []:=λF'=>⟨[],by simpa using sF.nil F' 2 0,zaf.nil _ _⟩;try simp only [sS]
 refine ldM (v:=.int .u8 kind) ?_ hb2';refine zat (λg1=>?_) (λg1=>?_)
 ·rw [if_pos g1] at hR;refine zav ?_;refine ybv P4 hm4 hv4 (λnv v5 F5 M5 N5 ns l5 h5 P5 e5 hF5 hnv hN5 hM5 hm5 hw5=>?_) (λh=>(kE (by rw [hR,h])).step (za9.refl _) (by omega) hM4);obtain ⟨na,nc,rfl,_⟩:=hnv.form
  have hnl:ns.length≤100000:=by
   have a1:=zr8 h5;have a2:=zgn (λx=>zam (zaz x) 1) 1 ns λx _=>by rw [zaa]; omega
   unfold zcn at a1;rw [List.length_append,zaa] at a1;have := P3.ln; omega
  have hb5:=(hM5 b2 (by omega) (by omega)).trans hb2';try simp only [sS]
  refine stM (cs':=[.int .u8 kind,.int .u32 id,.int .u32 0,.slice na ns.length nc,.slice none 0 0,.int .u32 0,.slice none 0 0,.int .i64 0,.int .i64 0,.slice none 0 0]) ?_ hb5 rfl rfl (List.all_eq_true.1 rfl)
  have P6:zdi F5 (upd M5 b2 (some (.cells 77 [.int .u8 kind,.int .u32 id,.int .u32 0,.slice na ns.length nc,.slice none 0 0,.int .u32 0,.slice none 0 0,.int .i64 0,.int .i64 0,.slice none 0 0] 10))) p v5 l5 :=
   P5.keep (za9.refl _) (za4 _ _ (by omega)) (λq c hq h=>(za4 _ _ (by have := hv q (by rw [← e2,← e3,← e5]; exact hq); omega)).trans h)
  refine ybk P6 (hm5.set (by omega) _) (λq hq=>by have := hv q (by rw [← e2,← e3,← e5]; exact hq); omega) (λfv v7 F7 M7 N7 fs l7 h7 P7 e7 hF7 hfv hfl hN7 hM7 hm7 hw7=>?_) (λh=>(kE (by rw [hR,h5]; simp only; rw [h])).step hF5 (by omega) (λq q1 q2=>(za4 _ _ (by omega)).trans ((hM5 q q1 (by omega)).trans (hM4 q q1 q2))));obtain ⟨fa,fc,rfl⟩:=hfv.form;try simp only [sS]
  refine stM (cs':=[.int .u8 kind,.int .u32 id,.int .u32 0,.slice na ns.length nc,.slice fa fs.length fc,.int .u32 0,.slice none 0 0,.int .i64 0,.int .i64 0,.slice none 0 0]) ?_ ((hM7 b2 (by omega) (by omega)).trans (za2 _ _ _)) rfl rfl (List.all_eq_true.1 rfl);rw [zl1]
  refine fin F7 _ N7 ⟨kind,id,0,ns,fs,0,0,[]⟩ l7 na nc _ _ (by rw [hR,h5]; simp only; rw [h7]) hk6 (hF5.trans hF7) (by omega) (λq q1 q2=>(za4 _ _ (by omega)).trans ((hM7 q q1 (by omega)).trans ((za4 _ _ (by omega)).trans ((hM5 q q1 (by omega)).trans (hM4 q q1 q2))))) (hm7.set (by omega) _)
   ((za4 _ _ (by omega)).trans ((hM7 b1 (by omega) (by omega)).trans ((za4 _ _ (by omega)).trans ((hM5 b1 (by omega) (by omega)).trans hb1')))) (za2 _ _ _) (hnv.mono hF7) hfv (en F7) ⟨by simp only; omega,by simp only; omega,by simp,by simp⟩ ⟨hidr,by simp,(yeb P5.bt h7).1,by simp⟩
 ·rw [if_neg g1] at hR;refine zan ?_;refine zat (λg2=>?_) (λg2=>?_)
  ·rw [if_pos g2] at hR;refine zav ?_;refine zgy (size:=4) P4 hm4 (by omega) (by omega) (λv5 M5 tm l5 h5 P5 e5 hM5 hm5 hw5=>?_) (λh=>(kE (by rw [hR,h])).step (za9.refl _) (by omega) hM4);have hx5:=zj6 h5 P4.bt;have hb5:=(hM5 b2 (by omega)).trans hb2';refine zab (v:=.int .u32 tm) (by have:IntKind.u32.wrap tm=tm:=(by rw [IntKind.wrap_u32]; have := hx5.2.1; omega); simp [cvV,this]) ?_;try simp only [sS]
   refine stM (cs':=[.int .u8 kind,.int .u32 id,.int .u32 tm,.slice none 0 0,.slice none 0 0,.int .u32 0,.slice none 0 0,.int .i64 0,.int .i64 0,.slice none 0 0]) ?_ hb5 rfl rfl (List.all_eq_true.1 rfl)
   have P6:zdi F (upd M5 b2 (some (.cells 77 [.int .u8 kind,.int .u32 id,.int .u32 tm,.slice none 0 0,.slice none 0 0,.int .u32 0,.slice none 0 0,.int .i64 0,.int .i64 0,.slice none 0 0] 10))) p v5 l5 :=
    P5.keep (za9.refl _) (za4 _ _ (by omega)) (λq c hq h=>(za4 _ _ (by have := hv q (by rw [← e2,← e3,← e5]; exact hq); omega)).trans h)
   refine ybv P6 (hm5.set (by omega) _) (λq hq=>by have := hv q (by rw [← e2,← e3,← e5]; exact hq); omega) (λnv v7 F7 M7 N7 ns l7 h7 P7 e7 hF7 hnv hN7 hM7 hm7 hw7=>?_) (λh=>(kE (by rw [hR,h5]; simp only; rw [h])).step (za9.refl _) (by omega) (λq q1 q2=>(za4 _ _ (by omega)).trans ((hM5 q q1).trans (hM4 q q1 q2))));obtain ⟨na,nc,rfl,_⟩:=hnv.form
   have hnl:ns.length≤100000:=by
    have a1:=zr8 h7;have a2:=zgn (λx=>zam (zaz x) 1) 1 ns λx _=>by rw [zaa]; omega
    unfold zcn at a1;rw [List.length_append,zaa] at a1;have := P5.ln; omega
   try simp only [sS]
   refine stM (cs':=[.int .u8 kind,.int .u32 id,.int .u32 tm,.slice na ns.length nc,.slice none 0 0,.int .u32 0,.slice none 0 0,.int .i64 0,.int .i64 0,.slice none 0 0]) ?_ ((hM7 b2 (by omega) (by omega)).trans (za2 _ _ _)) rfl rfl (List.all_eq_true.1 rfl);rw [zl1]
   refine fin F7 _ N7 ⟨kind,id,tm,ns,[],0,0,[]⟩ l7 na nc _ _ (by rw [hR,h5]; simp only; rw [h7]) hk6 hF7 (by omega) (λq q1 q2=>(za4 _ _ (by omega)).trans ((hM7 q q1 (by omega)).trans ((za4 _ _ (by omega)).trans ((hM5 q q1).trans (hM4 q q1 q2))))) (hm7.set (by omega) _)
    ((za4 _ _ (by omega)).trans ((hM7 b1 (by omega) (by omega)).trans ((za4 _ _ (by omega)).trans ((hM5 b1 (by omega)).trans hb1')))) (za2 _ _ _) hnv (fn F7) (en F7) ⟨by simp only; omega,by simp,by simp,by simp⟩ ⟨hidr,⟨hx5.1,by have := hx5.2.1; simpa using this⟩,by simp,by simp⟩
  ·rw [if_neg g2] at hR;refine zan ?_;refine zbo hk6 (zan ?_);refine zat (λg7=>?_) (λg7=>?_)
   ·rw [if_pos g7] at hR;refine zav ?_;refine zgy (size:=4) P4 hm4 (by omega) (by omega) (λv5 M5 lo l5 h5 P5 e5 hM5 hm5 hw5=>?_) (λh=>(kE (by rw [hR,h])).step (za9.refl _) (by omega) hM4);have hx5:=zj6 h5 P4.bt;have hb5:=(hM5 b2 (by omega)).trans hb2';refine zvc hx5.1 (by have := hx5.2.1; omega) ?_;try simp only [sS]
    refine stM (cs':=[.int .u8 kind,.int .u32 id,.int .u32 0,.slice none 0 0,.slice none 0 0,.int .u32 0,.slice none 0 0,.int .i64 lo,.int .i64 0,.slice none 0 0]) ?_ hb5 rfl rfl (List.all_eq_true.1 rfl)
    have P6:zdi F (upd M5 b2 (some (.cells 77 [.int .u8 kind,.int .u32 id,.int .u32 0,.slice none 0 0,.slice none 0 0,.int .u32 0,.slice none 0 0,.int .i64 lo,.int .i64 0,.slice none 0 0] 10))) p v5 l5 :=
     P5.keep (za9.refl _) (za4 _ _ (by omega)) (λq c hq h=>(za4 _ _ (by have := hv q (by rw [← e2,← e3,← e5]; exact hq); omega)).trans h)
    have hM6:∀ q,q≠p -> q<N -> upd M5 b2 (some (.cells 77 [.int .u8 kind,.int .u32 id,.int .u32 0,.slice none 0 0,.slice none 0 0,.int .u32 0,.slice none 0 0,.int .i64 lo,.int .i64 0,.slice none 0 0] 10)) q=M q:=λq q1 q2=>(za4 _ _ (by omega)).trans ((hM5 q q1).trans (hM4 q q1 q2));refine zgy (size:=4) P6 (hm5.set (by omega) _) (by omega) (by omega) (λv7 M7 hi l7 h7 P7 e7 hM7 hm7 hw7=>?_) (λh=>(kE (by rw [hR,h5]; simp only; rw [h])).step (za9.refl _) (by omega) hM6);have hx7:=zj6 h7 P6.bt;refine zvc hx7.1 (by have := hx7.2.1; omega) ?_;try simp only [sS]
    refine stM (cs':=[.int .u8 kind,.int .u32 id,.int .u32 0,.slice none 0 0,.slice none 0 0,.int .u32 0,.slice none 0 0,.int .i64 lo,.int .i64 hi,.slice none 0 0]) ?_ ((hM7 b2 (by omega)).trans (za2 _ _ _)) rfl rfl (List.all_eq_true.1 rfl)
    have P8:zdi F (upd M7 b2 (some (.cells 77 [.int .u8 kind,.int .u32 id,.int .u32 0,.slice none 0 0,.slice none 0 0,.int .u32 0,.slice none 0 0,.int .i64 lo,.int .i64 hi,.slice none 0 0] 10))) p v7 l7 :=
     P7.keep (za9.refl _) (za4 _ _ (by omega)) (λq c hq h=>(za4 _ _ (by have := hv q (by rw [← e2,← e3,← e5,← e7]; exact hq); omega)).trans h)
    have hM8:∀ q,q≠p -> q<N -> upd M7 b2 (some (.cells 77 [.int .u8 kind,.int .u32 id,.int .u32 0,.slice none 0 0,.slice none 0 0,.int .u32 0,.slice none 0 0,.int .i64 lo,.int .i64 hi,.slice none 0 0] 10)) q=M q:=λq q1 q2=>(za4 _ _ (by omega)).trans ((hM7 q q1).trans (hM6 q q1 q2));refine yoq P8 (hm7.set (by omega) _) (λq hq=>by have := hv q (by rw [← e2,← e3,← e5,← e7]; exact hq); omega) (λev v9 F9 M9 N9 es l9 h9 P9 e9 hF9 hev hel hN9 hM9 hm9 hw9=>?_) (λh=>(kE (by rw [hR,h5]; simp only; rw [h7]; simp only; rw [h])).step (za9.refl _) (by omega) hM8);have hev':=hev;obtain ⟨ea,ec,e0⟩:∃ ea ec,ev=.slice ea es.length ec:=by obtain ⟨rows,h1,_⟩:=hev; obtain ⟨a,c,h2,_⟩:=h1.form; exact ⟨a,c,h2⟩
    try simp only [sS]
    refine stM (cs':=[.int .u8 kind,.int .u32 id,.int .u32 0,.slice none 0 0,.slice none 0 0,.int .u32 0,.slice none 0 0,.int .i64 lo,.int .i64 hi,ev]) ?_ ((hM9 b2 (by omega) (by omega)).trans (za2 _ _ _)) (by rw [e0]; rfl) (by rw [e0]; rfl) (by rw [e0]; exact List.all_eq_true.1 rfl);rw [zl1];have hes:=ynl P7.bt h9
    refine fin F9 _ N9 ⟨kind,id,0,[],[],lo,hi,es⟩ l9 none 0 _ _ (by rw [hR,h5]; simp only; rw [h7]; simp only; rw [h9]) hk6 hF9 (by omega) (λq q1 q2=>(za4 _ _ (by omega)).trans ((hM9 q q1 (by omega)).trans (hM8 q q1 q2))) (hm9.set (by omega) _)
     ((za4 _ _ (by omega)).trans ((hM9 b1 (by omega) (by omega)).trans ((za4 _ _ (by omega)).trans ((hM7 b1 (by omega)).trans ((za4 _ _ (by omega)).trans ((hM5 b1 (by omega)).trans hb1')))))) (za2 _ _ _) (sFn F9) (fn F9) hev' ⟨by simp,by simp,by simp only; omega,λx hx=>(hes.1 x hx).1⟩ ⟨hidr,by simp,by simp,hes.1⟩
   ·rw [if_neg g7] at hR;refine zan ?_;rw [zl1];exact fin F _ (b2+1) ⟨kind,id,0,[],[],0,0,[]⟩ l3 none 0 _ _ hR hk6 (za9.refl _) (by omega) hM4 hm4 hb1' hb2' (sFn F) (fn F) (en F) ⟨by simp,by simp,by simp,by simp⟩ ⟨hidr,by simp,by simp,by simp⟩
def zak:List Value:=[.int .u8 0,.int .u32 0,.int .u32 0,.slice none 0 0,.slice none 0 0,.int .u32 0,.slice none 0 0,.int .i64 0,.int .i64 0,.slice none 0 0]
theorem yj1 {R:Ending -> FrameMode -> Hp -> Prop} {h:Hp} {a b:Value} (k:R (.returned (.tuple #[])) .returning h):zr2 Tryz.prog 190 #[a,b] .returning R h:=by
 refine zol mixed Tryz.func190 (id:=0) (rest:=sel (za3 Tryz.f190) [1]) (ops:=zgr (sel (za3 Tryz.f190) [0])) (d:=some 5) (by kernel_rfl) (by kernel_rfl) (by kernel_rfl)
  (X:=pv (zon .eql .nilIface) λt1=>cnd t1 (R (.returned (.tuple #[])) .returning) (pv (taV 286 (.agg #[]) .nilIface) λt2=>pv (exV 1 t2) λt3=>pv (exV 0 t2) λt4=>cnd t3
   (nw 286 [] λt5=>st 0 t5 t4 λ_=>pv (bdC zak.toArray [(0,1),(1,1),(2,1),(3,1),(4,1),(5,2),(7,1),(8,1),(9,1)] #[]) λt6=>st 10 a t6 λ_=>st 1 b (.bool false) λ_=>R (.returned (.tuple #[])) .returning)
   (pnc .nilIface (λc h=>c≠[]∧R (.panicked c) .returning h) λ_=>R (.returned (.tuple #[])) .returning))) (by kernel_rfl) ?_
 exact zab rfl (zav k)
theorem yh5 {R:Ending -> FrameMode -> Hp -> Prop} {xb ib:Nat} {cs:List Value} {i0:Value} (hx:M xb=some (.cells 77 cs 10)) (hl:cs.length=10) (hi:M ib=some (.cells 4 [i0] 1)) (hne:xb≠ib) (hm:za6 M N)
  (k:∀ M' N',(∀ q,q≠xb -> q≠ib -> q<N -> M' q=M q) -> M' xb=some (.cells 77 zak 10) -> M' ib=some (.cells 4 [.bool false] 1) -> N≤N' -> za6 M' N' -> R (.returned (.tuple #[])) (.panicking [{ v:=.iface 286 (.agg #[]),recovered:=true }]) ⟨F,M',N'⟩) :
  zr2 Tryz.prog 190 #[.pointer (some ⟨xb,0,none⟩),.pointer (some ⟨ib,0,none⟩)] (.panicking zko) R ⟨F,M,N⟩:=by
 refine zol mixed Tryz.func190 (id:=0) (rest:=sel (za3 Tryz.f190) [1]) (ops:=zgr (sel (za3 Tryz.f190) [0])) (d:=some 5) (by kernel_rfl) (by kernel_rfl) (by kernel_rfl)
  (X:=pv (zon .eql (.iface 286 (.agg #[]))) λt1=>cnd t1 (R (.returned (.tuple #[])) (zhy (.panicking zko)).2) (pv (taV 286 (.agg #[]) (.iface 286 (.agg #[]))) λt2=>pv (exV 1 t2) λt3=>pv (exV 0 t2) λt4=>cnd t3
   (nw 286 [] λt5=>st 0 t5 t4 λ_=>pv (bdC zak.toArray [(0,1),(1,1),(2,1),(3,1),(4,1),(5,2),(7,1),(8,1),(9,1)] #[]) λt6=>st 10 (.pointer (some ⟨xb,0,none⟩)) t6 λ_=>st 1 (.pointer (some ⟨ib,0,none⟩)) (.bool false) λ_=>R (.returned (.tuple #[])) (zhy (.panicking zko)).2)
   (pnc (.iface 286 (.agg #[])) (λc h=>c≠[]∧R (.panicked c) (zhy (.panicking zko)).2 h) λ_=>R (.returned (.tuple #[])) (zhy (.panicking zko)).2))) (by kernel_rfl) ?_
 refine zab rfl (zan ?_);refine zab (v:=.tuple #[.agg #[],.bool true]) rfl (zab rfl (zab rfl (zav ?_)));refine zar (cs:=[]) (λb5 hb5=>?_);refine stM (cs':=[]) ?_ (za2 _ _ _) rfl rfl (λc hc=>by cases hc) (by simp);rw [zas];refine zab (v:=.agg zak.toArray) (by kernel_rfl) ?_;have hxN:=hm.lt hx;have hiN:=hm.lt hi;refine stM (cs':=zak) ?_ ((za4 _ _ (by omega)).trans hx) ?_ rfl (List.all_eq_true.1 rfl) (by omega)
 ·refine stM (cs':=[.bool false]) ?_ ((za4 _ _ (λe=>hne e.symm)).trans ((za4 _ _ (by omega)).trans hi)) rfl rfl (List.all_eq_true.1 rfl);refine k _ _ (λq q1 q2 q3=>(za4 _ _ q2).trans ((za4 _ _ q1).trans (za4 _ _ (by omega)))) ((za4 _ _ hne).trans (za2 _ _ _)) (za2 _ _ _) (by omega) ?_;exact ((hm.new hb5 _).set (by omega) _).set (by omega) _
 ·show zb3 cs 0 zak=zak;unfold zb3;rw [List.drop_eq_nil_of_le (by simp [zak]; omega)]; simp
theorem yov {v:Value} {l:List Int} (hv:sR F M 1 v l.length (bts l)) (ho:∀ q,v.ownBlock=some q -> q<N) (hb8:zbi l) (hln:l.length≤100000) (h6:∀ x r,rd 1 l=some (x,r) -> x≠6)
  (k1:∀ cs F' M' N' r q,rdR l=some (r,q) -> r.kind≠6 -> zef F' cs r -> r.lens -> r.typ -> za9 F F' -> N≤N' -> (∀ q,q<N -> M' q=M q) -> za6 M' N' -> (Hp.mk F' M' N').wf -> K (.tuple #[.agg cs.toArray,.bool true]) ⟨F',M',N'⟩)
  (k0:rdR l=none -> ∀ F' M' N',za9 F F' -> N≤N' -> (∀ q,q<N -> M' q=M q) -> za6 M' N' -> (Hp.mk F' M' N').wf -> K (.tuple #[.agg zak.toArray,.bool false]) ⟨F',M',N'⟩) :
  cF 137 #[v] K E ⟨F,M,N⟩:=by
 refine ztr Tryz.func137 (by kernel_rfl) (λhw=>?_);have hm:za6 M N:=hw.m;obtain ⟨va,vc,rfl,_⟩:=hv.form;refine zd4 (a:=sel (za3 Tryz.f137) [0]) (b:=sel (za3 Tryz.f137) [1]) (by kernel_rfl) ?_;refine zd3 mixed (zc1 zd6) (yre ..) ?_;refine zar (cs:=zak) (λxb hxb=>?_);refine zar (cs:=[.bool false]) (λib hib=>?_);have hx:upd (upd M xb (some (.cells 77 zak 10))) ib (some (.cells 4 [.bool false] 1)) xb=some (.cells 77 zak 10):=(za4 _ _ (by omega)).trans (za2 _ _ _);have hi:upd (upd M xb (some (.cells 77 zak 10))) ib (some (.cells 4 [.bool false] 1)) ib=some (.cells 4 [.bool false] 1):=za2 _ _ _;have hM1:∀ q,q<N -> upd (upd M xb (some (.cells 77 zak 10))) ib (some (.cells 4 [.bool false] 1)) q=M q:=λq hq=>(za4 _ _ (by omega)).trans (za4 _ _ (by omega));have hm1:za6 (upd (upd M xb (some (.cells 77 zak 10))) ib (some (.cells 4 [.bool false] 1))) (ib+1):=(hm.new hxb _).new hib _;show zbk _ _ _ _ _ ⟨F,upd (upd M xb (some (.cells 77 zak 10))) ib (some (.cells 4 [.bool false] 1)),ib+1⟩;generalize upd (upd M xb (some (.cells 77 zak 10))) ib (some (.cells 4 [.bool false] 1))=M1 at *;refine zd4 (a:=sel (za3 Tryz.f137) [1,0]) (b:=sel (za3 Tryz.f137) [1,1]) (by kernel_rfl) ?_;refine zz2 (id:=1) (by kernel_rfl) (zc1 zd6) (yjh ..) ⟨_,_,_,rfl,?_⟩;refine zd3 mixed zd6 (ykx ..) ?_;refine zab (v:=.agg #[.slice va l.length vc]) (by kernel_rfl) ?_;refine zar (cs:=[.slice va l.length vc]) (λp hp=>?_);have hv1:sR F M1 1 (.slice va l.length vc) l.length (bts l):=hv.keep (za9.refl _) λq c hq h=>(hM1 q (ho q hq)).trans h;have P:zdi F (upd M1 p (some (.cells 289 [.slice va l.length vc] 1))) p (.slice va l.length vc) l:=⟨za2 _ _ _,hv1.keep (za9.refl _) (λq c hq h=>(za4 _ _ (by have := ho q hq; omega)).trans h),λh=>by have := ho p h; omega,hb8,hln⟩;have hm2:=hm1.new hp (some (.cells 289 [.slice va l.length vc] 1));have hM2:∀ q,q<p -> upd M1 p (some (.cells 289 [.slice va l.length vc] 1)) q=M1 q:=λq hq=>za4 _ _ (by omega);show zbq _ _ _ _ _ ⟨F,upd M1 p (some (.cells 289 [.slice va l.length vc] 1)),p+1⟩;generalize upd M1 p (some (.cells 289 [.slice va l.length vc] 1))=M2 at *;refine yrd P hm2 (λq hq=>by have := ho q hq; omega) h6 (λcs F3 M3 N3 r q h1 h2 h3 h4 h5 hF3 hN3 hM3 hm3 hw3=>?_) (λh0 F3 M3 N3 hF3 hN3 hM3 hm3 hw3=>?_)
 ·have hx3:=(hM3 xb (by omega) (by omega)).trans ((hM2 xb (by omega)).trans hx);have hi3:=(hM3 ib (by omega) (by omega)).trans ((hM2 ib (by omega)).trans hi);have hlen:cs.length=10:=(h3.rec.one).1;refine stM (cs':=cs) ?_ hx3 ?_ (by simpa [Value.cells] using hlen) (by simpa [Value.cells] using h3.rec.one.2) (by simp [zak])
  ·refine stM (cs':=[.bool true]) ?_ ((za4 _ _ (by omega)).trans hi3) rfl rfl (List.all_eq_true.1 rfl);refine ⟨by simp,by kernel_rfl,yj1 ?_⟩;refine zbd (vs:=cs) ?_ ((za4 _ _ (by omega)).trans (za2 _ _ _)) (by exact (show (List.drop 0 cs).take 10=cs by rw [List.drop_zero,← hlen,List.take_length])) (by exact (show 0+10≤cs.length by omega));refine ldM (v:=.bool true) ?_ (za2 _ _ _);exact λhc=>⟨_,za0 hc,λhw'=>k1 cs F3 _ N3 r q h1 h2 h3 h4 h5 hF3 (by omega) (λq hq=>(za4 _ _ (by omega)).trans ((za4 _ _ (by omega)).trans ((hM3 q (by omega) (by omega)).trans ((hM2 q (by omega)).trans (hM1 q hq))))) ((hm3.set (by omega) _).set (by omega) _) hw'⟩
  ·show zb3 zak 0 cs.toArray.toList=cs;unfold zb3;rw [List.drop_eq_nil_of_le (by simp [zak]; omega)]; simp
 ·have hx3:=(hM3 xb (by omega) (by omega)).trans ((hM2 xb (by omega)).trans hx);have hi3:=(hM3 ib (by omega) (by omega)).trans ((hM2 ib (by omega)).trans hi);refine ⟨by simp [zko],by simp,by kernel_rfl,?_⟩;refine yh5 hx3 rfl hi3 (by omega) hm3 (λM4 N4 hM4 hx4 hi4 hN4 hm4=>?_);refine zbd (vs:=zak) ?_ hx4 rfl (by exact (show 0+10≤zak.length by decide));refine ldM (v:=.bool false) ?_ hi4;exact λhc=>⟨_,za0 hc,λhw'=>k0 h0 F3 M4 N4 hF3 (by omega) (λq hq=>(hM4 q (by omega) (by omega) (by omega)).trans ((hM3 q (by omega) (by omega)).trans ((hM2 q (by omega)).trans (hM1 q hq)))) hm4 hw'⟩
def tb (l:List Int):List UInt8:=l.map λn=>UInt8.ofNat (Int.toNat n)
theorem ygy:∀ {l m:List Int},(∀ x∈l,0≤x∧x<256) -> (∀ x∈m,0≤x∧x<256) -> tb l=tb m -> l=m
 | [],[],_,_,_=>rfl
 | [],y::m,_,_,h=>by cases h
 | x::l,[],_,_,h=>by cases h
 | x::l,y::m,h1,h2,h=>by
  simp only [tb,List.map_cons,List.cons.injEq] at h;have hx:=h1 x (List.mem_cons_self ..);have hy:=h2 y (List.mem_cons_self ..);have h3:=congrArg UInt8.toNat h.1;rw [UInt8.toNat_ofNat',UInt8.toNat_ofNat',Nat.mod_eq_of_lt (by omega),Nat.mod_eq_of_lt (by omega)] at h3;rw [ygy (λz hz=>h1 z (List.mem_cons_of_mem _ hz)) (λz hz=>h2 z (List.mem_cons_of_mem _ hz)) h.2]
  congr 1; omega
theorem ysl {e:EqK} {l m:List Int} {h:Hp} (h1:zbi l) (h2:zbi m) (k:K (.bool (decide (l=m))) h):pv (za1 e .eql (.string ⟨(l.map (λn=>UInt8.ofNat (Int.toNat n))).toArray⟩) (.string ⟨(m.map (λn=>UInt8.ofNat (Int.toNat n))).toArray⟩)) K h:=by
 refine ⟨_,by simp [za1,yfh]; rfl,?_⟩
 have:(tb l == tb m)=decide (l=m):=by
  by_cases hlm:l=m
  ·subst hlm; simp
  ·rw [decide_eq_false hlm];exact beq_eq_false_iff_ne.2 λh=>hlm (ygy h1 h2 h)
 show K (.bool (tb l == tb m)) h;rw [this]; exact k
theorem yfw {u v:Value} {l m:List Int} (hu:sR F M 1 u l.length (bts l)) (hv:sR F M 1 v m.length (bts m)) (h1:zbi l) (h2:zbi m) (k:(Hp.mk F M N).wf -> K (.bool (decide (l=m))) ⟨F,M,N⟩) :
  cF 97 #[u,v] K E ⟨F,M,N⟩:=by
 refine za5 mixed Tryz.func97 (by kernel_rfl) (t97 _ E _ _) (λhw=>?_);refine ynb hu.read (ynb hv.read (ysl h1 h2 ?_));exact λhc=>⟨_,za0 hc,k⟩
theorem zdd (x:Int) (n:Nat):zbi (zam x n):=λy hy=>by
 simp only [zam,zgf,List.mem_map] at hy;obtain ⟨j,_,rfl⟩:=hy;unfold zjf; rw [IntKind.wrap_u8]; omega
theorem zfg {l m:List Int} (h1:zbi l) (h2:zbi m):zbi (l++m):=λx hx=>by
 rcases List.mem_append.1 hx with h | h
 ·exact h1 x h
 ·exact h2 x h
theorem znb {α:Type} {f:α -> List Int} {l:List α} (h:∀ a∈l,zbi (f a)):zbi (l.flatMap f):=λx hx=>by
 obtain ⟨a,ha,hx⟩:=List.mem_flatMap.1 hx;exact h a ha x hx
theorem yo9 (f:Fc):zbi (ze5 f):=zfg (zdd _ _) (zfg (znb λ_ _=>zdd _ _) (zdd _ _))
theorem ybe (l:List Fc):zbi (zce l):=zfg (zdd _ _) (znb λf _=>yo9 f)
theorem ymz (l:List En):zbi (zdn l):=zfg (zdd _ _) (znb λe _=>zfg (zdd _ _) (ybe _))
theorem ye7 (l:List Int):zbi (zcn l):=zfg (zdd _ _) (znb λ_ _=>zdd _ _)
theorem znm (r:zaj):zbi (zag r):=by
 unfold zag;refine zfg (zdd _ _) (zfg (zdd _ _) ?_)
 split
 ·exact zfg (ye7 _) (ybe _)
 ·split
  ·exact zfg (zdd _ _) (ye7 _)
  ·split
   ·exact zfg (zdd _ _) (zfg (zdd _ _) (ymz _))
   ·exact λx hx=>by cases hx
theorem ypb {l q:List Int} {r:zaj} (h:rdR l=some (r,q)):(zag r).length+q.length=l.length:=by
 cases h1:rd 1 l with
 | none=>unfold rdR at h; rw [h1] at h; cases h
 | some p=>
  cases h2:rd 4 p.2 with
  | none=>unfold rdR at h; rw [h1] at h; simp only at h; rw [h2] at h; cases h
  | some s=>
   rw [zyw (l1:=p.2) (kind:=p.1) h1 h2] at h;have a1:=zi7 h1;have a2:=zi7 h2
   have fin:∀ r':zaj,r'.kind=p.1 -> (zag r').length=5+((if p.1=1 then zcn r'.ns++zce r'.fs else if p.1=2 then zam r'.tm 4++zcn r'.ns else if p.1=7 then zam (zaz r'.lo) 4++(zam (zaz r'.hi) 4++zdn r'.es) else []:List Int)).length:=λr' e=>by
    unfold zag; rw [e]; simp only [List.length_append,zaa]; omega
   split at h
   ·rename_i g
    cases h3:rdN s.2 with
    | none=>rw [h3] at h; cases h
    | some t=>
     rw [h3] at h;simp only at h;cases h4:zgz t.2 with
     | none=>rw [h4] at h; cases h
     | some u=>
      rw [h4] at h;simp only [Option.some.injEq,Prod.mk.injEq] at h;obtain ⟨rfl,rfl⟩:=h;have a3:=zr8 h3;have a4:=ybq h4;rw [fin _ rfl,if_pos g,List.length_append]; simp only; omega
   ·rename_i g
    split at h
    ·rename_i g2
     cases h3:rd 4 s.2 with
     | none=>rw [h3] at h; cases h
     | some t=>
      rw [h3] at h;simp only at h;cases h4:rdN t.2 with
      | none=>rw [h4] at h; cases h
      | some u=>
       rw [h4] at h;simp only [Option.some.injEq,Prod.mk.injEq] at h;obtain ⟨rfl,rfl⟩:=h;have a3:=zi7 h3;have a4:=zr8 h4;rw [fin _ rfl,if_neg g,if_pos g2,List.length_append,zaa]; simp only; omega
    ·rename_i g2
     split at h
     ·rename_i g7
      cases h3:rd 4 s.2 with
      | none=>rw [h3] at h; cases h
      | some t=>
       rw [h3] at h;simp only at h;cases h4:rd 4 t.2 with
       | none=>rw [h4] at h; cases h
       | some u=>
        rw [h4] at h;simp only at h;cases h5:zil u.2 with
        | none=>rw [h5] at h; cases h
        | some w=>
         rw [h5] at h
         simp only [Option.some.injEq,Prod.mk.injEq] at h
         obtain ⟨rfl,rfl⟩:=h
         have a3:=zi7 h3
         have a4:=zi7 h4
         have a5:=ymp h5
         rw [fin _ rfl,if_neg g,if_neg g2,if_pos g7,List.length_append,List.length_append,zaa,zaa]; simp only; omega
     ·rename_i g7
      simp only [Option.some.injEq,Prod.mk.injEq] at h;obtain ⟨rfl,rfl⟩:=h;rw [fin _ rfl,if_neg g,if_neg g2,if_neg g7]; simp; omega
def zg5 (l:List Int):Option zaj:=match rdR l with
 | some (r,_)=>if zbv r=true∧zag r=l then some r else none
 | none=>none
theorem yb5 {r:zaj} (h:zbv r=true) (t:r.typ):zg5 (zag r)=some r:=by
 have := ypn h t [];rw [List.append_nil] at this;unfold zg5; rw [this]; simp only;rw [if_pos ⟨h,by trivial⟩]
theorem zef.keep {cs:List Value} {r:zaj} (h:zef F cs r):cs.length=10∧∀ c∈cs,c.oneCell'=true:=h.rec.one
theorem yib {v:Value} {l:List Int} (hv:sR F M 1 v l.length (bts l)) (ho:∀ q,v.ownBlock=some q -> q<N) (hb8:zbi l) (hln:l.length≤60000) (h6:∀ x r,rd 1 l=some (x,r) -> x≠6)
  (k1:∀ cs F' M' N' r,zg5 l=some r -> zef F' cs r -> r.lens -> r.typ -> za9 F F' -> N≤N' -> (∀ q,q<N -> M' q=M q) -> za6 M' N' -> (Hp.mk F' M' N').wf -> K (.tuple #[.agg cs.toArray,.int .u16 0]) ⟨F',M',N'⟩)
  (k0:zg5 l=none -> ∀ F' M' N',za9 F F' -> N≤N' -> (∀ q,q<N -> M' q=M q) -> za6 M' N' -> (Hp.mk F' M' N').wf -> K (.tuple #[.agg zak.toArray,.int .u16 70]) ⟨F',M',N'⟩) :
  cF 95 #[v] K E ⟨F,M,N⟩:=by
 refine za5 mixed Tryz.func95 (by kernel_rfl) (t95 _ E _) (λhw=>?_);have hm:za6 M N:=hw.m;have hlv:zac v=some (.int .i64 (l.length:Nat)):=by obtain ⟨a,c,h,_⟩:=hv.form; rw [h]; rfl
 refine zar (cs:=zak) (λxb hxb=>?_);refine zab hlv ?_;refine zqz (by omega) (zan ?_);have hv1:sR F (upd M xb (some (.cells 77 zak 10))) 1 v l.length (bts l):=hv.keep (za9.refl _) λq c hq h=>(za4 _ _ (by have := ho q hq; omega)).trans h
 have no:zg5 l=none -> ∀ F3 M3 N3,za9 F F3 -> xb<N3 -> (∀ q,q<N -> M3 q=M q) -> M3 xb=some (.cells 77 zak 10) -> za6 M3 N3 ->
   pv (bdC zak.toArray [(0,1),(1,1),(2,1),(3,1),(4,1),(5,2),(7,1),(8,1),(9,1)] #[]) (λt4=>st 10 (.pointer (some ⟨xb,0,none⟩)) t4 λ_=>ld true 10 (.pointer (some ⟨xb,0,none⟩)) λt5 h=>h.wf -> ∃ h',h.wk h'∧(h'.wf -> K (.tuple #[t5,.int .u16 70]) h')) ⟨F3,M3,N3⟩:=by
  intro h0 F3 M3 N3 hF3 hN3 hM3 hx3 hm3;refine zab (v:=.agg zak.toArray) (by kernel_rfl) ?_;refine stM (cs':=zak) ?_ hx3 rfl rfl (List.all_eq_true.1 rfl);refine zbd (vs:=zak) ?_ (za2 _ _ _) rfl (by exact (show 0+10≤zak.length by decide));exact λhc=>⟨_,za0 hc,λhw'=>k0 h0 F3 _ N3 hF3 (by omega) (λq hq=>(za4 _ _ (by omega)).trans (hM3 q hq)) (hm3.set hN3 _) hw'⟩
 refine yov hv1 (λq hq=>by have := ho q hq; omega) hb8 (by omega) h6 (λcs F3 M3 N3 r q h1 h2 h3 h4 h5 hF3 hN3 hM3 hm3 hw3=>?_) (λh0 F3 M3 N3 hF3 hN3 hM3 hm3 hw3=>?_)
 ·have hc1:=h3.keep;have hx3:=(hM3 xb (by omega)).trans (za2 _ _ _);have hM3':∀ q,q<N -> M3 q=M q:=λq hq=>(hM3 q (by omega)).trans (za4 _ _ (by omega));try simp only [sS]
  refine zar (cs:=zak) (λrb hrb=>?_);refine stM (cs':=cs) ?_ (za2 _ _ _) (by show zb3 zak 0 cs.toArray.toList=cs; unfold zb3; rw [List.drop_eq_nil_of_le (by simp [zak]; omega)]; simp) (by simpa [Value.cells] using hc1.1) (by simpa [Value.cells] using hc1.2) (by simp [zak]);rw [zas];have hrb4:=za2 M3 rb (some (.cells 77 cs 10));have hx4:upd M3 rb (some (.cells 77 cs 10)) xb=_:=(za4 _ _ (by omega)).trans hx3;have hM4:∀ q,q<N -> upd M3 rb (some (.cells 77 cs 10)) q=M q:=λq hq=>(za4 _ _ (by omega)).trans (hM3' q hq);have hm4:=hm3.new hrb (some (.cells 77 cs 10));have hel:zak.length=10:=rfl;try simp only [hel]
  generalize upd M3 rb _=M4 at *;try simp only [sS]
  refine zbd (vs:=cs) ?_ hrb4 (by exact (show (List.drop 0 cs).take 10=cs by rw [List.drop_zero,← hc1.1,List.take_length])) (by exact (show 0+10≤cs.length by omega));have hlen:=ypb h1;refine yca h3 h4 h5 h2 (by omega) (λhs N5 hN5 hw5=>?_) (λhs hbig=>by omega) (λhs _ w M5 N5 hw5 hM5 hN5 hm5 hwf5=>?_)
  ·try simp only [sS]
   refine zid (by decide) ?_;try simp only [sS]
   exact no (by unfold zg5; rw [h1]; simp only; rw [if_neg (by rw [hs]; simp)]) F3 M4 N5 hF3 (by omega) hM4 hx4 (hm4.up hN5)
  ·try simp only [sS]
   refine zcv rfl ?_;try simp only [sS]
   have hv5:sR F3 M5 1 v l.length (bts l):=hv.keep hF3 λq c hq h=>((hM5 q (by have := ho q hq; omega)).trans (hM4 q (ho q hq))).trans h;refine yfw (hw5.rd) hv5 (znm r) hb8 (λhw6=>?_);have hx5:=(hM5 xb (by omega)).trans hx4;have hM5':∀ q,q<N -> M5 q=M q:=λq hq=>(hM5 q (by omega)).trans (hM4 q hq)
   by_cases he:zag r=l
   ·rw [decide_eq_true he];try simp only [sS]
    refine zbd (vs:=cs) ?_ ((hM5 rb (by omega)).trans hrb4) (by exact (show (List.drop 0 cs).take 10=cs by rw [List.drop_zero,← hc1.1,List.take_length])) (by exact (show 0+10≤cs.length by omega));refine stM (cs':=cs) ?_ hx5 (by show zb3 zak 0 cs.toArray.toList=cs; unfold zb3; rw [List.drop_eq_nil_of_le (by simp [zak]; omega)]; simp) (by simpa [Value.cells] using hc1.1) (by simpa [Value.cells] using hc1.2) (by simp [zak]);refine zbd (vs:=cs) ?_ (za2 _ _ _) (by exact (show (List.drop 0 cs).take 10=cs by rw [List.drop_zero,← hc1.1,List.take_length])) (by exact (show 0+10≤cs.length by omega));exact λhc=>⟨_,za0 hc,λhw'=>k1 cs F3 _ N5 r (by unfold zg5; rw [h1]; simp only; rw [if_pos ⟨hs,he⟩]) h3 h4 h5 hF3 (by omega) (λq hq=>(za4 _ _ (by omega)).trans (hM5' q hq)) (hm5.set (by omega) _) hw'⟩
   ·rw [decide_eq_false he];try simp only [sS]
    exact no (by unfold zg5; rw [h1]; simp only; rw [if_neg (λh=>he h.2)]) F3 M5 N5 hF3 (by omega) hM5' hx5 hm5
 ·have hx3:=(hM3 xb (by omega)).trans (za2 _ _ _);have hM3':∀ q,q<N -> M3 q=M q:=λq hq=>(hM3 q (by omega)).trans (za4 _ _ (by omega));try simp only [sS]
  refine zar (cs:=zak) (λrb hrb=>?_);refine stM (cs':=zak) ?_ (za2 _ _ _) rfl rfl (List.all_eq_true.1 rfl);rw [zas];try simp only [sS]
  exact no (by unfold zg5; rw [h0]) F3 _ (rb+1) hF3 (by omega) (λq hq=>(za4 _ _ (by omega)).trans (hM3' q hq)) ((za4 _ _ (by omega)).trans hx3) (hm3.new hrb _)
theorem znu (l:List Int):∀ c∈bts l,c.oneCell'=true:=zt0 _
theorem yno (l m:List Int):bts (l++m)=bts l++bts m:=by simp [bts]
theorem zfn (hm:za6 M N) {v:Value} {n:Nat} {cs:List Value} (hv:sR F M 1 v n cs) (hM:∀ q,q<N -> M' q=M q):sR F M' 1 v n cs :=
 hv.keep (za9.refl _) λq c _ h=>znc hm hM q c h
theorem yaw {v:Value} {l:List Int} (hv:sR F M 1 v l.length (bts l)) (hl:l.length≤1000000000)
  (k:∀ v' M' N',own M' N 5 1 v' l.length (bts l) -> (∀ q,q<N -> M' q=M q) -> N≤N' -> za6 M' N' -> (Hp.mk F M' N').wf -> K v' ⟨F,M',N'⟩) :
  cF 84 #[v] K E ⟨F,M,N⟩:=by
 refine za5 mixed Tryz.func84 (by kernel_rfl) (t84 _ E _) (λhw=>?_);have hm:za6 M N:=hw.m;obtain ⟨a,c,rfl,hc⟩:=hv.form;cases a with
 | none=>
  have h0:l.length=0:=by rcases hv.2 with ⟨a',c',h1,h2⟩ | ⟨b,o,c',cs,h1,_⟩; exact h2; simp at h1
  have hl0:l=[]:=List.eq_nil_of_length_eq_zero h0;subst hl0;exact zab rfl (zav λhc=>⟨_,za0 hc,λhw'=>k _ M N own.nil (λ_ _=>rfl) (Nat.le_refl _) hm hw'⟩)
 | some ad=>
  refine zab rfl (zan ?_);refine zd7 (cs:=[]) (by kernel_rfl) (λb0 hb0=>?_);have ho:own (upd M b0 (some (.cells 5 [] 0))) N 5 1 (.slice (some ⟨b0,0,none⟩) 0 0) 0 []:=⟨by simp,.inr ⟨b0,0,[],rfl,Nat.le_refl _,by unfold maxLen; omega,hb0,za2 _ _ _⟩⟩;refine ho.app (hm.new hb0 _) (by omega) (hv.new hm hb0) (znu l) (by omega) (by unfold maxLen; omega) (λv' M1 N1 h1 h2 h3 h4=>?_);refine λhc=>⟨_,za0 hc,λhw'=>k v' M1 N1 (by rw [Nat.zero_add] at h1; exact h1) (λq hq=>?_) (by omega) h4 hw'⟩;exact ((h2 q (by simp [Value.ownBlock]; omega) (by omega)).1).trans (za4 _ _ (by omega))
theorem yin {v:Value} {l:List Int} (hv:sR F M 1 v l.length (bts l)) (hl:l.length≤1000000000)
  (k:∀ v' M' N',own M' N 5 1 v' l.length (bts l) -> (∀ q,q<N -> M' q=M q) -> N≤N' -> za6 M' N' -> (Hp.mk F M' N').wf -> K v' ⟨F,M',N'⟩) :
  cF 245 #[v] K E ⟨F,M,N⟩:=by
 refine za5 mixed Tryz.func245 (by kernel_rfl) (yws _ E _) (λhw=>?_);have hm:za6 M N:=hw.m;obtain ⟨a,c,rfl,hc⟩:=hv.form;cases a with
 | none=>
  have h0:l.length=0:=by rcases hv.2 with ⟨a',c',h1,h2⟩ | ⟨b,o,c',cs,h1,_⟩; exact h2; simp at h1
  have hl0:l=[]:=List.eq_nil_of_length_eq_zero h0;subst hl0;exact zab rfl (zav λhc=>⟨_,za0 hc,λhw'=>k _ M N own.nil (λ_ _=>rfl) (Nat.le_refl _) hm hw'⟩)
 | some ad=>
  refine zab rfl (zan ?_);refine zd7 (cs:=[]) (by kernel_rfl) (λb0 hb0=>?_);have ho:own (upd M b0 (some (.cells 5 [] 0))) N 5 1 (.slice (some ⟨b0,0,none⟩) 0 0) 0 []:=⟨by simp,.inr ⟨b0,0,[],rfl,Nat.le_refl _,by unfold maxLen; omega,hb0,za2 _ _ _⟩⟩;refine ho.app (hm.new hb0 _) (by omega) (hv.new hm hb0) (znu l) (by omega) (by unfold maxLen; omega) (λv' M1 N1 h1 h2 h3 h4=>?_);refine λhc=>⟨_,za0 hc,λhw'=>k v' M1 N1 (by rw [Nat.zero_add] at h1; exact h1) (λq hq=>?_) (by omega) h4 hw'⟩;exact ((h2 q (by simp [Value.ownBlock]; omega) (by omega)).1).trans (za4 _ _ (by omega))
theorem ypg {n:Nat} (hm:za6 M N) (hn:n≤1000000000000) (k:∀ v' M' N',own M' N 5 1 v' 0 [] -> (∀ q,q<N -> M' q=M q) -> N≤N' -> za6 M' N' -> (Hp.mk F M' N').wf -> K v' ⟨F,M',N'⟩) :
  cF 200 #[.slice none 0 0,.int .i64 (n:Nat)] K E ⟨F,M,N⟩:=by
 refine za5 mixed Tryz.func200 (by kernel_rfl) (yx7 _ E _ _) (λhw=>?_);refine zkd (by omega) ?_;try simp only [sS]
 rw [ym2];try simp only [sS]
 refine zkz (a:=0) (b:=0) (by omega) (by omega) ?_;refine zkz (a:=n) (b:=0) (by omega) (by omega) ?_;rw [Nat.sub_zero];refine zby (λh0=>?_) (λh0=>?_)
 ·try simp only [sS]
  refine zny 0 0 0 (Nat.le_refl _) (Nat.le_refl _) (Nat.le_refl _) ?_;refine ⟨none,0,0,[],n,.i64,rfl,rfl,⟨by simp,.inl ⟨_,_,rfl,rfl⟩⟩,Nat.le_refl _,by omega,by omega,by simp [maxLen]; omega,λb c hb0 hc hcm=>?_⟩;have hb:N≤b:=hb0;try simp only [sS]
  refine zh7 0 (Nat.zero_le _) ?_;try simp only [sS]
  rw [zuy];refine λhc'=>⟨_,za0 hc',λhw'=>k _ _ _ ⟨by simp,.inr ⟨b,c,_,rfl,Nat.zero_le _,hcm,hb,za2 _ _ _⟩⟩ (λq hq=>za4 _ _ (by omega)) (Nat.le_succ_of_le hb) (hm.new hb _) hw'⟩
 ·try simp only [sS]
  rw [zuy];exact λhc'=>⟨_,za0 hc',λhw'=>k _ _ _ own.nil (λ_ _=>rfl) (Nat.le_refl _) hm hw'⟩
def zm9 (F:Nat -> Option (List Value)) (M:Nat -> Option zah) (v:Value) (ts:List (List Int)):Prop:=∃ us,sR F M 1 v ts.length us∧zg0 (λu t=>sR F M 1 u t.length (bts t)) us ts
theorem zm9.blk (hm:za6 M N) {v:Value} {ts:List (List Int)} (h:zm9 F M v ts) (hM:∀ q,q<N -> M' q=M q):zm9 F M' v ts :=
 let ⟨us,h1,h2⟩:=h; ⟨us,zfn hm h1 hM,h2.mono λ_ _ h=>zfn hm h hM⟩
theorem yng {v:Value} {ts:List (List Int)} {K:Value -> zae} (hv:zm9 F M v ts) {i:Nat} (hi:i<ts.length) (k:∀ p u,sR F M 1 u ts[i].length (bts ts[i]) -> K p u ⟨F,M,N⟩):pv (iaV none 1 v (.int .i64 (i:Nat))) (λp=>ld false 1 p (K p)) ⟨F,M,N⟩:=by
 obtain ⟨us,h1,h2⟩:=hv;obtain ⟨u,hu,hR⟩:=h2.get (List.getElem?_eq_getElem hi)
 rcases h1.2 with ⟨a,c,e1,e2⟩ | ⟨b,o,c,cs,rfl,h3,h4,h5⟩
 ·omega
 refine zd0 hi (zg3 (zb6 (cs:=cs) ?_ ?_) (k _ u hR))
 ·rcases h4 with h4 | ⟨e,tot,h4⟩
  ·exact zif h4
  ·exact zbe h4
 ·rw [← h5,List.getElem?_take,List.getElem?_drop] at hu
  split at hu
  ·rw [Nat.mul_one]; exact hu
  ·cases hu
theorem zyp {v:Value} {ts:List (List Int)} (hv:zm9 F M v ts) (hl:ts.flatten.length≤1000000000) (htl:ts.length≤1000000000)
  (k:∀ v' M' N',own M' N 5 1 v' ts.flatten.length (bts ts.flatten) -> (∀ q,q<N -> M' q=M q) -> N≤N' -> za6 M' N' -> (Hp.mk F M' N').wf -> K v' ⟨F,M',N'⟩) :
  cF 141 #[v] K E ⟨F,M,N⟩:=by
 refine za5 mixed Tryz.func141 (by kernel_rfl) (yua _ E _) (λhw=>?_);have hm:za6 M N:=hw.m;have hlv:zac v=some (.int .i64 (ts.length:Nat)):=by obtain ⟨us,h1,_⟩:=hv; obtain ⟨a,c,rfl,_⟩:=h1.form; rfl
 have hfl:∀ i,i≤ts.length -> (ts.take i).flatten.length≤ts.flatten.length:=λi hi=>by
  have h:=congrArg List.flatten (List.take_append_drop i ts);rw [List.flatten_append] at h;have := congrArg List.length h;rw [List.length_append] at this;omega
 try simp only [hlv]
 try simp only [sS]
 refine ztb (σ:=Nat) (λi=>.int .i64 ((ts.take i).flatten.length:Nat)) (λi=>.int .i64 (i:Nat)) (λi h=>h=⟨F,M,N⟩∧i≤ts.length) (λi=>ts.length - i) 0 rfl rfl
  (λhw1=>⟨_,za0 hw1,rfl,Nat.zero_le _⟩) (λk1 i j h1 hI hw1 next=>?_)
 rw [zt4];obtain ⟨rfl,hi⟩:=hI;refine zau (λhlt=>?_) (λhge=>?_)
 ·have h1:i<ts.length:=by omega
  try simp only [sS]
  refine yng hv h1 λp u hu=>?_;obtain ⟨a,c,rfl,_⟩:=hu.form;have h2:=hfl (i+1) h1;have e:=zje ts h1;rw [e,List.length_append] at h2;try simp only [sS]
  refine zkc (by omega) (zkd (by omega) ?_);try simp only [sS]
  rw [zmt];refine zaq (by omega) ?_;rw [← List.length_append,← e];exact next (i+1) _ _ (by omega) (λhw2=>⟨_,za0 hw2,rfl,h1⟩)
 ·try simp only [sS]
  rw [List.take_of_length_le (by omega)];refine ypg hm (by omega) (λu M1 N1 ho hM1 hN1 hm1 hw1=>?_);try simp only [hlv]
  try simp only [sS]
  refine zot (σ:=Nat×Value) (λs=>s.2) (λs=>.int .i64 (s.1:Nat))
   (λs h=>∃ M' N',h=⟨F,M',N'⟩∧N≤N'∧(∀ q,q<N -> M' q=M q)∧za6 M' N'∧s.1≤ts.length∧own M' N 5 1 s.2 (ts.take s.1).flatten.length (bts (ts.take s.1).flatten)) (λs=>ts.length - s.1) (0,u) rfl rfl
   (λhw2=>⟨_,za0 hw2,M1,N1,rfl,hN1,hM1,hm1,Nat.zero_le _,ho⟩) (λk1 s j h1 hI hw2 next=>?_)
  rw [zoz];obtain ⟨M2,N2,rfl,hN2,hM2,hm2,hi,ho2⟩:=hI;refine zau (λhlt=>?_) (λhge=>?_)
  ·have h1:s.1<ts.length:=by omega
   try simp only [sS]
   refine yng (hv.blk hm hM2) h1 λp w hwt=>?_;have h2:=hfl (s.1+1) h1;have e:=zje ts h1;rw [e,List.length_append] at h2;refine ho2.app hm2 hN2 hwt (znu _) (by omega) (by unfold maxLen; omega) (λw' M3 N3 h4 h5 h6 h7=>?_);refine zaq (by omega) ?_;refine next (s.1+1,w') _ _ (by simp only; omega) (λhw4=>⟨_,za0 hw4,M3,N3,rfl,by omega,λq hq=>?_,h7,h1,?_⟩)
   ·have q1:s.2.ownBlock≠some q:=λe=>by have := (ho2.ge q e).1; omega
    exact ((h5 q q1 (by omega)).1).trans (hM2 q hq)
   ·simp only;rw [e,List.length_append,yno]; exact h4
  ·try simp only [sS]
   rw [List.take_of_length_le (by omega)] at ho2;exact λhc=>⟨_,za0 hc,λhw'=>k _ _ _ ho2 hM2 hN2 hm2 hw'⟩
theorem zv1 {v:Value} {l:List Int} (hv:sR F M 1 v l.length (bts l)) {i:Nat} (hi:i<l.length) :
  ∃ b o,(∀ (K:zae) (h:Hp),K (.pointer (some ⟨b,o,none⟩)) h -> pv (iaV none 1 v (.int .i64 (i:Nat))) K h)∧(∀ {F' M'},sR F' M' 1 v l.length (bts l) -> ∀ N',ldV ⟨F',M',N'⟩ false 1 (.pointer (some ⟨b,o,none⟩)) (.int .u8 l[i])):=by
 rcases hv.2 with ⟨a,c,e1,e2⟩ | ⟨b,o,c,cs,rfl,h3,h4,h5⟩
 ·omega
 refine ⟨b,o+i*1,λK h k=>zd0 hi k,λ{F' M'} hv' N'=>?_⟩
 rcases hv'.2 with ⟨a,c',e1,e2⟩ | ⟨b',o',c',cs',e,h3',h4',h5'⟩
 ·omega
 simp only [Value.slice.injEq,Option.some.injEq,Addr.mk.injEq] at e;obtain ⟨⟨rfl,rfl,_⟩,_,rfl⟩:=e;have hx:(bts l)[i]?=some (.int .u8 l[i]):=by simp [bts,List.getElem?_eq_getElem hi]
 have hy:cs'[o+i*1]?=some (.int .u8 l[i]):=by
  rw [← h5',List.getElem?_take,List.getElem?_drop] at hx
  split at hx
  ·rw [Nat.mul_one]; exact hx
  ·cases hx
 rcases h4' with h4' | ⟨e,tot,h4'⟩
 ·exact zb6 (zif h4') hy
 ·exact zb6 (zbe h4') hy
theorem ypq (l:List Int) (i n:Nat):((bts l).drop i).take n=bts ((l.drop i).take n):=by simp [bts]
theorem ybd {a:Option Addr} {c:Nat} {l:List Int} (hv:sR F M 1 (.slice a l.length c) l.length (bts l)) {i j m:Nat} (h1:i≤j) (h2:j≤m) (h3:j≤l.length) (h4:m≤c) :
  sR F M 1 (.slice (if m=i then a else a.map (·.add (i*1))) (j - i) (m - i)) ((l.drop i).take (j - i)).length (bts ((l.drop i).take (j - i))):=by
 have hle:((l.drop i).take (j - i)).length=j - i:=by simp; omega
 refine ⟨by simp [bts],?_⟩;rw [hle]
 rcases hv.2 with ⟨a',c',e1,e2⟩ | ⟨b,o,c',cs,e,h5,h6,h7⟩
 ·rw [show j - i=0 by omega]; exact .inl ⟨_,_,rfl,rfl⟩
 ·simp only [Value.slice.injEq] at e;obtain ⟨rfl,_,rfl⟩:=e
  by_cases hmi:m=i
  ·rw [show j - i=0 by omega]; exact .inl ⟨_,_,rfl,rfl⟩
  ·rw [if_neg hmi];refine .inr ⟨b,o+i*1,m - i,cs,by simp [Addr.add_plain],by omega,h6,?_⟩;have := ypq l i (j - i);rw [← this,← h7];simp only [Nat.mul_one,List.drop_take,List.drop_drop,List.take_take];rw [Nat.min_eq_left (by omega)]
theorem zxj {a:Option Addr} {i n m len c q:Nat} (h:(Value.slice (if m=i then a else a.map (·.add (i*1))) n (m - i)).ownBlock=some q):(Value.slice a len c).ownBlock=some q:=by
 revert h
 cases a with
 | none=>split<;>simp [Value.ownBlock]
 | some ad=>
  split
  ·simp [Value.ownBlock]
  ·simp only [Option.map_some,Value.ownBlock,Addr.add]; intro h; rw [← h]; split<;>rfl
theorem yc5 {v:Value} {l:List Int} {K:zae} (hv:sR F M 1 v l.length (bts l)) {i:Nat} (hi:i≤l.length)
  (k:∀ u,sR F M 1 u (l.drop i).length (bts (l.drop i)) -> (∀ q,u.ownBlock=some q -> v.ownBlock=some q) -> K u ⟨F,M,N⟩):pv (slV 1 v (some (.int .i64 (i:Nat))) none none) K ⟨F,M,N⟩:=by
 obtain ⟨a,c,rfl,hc⟩:=hv.form;refine zny i l.length c hi hc (Nat.le_refl _) (k _ ?_ (λq=>zxj)) (h4:=λ_=>⟨rfl,hc⟩);have := ybd hv hi hc (Nat.le_refl _) (Nat.le_refl _)
 rwa [List.take_of_length_le (by simp)] at this
theorem yh0 {v:Value} {l:List Int} {K:zae} (hv:sR F M 1 v l.length (bts l)) {i j:Nat} (h1:i≤j) (h2:j≤l.length)
  (k:∀ u,sR F M 1 u ((l.drop i).take (j - i)).length (bts ((l.drop i).take (j - i))) -> (∀ q,u.ownBlock=some q -> v.ownBlock=some q) -> K u ⟨F,M,N⟩):pv (slV 1 v (some (.int .i64 (i:Nat))) (some (.int .i64 (j:Nat))) none) K ⟨F,M,N⟩:=by
 obtain ⟨a,c,rfl,hc⟩:=hv.form;exact zny i j c h1 (by omega) (Nat.le_refl _) (k _ (ybd hv h1 (by omega) h2 (Nat.le_refl _)) (λq=>zxj))
theorem ys8 {v:Value} {l:List Int} {K:zae} (hv:sR F M 1 v l.length (bts l)) {j:Nat} (h2:j≤l.length)
  (k:∀ u,sR F M 1 u (l.take j).length (bts (l.take j)) -> (∀ q,u.ownBlock=some q -> v.ownBlock=some q) -> K u ⟨F,M,N⟩):pv (slV 1 v none (some (.int .i64 (j:Nat))) (some (.int .i64 (j:Nat)))) K ⟨F,M,N⟩:=by
 obtain ⟨a,c,rfl,hc⟩:=hv.form;refine zny 0 j j (Nat.zero_le _) (Nat.le_refl _) (by omega) (k _ ?_ (λq=>zxj));exact ybd hv (Nat.zero_le _) (Nat.le_refl _) h2 (by omega)
def zcf (k:Int):Int:=if k=1 then 1 else if k=4 then 2 else if k=8∨k=9∨k=10 then 7 else if k=2∨k=3∨k=5∨k=6∨k=7∨k=11 then 4 else 0
def zb7 (m:zaj):zaj:=⟨zcf m.kind,m.id,m.tm,m.ns,m.fs,m.lo,m.hi,m.es⟩
theorem zj0 (k:Int):zcf k≠6:=by unfold zcf; split; omega; split; omega; split; omega; split<;>omega
def zfq (F:Nat -> Option (List Value)) (cs:List Value) (m:zaj):Prop :=
 ∃ na nc fv ev,cs=[.int .u8 m.kind,.int .u32 m.id,.int .u32 m.tm,.slice na m.ns.length nc,fv,.int .i64 m.lo,.int .i64 m.hi,ev]∧sF F 1 (.slice na m.ns.length nc) m.ns.length (ic m.ns)∧zbp F fv m.fs∧zcb F ev m.es
theorem zfq.mono {cs:List Value} {m:zaj} (h:zfq F cs m) (hF:za9 F F'):zfq F' cs m:=let ⟨na,nc,fv,ev,h1,h2,h3,h4⟩:=h; ⟨na,nc,fv,ev,h1,h2.mono hF,h3.mono hF,h4.mono hF⟩
theorem zfq.one {cs:List Value} {m:zaj} (h:zfq F cs m):cs.length=8∧∀ c∈cs,c.oneCell'=true:=by
 obtain ⟨na,nc,fv,ev,rfl,h1,h2,h3⟩:=h;obtain ⟨a2,c2,rfl⟩:=h2.form;obtain ⟨a3,c3,rfl⟩:=h3.form;exact ⟨rfl,List.all_eq_true.1 rfl⟩
theorem yp4 {x:Int} (k:(Hp.mk F M N).wf -> K (.int .u8 (zcf x)) ⟨F,M,N⟩) :
  cF 199 #[.int .u8 x] K E ⟨F,M,N⟩:=by
 refine za5 mixed Tryz.func199 (by kernel_rfl) (yuc _ E _) (λhw=>?_)
 have fin:∀ y,zcf x=y -> ∀ h',h'=(⟨F,M,N⟩:Hp) -> h'.wf -> ∃ h'',h'.wk h''∧(h''.wf -> K (.int .u8 y) h''):=λy e h' e' hc=>by
  subst e; subst e';exact ⟨_,za0 hc,k⟩
 refine zat (λh1=>zav ?_) (λh1=>zan ?_)
 ·exact fin 1 (by unfold zcf; rw [if_pos h1]) _ rfl
 refine zat (λh4=>zav ?_) (λh4=>zan ?_)
 ·exact fin 2 (by unfold zcf; rw [if_neg h1,if_pos h4]) _ rfl
 have t7:(x=8∨x=9∨x=10) -> zcf x=7:=λh=>by unfold zcf; rw [if_neg h1,if_neg h4,if_pos h]
 refine zat (λh8=>zav ?_) (λh8=>zan ?_)
 ·rw [zed];exact zav (fin 7 (t7 (.inl h8)) _ rfl)
 refine zat (λh9=>zav ?_) (λh9=>zan ?_)
 ·rw [zed];exact zav (fin 7 (t7 (.inr (.inl h9))) _ rfl)
 refine zat (λh10=>?_) (λh10=>?_)
 ·rw [zed];exact zav (fin 7 (t7 (.inr (.inr h10))) _ rfl)
 rw [zed];refine zan ?_;have t4:(x=2∨x=3∨x=5∨x=6∨x=7∨x=11) -> zcf x=4:=λh=>by unfold zcf; rw [if_neg h1,if_neg h4,if_neg (by omega),if_pos h]
 refine zat (λh2=>zav ?_) (λh2=>zan ?_)
 ·rw [zbx];exact zav (fin 4 (t4 (by omega)) _ rfl)
 refine zat (λh3=>zav ?_) (λh3=>zan ?_)
 ·rw [zbx];exact zav (fin 4 (t4 (by omega)) _ rfl)
 refine zat (λh5=>zav ?_) (λh5=>zan ?_)
 ·rw [zbx];exact zav (fin 4 (t4 (by omega)) _ rfl)
 refine zat (λh6=>zav ?_) (λh6=>zan ?_)
 ·rw [zbx];exact zav (fin 4 (t4 (by omega)) _ rfl)
 refine zat (λh7=>zav ?_) (λh7=>zan ?_)
 ·rw [zbx];exact zav (fin 4 (t4 (by omega)) _ rfl)
 refine zat (λh11=>?_) (λh11=>?_)
 ·rw [zbx];exact zav (fin 4 (t4 (by omega)) _ rfl)
 rw [zbx];exact zan (fin 0 (by unfold zcf; rw [if_neg h1,if_neg h4,if_neg (by omega),if_neg (by omega)]) _ rfl)
theorem zqc {cs:List Value} {m:zaj} (hr:zfq F cs m) (k:∀ cs' N',zef F cs' (zb7 m) -> N≤N' -> (Hp.mk F M N').wf -> K (.agg cs'.toArray) ⟨F,M,N'⟩) :
  cF 140 #[.agg cs.toArray] K E ⟨F,M,N⟩:=by
 refine za5 mixed Tryz.func140 (by kernel_rfl) (ywv _ E _) (λhw=>?_);have hm:za6 M N:=hw.m;obtain ⟨na,nc,fv,ev,rfl,hn,hf,he⟩:=hr;obtain ⟨fa,fc,rfl⟩:=hf.form;obtain ⟨ea,ec,rfl⟩:=he.form;refine zar (cs:=[.int .u8 m.kind,.int .u32 m.id,.int .u32 m.tm,.slice na m.ns.length nc,.slice fa m.fs.length fc,.int .i64 m.lo,.int .i64 m.hi,.slice ea m.es.length ec]) (λb1 hb1=>?_);refine zar (cs:=zak) (λb2 hb2=>?_);have hb1':=(za4 (upd M b1 (some (.cells 49 [.int .u8 m.kind,.int .u32 m.id,.int .u32 m.tm,.slice na m.ns.length nc,.slice fa m.fs.length fc,.int .i64 m.lo,.int .i64 m.hi,.slice ea m.es.length ec] 8))) (b:=b2) (v:=some (.cells 77 zak 10)) (by omega:b1≠b2)).trans (za2 _ _ _);try simp only [sS]
 refine ldM (v:=.int .u8 m.kind) ?_ hb1';try simp only [sS]
 refine ldM (v:=.int .u32 m.id) ?_ hb1';try simp only [sS]
 refine ldM (v:=.int .u32 m.tm) ?_ hb1';try simp only [sS]
 refine ldM (v:=.slice na m.ns.length nc) ?_ hb1';try simp only [sS]
 refine ldM (v:=.slice fa m.fs.length fc) ?_ hb1';try simp only [sS]
 refine ldM (v:=.int .i64 m.lo) ?_ hb1';try simp only [sS]
 refine ldM (v:=.int .i64 m.hi) ?_ hb1';try simp only [sS]
 refine ldM (v:=.slice ea m.es.length ec) ?_ hb1';refine yp4 (λhw1=>?_);refine ⟨zb6 (zbe hb1') rfl,zb6 (zbe hb1') rfl,zb6 (zbe hb1') rfl,zb6 (zbe hb1') rfl,zb6 (zbe hb1') rfl,zb6 (zbe hb1') rfl,zb6 (zbe hb1') rfl,?_⟩;refine zab (v:=.agg #[.int .u8 (zcf m.kind),.int .u32 m.id,.int .u32 m.tm,.slice na m.ns.length nc,.slice fa m.fs.length fc,.int .u32 0,.slice none 0 0,.int .i64 m.lo,.int .i64 m.hi,.slice ea m.es.length ec]) (by kernel_rfl) ?_;refine stM (cs':=[.int .u8 (zcf m.kind),.int .u32 m.id,.int .u32 m.tm,.slice na m.ns.length nc,.slice fa m.fs.length fc,.int .u32 0,.slice none 0 0,.int .i64 m.lo,.int .i64 m.hi,.slice ea m.es.length ec]) ?_ (za2 _ _ _) rfl rfl (List.all_eq_true.1 rfl);refine zbd (vs:=[.int .u8 (zcf m.kind),.int .u32 m.id,.int .u32 m.tm,.slice na m.ns.length nc,.slice fa m.fs.length fc,.int .u32 0,.slice none 0 0,.int .i64 m.lo,.int .i64 m.hi,.slice ea m.es.length ec]) ?_ (za2 _ _ _);refine λhc=>⟨⟨F,M,b2+1⟩,zbm hc ?_,λhw'=>k _ _ ⟨na,nc,_,none,0,_,rfl,hn,hf,he⟩ (by omega) hw'⟩;rw [zas];exact zb4 (zb4 (zbc _) (hm _ hb1)) (hm _ (by omega))
def zbz (m:zaj):Bool:=!decide (m.kind=4∧m.ns≠[])&&(!decide (m.kind=8∧m.es≠[])&&(!decide (m.kind=9∧(m.lo≠0∨m.hi≠0))&&zbv (zb7 m)))
theorem zhj {m:zaj} (h:m.lens):(zb7 m).lens:=⟨h.nl,h.fl,h.el,h.et⟩
theorem zsq {m:zaj} (h:m.typ):(zb7 m).typ:=⟨h.i0,h.t0,h.fv,h.ev⟩
theorem zfu {α:Type} {l:List α}:l≠[]↔0<l.length:=by cases l<;>simp
theorem yl3 {cs:List Value} {m:zaj} (hr:zfq F cs m) (hL:m.lens) (k:∀ N',N≤N' -> (Hp.mk F M N').wf -> K (.bool (zbz m)) ⟨F,M,N'⟩) :
  cF 139 #[.agg cs.toArray] K E ⟨F,M,N⟩:=by
 refine za5 mixed Tryz.func139 (by kernel_rfl) (yvb _ E _) (λhw=>?_);have hm:za6 M N:=hw.m;have hr0:=hr;obtain ⟨na,nc,fv,ev,rfl,hn,hf,he⟩:=hr;obtain ⟨fa,fc,rfl⟩:=hf.form;obtain ⟨ea,ec,rfl⟩:=he.form;refine zar (cs:=[.int .u8 m.kind,.int .u32 m.id,.int .u32 m.tm,.slice na m.ns.length nc,.slice fa m.fs.length fc,.int .i64 m.lo,.int .i64 m.hi,.slice ea m.es.length ec]) (λb hb=>?_);have hx:=za2 M b (some (.cells 49 [.int .u8 m.kind,.int .u32 m.id,.int .u32 m.tm,.slice na m.ns.length nc,.slice fa m.fs.length fc,.int .i64 m.lo,.int .i64 m.hi,.slice ea m.es.length ec] 8));have hd:zf1 M (upd M b (some (.cells 49 [.int .u8 m.kind,.int .u32 m.id,.int .u32 m.tm,.slice na m.ns.length nc,.slice fa m.fs.length fc,.int .i64 m.lo,.int .i64 m.hi,.slice ea m.es.length ec] 8))):=zb4 (zbc _) (hm _ hb);have hm1:=hm.new hb (some (.cells 49 [.int .u8 m.kind,.int .u32 m.id,.int .u32 m.tm,.slice na m.ns.length nc,.slice fa m.fs.length fc,.int .i64 m.lo,.int .i64 m.hi,.slice ea m.es.length ec] 8));have hlen:([.int .u8 m.kind,.int .u32 m.id,.int .u32 m.tm,.slice na m.ns.length nc,.slice fa m.fs.length fc,.int .i64 m.lo,.int .i64 m.hi,.slice ea m.es.length ec]:List Value).length=8:=rfl;try simp only [hlen]
 generalize upd M b _=M1 at *
 have fin:∀ y,zbz m=y -> ∀ N',b+1≤N' -> ∀ h',h'=(⟨F,M1,N'⟩:Hp) -> h'.wf -> ∃ h'',h'.wk h''∧(h''.wf -> K (.bool y) h''):=λy e N' hN' h' e' hc=>by
  subst e; subst e';exact ⟨⟨F,M,N'⟩,zbm hc hd,λhw'=>k _ (by omega) hw'⟩
 try simp only [sS]
 refine ldM (v:=.int .u8 m.kind) ?_ hx;refine zat (λh4=>?_) (λh4=>?_)
 ·try simp only [sS]
  refine ldM (v:=.slice na m.ns.length nc) ?_ hx;try simp only [sS]
  refine zby (λhg=>?_) (λhg=>?_)
  ·try simp only [sS]
   rw [zhg];exact zav (fin _ (by unfold zbz; rw [decide_eq_true ⟨h4,zfu.2 (by omega)⟩]; rfl) _ (Nat.le_refl _) _ rfl)
  ·try simp only [sS]
   refine ldM (v:=.int .u8 m.kind) ?_ hx;refine zbo (by omega) ?_;try simp only [sS]
   rw [zhg];refine zan ?_;try simp only [sS]
   refine ldM (v:=.int .u8 m.kind) ?_ hx;refine zbo (by omega) ?_;try simp only [sS]
   refine zbd (vs:=[.int .u8 m.kind,.int .u32 m.id,.int .u32 m.tm,.slice na m.ns.length nc,.slice fa m.fs.length fc,.int .i64 m.lo,.int .i64 m.hi,.slice ea m.es.length ec]) ?_ hx;refine zqc hr0 (λcs' N2 hr2 hN2 hw2=>?_);refine zlk hr2 (zhj hL) (zj0 _) (λN3 hN3 hw3=>?_);exact fin _ (by unfold zbz; rw [decide_eq_false (λe=>hg (by have := zfu.1 e.2; omega)),decide_eq_false (by omega),decide_eq_false (by omega)]; simp) _ (by omega) _ rfl
 ·try simp only [sS]
  refine ldM (v:=.int .u8 m.kind) ?_ hx;refine zat (λh8=>?_) (λh8=>?_)
  ·try simp only [sS]
   refine ldM (v:=.slice ea m.es.length ec) ?_ hx;try simp only [sS]
   refine zby (λhg=>?_) (λhg=>?_)
   ·try simp only [sS]
    rw [zhg];exact zav (fin _ (by unfold zbz; rw [decide_eq_true (show m.kind=8∧m.es≠[] from ⟨h8,zfu.2 (by omega)⟩)]; simp) _ (Nat.le_refl _) _ rfl)
   ·try simp only [sS]
    rw [zhg];refine zan ?_;try simp only [sS]
    refine ldM (v:=.int .u8 m.kind) ?_ hx;refine zbo (by omega) ?_;try simp only [sS]
    refine zbd (vs:=[.int .u8 m.kind,.int .u32 m.id,.int .u32 m.tm,.slice na m.ns.length nc,.slice fa m.fs.length fc,.int .i64 m.lo,.int .i64 m.hi,.slice ea m.es.length ec]) ?_ hx;refine zqc hr0 (λcs' N2 hr2 hN2 hw2=>?_);refine zlk hr2 (zhj hL) (zj0 _) (λN3 hN3 hw3=>?_);exact fin _ (by unfold zbz; rw [decide_eq_false (by omega),decide_eq_false (λe=>hg (by have := zfu.1 e.2; omega)),decide_eq_false (by omega)]; simp) _ (by omega) _ rfl
  ·try simp only [sS]
   rw [zhg];refine zan ?_;try simp only [sS]
   refine ldM (v:=.int .u8 m.kind) ?_ hx;refine zat (λh9=>?_) (λh9=>?_)
   ·try simp only [sS]
    refine ldM (v:=.int .i64 m.lo) ?_ hx;refine zht (λhlo=>?_) (λhlo=>?_)
    ·try simp only [sS]
     exact fin _ (by unfold zbz; rw [decide_eq_true (show m.kind=9∧(m.lo≠0∨m.hi≠0) from ⟨h9,.inl hlo⟩)]; simp) _ (Nat.le_refl _) _ rfl
    ·try simp only [sS]
     refine ldM (v:=.int .i64 m.hi) ?_ hx;refine zht (λhhi=>?_) (λhhi=>?_)
     ·try simp only [sS]
      exact fin _ (by unfold zbz; rw [decide_eq_true (show m.kind=9∧(m.lo≠0∨m.hi≠0) from ⟨h9,.inr hhi⟩)]; simp) _ (Nat.le_refl _) _ rfl
     ·try simp only [sS]
      refine zbd (vs:=[.int .u8 m.kind,.int .u32 m.id,.int .u32 m.tm,.slice na m.ns.length nc,.slice fa m.fs.length fc,.int .i64 m.lo,.int .i64 m.hi,.slice ea m.es.length ec]) ?_ hx;refine zqc hr0 (λcs' N2 hr2 hN2 hw2=>?_);refine zlk hr2 (zhj hL) (zj0 _) (λN3 hN3 hw3=>?_);exact fin _ (by simp at hlo hhi; unfold zbz; rw [decide_eq_false (by omega),decide_eq_false (by omega),decide_eq_false (show ¬ (m.kind=9∧(m.lo≠0∨m.hi≠0)) by simp [hlo,hhi])]; simp) _ (by omega) _ rfl
   ·try simp only [sS]
    refine zbd (vs:=[.int .u8 m.kind,.int .u32 m.id,.int .u32 m.tm,.slice na m.ns.length nc,.slice fa m.fs.length fc,.int .i64 m.lo,.int .i64 m.hi,.slice ea m.es.length ec]) ?_ hx;refine zqc hr0 (λcs' N2 hr2 hN2 hw2=>?_);refine zlk hr2 (zhj hL) (zj0 _) (λN3 hN3 hw3=>?_);exact fin _ (by unfold zbz; rw [decide_eq_false (by simp [h4]),decide_eq_false (by simp [h8]),decide_eq_false (by simp [h9])]; simp) _ (by omega) _ rfl
def zbw (m:zaj):List Int:=m.kind::zag (zb7 m)
theorem yip {cs:List Value} {m:zaj} (hr:zfq F cs m) (hL:m.lens) (ht:m.typ) (hE:(zag (zb7 m)).length≤2097152)
  (k0:zbz m=false -> ∀ N',N≤N' -> (Hp.mk F M N').wf -> K (.tuple #[.slice none 0 0,.int .u16 1]) ⟨F,M,N'⟩)
  (k1:zbz m=true -> (zag (zb7 m)).length>60000 -> ∀ N',N≤N' -> (Hp.mk F M N').wf -> K (.tuple #[.slice none 0 0,.int .u16 3]) ⟨F,M,N'⟩)
  (k2:zbz m=true -> (zag (zb7 m)).length≤60000 -> ∀ v M' N',own M' N 5 1 v (zbw m).length (bts (zbw m)) -> (∀ q,q<N -> M' q=M q) -> N≤N' -> za6 M' N' -> (Hp.mk F M' N').wf -> K (.tuple #[v,.int .u16 0]) ⟨F,M',N'⟩) :
  cF 96 #[.agg cs.toArray] K E ⟨F,M,N⟩:=by
 refine za5 mixed Tryz.func96 (by kernel_rfl) (t96 _ E _) (λhw=>?_);have hm:za6 M N:=hw.m;have hr0:=hr;obtain ⟨na,nc,fv,ev,rfl,hn,hf,he⟩:=hr;obtain ⟨fa,fc,rfl⟩:=hf.form;obtain ⟨ea,ec,rfl⟩:=he.form;refine zar (cs:=[.int .u8 m.kind,.int .u32 m.id,.int .u32 m.tm,.slice na m.ns.length nc,.slice fa m.fs.length fc,.int .i64 m.lo,.int .i64 m.hi,.slice ea m.es.length ec]) (λb hb=>?_);have hx:=za2 M b (some (.cells 49 [.int .u8 m.kind,.int .u32 m.id,.int .u32 m.tm,.slice na m.ns.length nc,.slice fa m.fs.length fc,.int .i64 m.lo,.int .i64 m.hi,.slice ea m.es.length ec] 8));have hd:zf1 M (upd M b (some (.cells 49 [.int .u8 m.kind,.int .u32 m.id,.int .u32 m.tm,.slice na m.ns.length nc,.slice fa m.fs.length fc,.int .i64 m.lo,.int .i64 m.hi,.slice ea m.es.length ec] 8))):=zb4 (zbc _) (hm _ hb);have hm1:=hm.new hb (some (.cells 49 [.int .u8 m.kind,.int .u32 m.id,.int .u32 m.tm,.slice na m.ns.length nc,.slice fa m.fs.length fc,.int .i64 m.lo,.int .i64 m.hi,.slice ea m.es.length ec] 8));have hM1:∀ q,q<N -> upd M b (some (.cells 49 [.int .u8 m.kind,.int .u32 m.id,.int .u32 m.tm,.slice na m.ns.length nc,.slice fa m.fs.length fc,.int .i64 m.lo,.int .i64 m.hi,.slice ea m.es.length ec] 8)) q=M q:=λq hq=>za4 _ _ (by omega);have hlen:([.int .u8 m.kind,.int .u32 m.id,.int .u32 m.tm,.slice na m.ns.length nc,.slice fa m.fs.length fc,.int .i64 m.lo,.int .i64 m.hi,.slice ea m.es.length ec]:List Value).length=8:=rfl;try simp only [hlen]
 generalize upd M b _=M1 at *;refine zbd (vs:=[.int .u8 m.kind,.int .u32 m.id,.int .u32 m.tm,.slice na m.ns.length nc,.slice fa m.fs.length fc,.int .i64 m.lo,.int .i64 m.hi,.slice ea m.es.length ec]) ?_ hx;refine yl3 hr0 hL (λN1 hN1 hw1=>?_);cases hs:zbz m
 ·try simp only [sS]
  exact λhc=>⟨⟨F,M,N1⟩,zbm hc hd,λhw'=>k0 hs _ (by omega) hw'⟩
 try simp only [sS]
 refine zbd (vs:=[.int .u8 m.kind,.int .u32 m.id,.int .u32 m.tm,.slice na m.ns.length nc,.slice fa m.fs.length fc,.int .i64 m.lo,.int .i64 m.hi,.slice ea m.es.length ec]) ?_ hx;refine zqc hr0 (λcs2 N2 hr2 hN2 hw2=>?_);refine yca hr2 (zhj hL) (zsq ht) (zj0 _) hE (λh0=>?_) (λh0 hbig N3 hN3 hw3=>?_) (λh0 hle v M3 N3 hv hM3 hN3 hm3 hw3=>?_)
 ·rw [zbz,h0] at hs; simp at hs
 ·try simp only [sS]
  refine zid (by decide) ?_;try simp only [sS]
  exact λhc=>⟨⟨F,M,N3⟩,zbm hc hd,λhw'=>k1 hs hbig _ (by omega) hw'⟩
 try simp only [sS]
 refine zcv rfl ?_;try simp only [sS]
 have hx3:=(hM3 b (by omega)).trans hx;refine ldM (v:=.int .u8 m.kind) ?_ hx3;refine zd7 (cs:=bts [m.kind]) (by kernel_rfl) (λb2 hb2=>?_);have hv4:sR F (upd M3 b2 (some (.cells 5 (bts [m.kind]) 1))) 1 v (zag (zb7 m)).length (bts (zag (zb7 m))):=(hv.rd).new hm3 hb2;have hk4:sR F (upd M3 b2 (some (.cells 5 (bts [m.kind]) 1))) 1 (.slice (some ⟨b2,0,none⟩) 1 1) 1 (bts [m.kind]):=⟨rfl,.inr ⟨b2,0,1,bts [m.kind],rfl,Nat.le_refl _,.inr ⟨_,_,za2 _ _ _⟩,rfl⟩⟩;have hm4:=hm3.new hb2 (some (.cells 5 (bts [m.kind]) 1));have hM4:∀ q,q<N -> upd M3 b2 (some (.cells 5 (bts [m.kind]) 1)) q=M q:=λq hq=>(za4 _ _ (by omega)).trans ((hM3 q (by omega)).trans (hM1 q hq));have hl1:(bts [m.kind]).length=1:=rfl;try simp only [hl1]
 generalize upd M3 b2 _=M4 at *;obtain ⟨va,vc,rfl,_⟩:=hv.form;refine zd7 (cs:=[.slice (some ⟨b2,0,none⟩) 1 1,.slice va (zag (zb7 m)).length vc]) (by kernel_rfl) (λb3 hb3=>?_)
 have hts:zm9 F (upd M4 b3 (some (.cells 44 [.slice (some ⟨b2,0,none⟩) 1 1,.slice va (zag (zb7 m)).length vc] 2))) (.slice (some ⟨b3,0,none⟩) 2 2) [[m.kind],zag (zb7 m)]:=by
  refine ⟨[.slice (some ⟨b2,0,none⟩) 1 1,.slice va (zag (zb7 m)).length vc],⟨rfl,.inr ⟨b3,0,2,_,rfl,Nat.le_refl _,.inr ⟨_,_,za2 _ _ _⟩,rfl⟩⟩,?_⟩;exact ((zg0.nil (λ(u:Value) (t:List Int)=>sR F (upd M4 b3 (some (.cells 44 [.slice (some ⟨b2,0,none⟩) 1 1,.slice va (zag (zb7 m)).length vc] 2))) 1 u t.length (bts t))).snoc (y:=[m.kind]) (hk4.new hm4 hb3)).snoc (y:=zag (zb7 m)) (hv4.new hm4 hb3)
 have hm5:=hm4.new hb3 (some (.cells 44 [.slice (some ⟨b2,0,none⟩) 1 1,.slice va (zag (zb7 m)).length vc] 2));have hfl:[[m.kind],zag (zb7 m)].flatten=zbw m:=by simp [zbw]
 refine zyp hts (by rw [hfl]; simp [zbw]; omega) (by simp) (λw M6 N6 hw6 hM6 hN6 hm6 hwf6=>?_);rw [hfl] at hw6;try simp only [sS]
 exact λhc=>⟨_,za0 hc,λhw'=>k2 hs hle w M6 N6 (hw6.keep (λ_ _=>rfl) (by omega)) (λq hq=>(hM6 q (by omega)).trans ((za4 _ _ (by omega)).trans (hM4 q hq))) (by omega) hm6 hw'⟩
theorem zfh (r:zaj):(zag r).length=5+(if r.kind=1 then (zcn r.ns).length+(zce r.fs).length else if r.kind=2 then 4+(zcn r.ns).length else if r.kind=7 then 8+(zdn r.es).length else 0):=by
 unfold zag;rw [List.length_append,List.length_append,zaa,zaa]
 split
 ·rw [List.length_append]; omega
 ·split
  ·rw [List.length_append,zaa]; omega
  ·split
   ·rw [List.length_append,List.length_append,zaa,zaa]; omega
   ·rfl
theorem yp3 {r:zaj} (h:zbv r=true) (x:Int):(zag ⟨x,r.id,r.tm,r.ns,r.fs,r.lo,r.hi,r.es⟩).length≤(zag r).length+40:=by
 rw [zfh,zfh];simp only;have n0:(zcn []).length=1:=rfl;have f0:(zce []).length=4:=rfl;have e0:(zdn []).length=4:=rfl;unfold zbv at h
 split at h
 ·rename_i g
  simp only [Bool.and_eq_true,decide_eq_true_eq] at h;rw [if_pos g,h.1.1.2.2.2,e0]; (repeat' split)<;>omega
 ·rename_i g1
  split at h
  ·rename_i g2
   simp only [Bool.and_eq_true,decide_eq_true_eq] at h;rw [if_neg g1,if_pos g2,h.1.2.2.1,h.1.2.2.2,e0,f0]; (repeat' split)<;>omega
  ·rename_i g2
   split at h
   ·rename_i g3
    simp only [decide_eq_true_eq] at h;rw [h.2.2.2.1,h.2.2.2.2.1,h.2.2.2.2.2,e0,f0,n0]; (repeat' split)<;>omega
   ·split at h
    ·rename_i g7
     simp only [Bool.and_eq_true,decide_eq_true_eq] at h;rw [if_neg g1,if_neg g2,if_pos g7,h.1.2.1,h.1.2.2.1,f0,n0]; (repeat' split)<;>omega
    ·cases h
def zg6 (x:Int) (r:zaj):zaj:=⟨x,r.id,r.tm,r.ns,r.fs,r.lo,r.hi,r.es⟩
def zn2 (l:List Int):Option zaj:=match l with
 | []=>none
 | x::q=>match zg5 q with
  | none=>none
  | some r=>if zbz (zg6 x r)=true∧(zag (zb7 (zg6 x r))).length≤60000∧zbw (zg6 x r)=x::q then some (zg6 x r) else none
def zcx:List Value:=[.int .u8 0,.int .u32 0,.int .u32 0,.slice none 0 0,.slice none 0 0,.int .i64 0,.int .i64 0,.slice none 0 0]
theorem yh3 {q:List Int} {r:zaj} (h:zg5 q=some r):zbv r=true∧zag r=q:=by
 unfold zg5 at h
 split at h
 ·split at h
  ·rename_i g
   simp only [Option.some.injEq] at h; subst h; exact g
  ·cases h
 ·cases h
theorem yrg {v:Value} {l:List Int} (hv:sR F M 1 v l.length (bts l)) (ho:∀ q,v.ownBlock=some q -> q<N) (hb8:zbi l) (hln:l.length≤60001) (h6:∀ x r,rd 1 (l.drop 1)=some (x,r) -> x≠6)
  (k1:∀ cs F' M' N' m,zn2 l=some m -> zfq F' cs m -> m.lens -> m.typ -> za9 F F' -> N≤N' -> (∀ q,q<N -> M' q=M q) -> za6 M' N' -> (Hp.mk F' M' N').wf -> K (.tuple #[.agg cs.toArray,.int .u16 0]) ⟨F',M',N'⟩)
  (k0:zn2 l=none -> ∀ F' M' N',za9 F F' -> N≤N' -> (∀ q,q<N -> M' q=M q) -> za6 M' N' -> (Hp.mk F' M' N').wf -> K (.tuple #[.agg zcx.toArray,.int .u16 160]) ⟨F',M',N'⟩) :
  cF 42 #[v] K E ⟨F,M,N⟩:=by
 refine za5 mixed Tryz.func42 (by kernel_rfl) (t42 _ E _) (λhw=>?_);have hm:za6 M N:=hw.m;have hlv:zac v=some (.int .i64 (l.length:Nat)):=by obtain ⟨a,c,h,_⟩:=hv.form; rw [h]; rfl
 refine zar (cs:=zcx) (λxb hxb=>?_);have hx1:=za2 M xb (some (.cells 49 zcx 8));have hm1:=hm.new hxb (some (.cells 49 zcx 8));have hM1:∀ q,q<N -> upd M xb (some (.cells 49 zcx 8)) q=M q:=λq hq=>za4 _ _ (by omega);have hv1:sR F (upd M xb (some (.cells 49 zcx 8))) 1 v l.length (bts l):=hv.new hm hxb;have hel:zcx.length=8:=rfl;try simp only [hel]
 generalize upd M xb _=M1 at *
 have no:zn2 l=none -> ∀ F3 M3 N3,za9 F F3 -> xb<N3 -> (∀ q,q<N -> M3 q=M q) -> M3 xb=some (.cells 49 zcx 8) -> za6 M3 N3 ->
   pv (bdC zcx.toArray [(0,1),(1,1),(2,1),(3,1),(4,1),(5,1),(6,1),(7,1)] #[]) (λt4=>st 8 (.pointer (some ⟨xb,0,none⟩)) t4 λ_=>ld true 8 (.pointer (some ⟨xb,0,none⟩)) λt5 h=>h.wf -> ∃ h',h.wk h'∧(h'.wf -> K (.tuple #[t5,.int .u16 160]) h')) ⟨F3,M3,N3⟩:=by
  intro h0 F3 M3 N3 hF3 hN3 hM3 hx3 hm3;refine zab (v:=.agg zcx.toArray) (by kernel_rfl) ?_;refine stM (cs':=zcx) ?_ hx3 rfl rfl (List.all_eq_true.1 rfl);refine zbd (vs:=zcx) ?_ (za2 _ _ _) rfl (by exact (show 0+8≤zcx.length by decide));exact λhc=>⟨_,za0 hc,λhw'=>k0 h0 F3 _ N3 hF3 (by omega) (λq hq=>(za4 _ _ (by omega)).trans (hM3 q hq)) (hm3.set hN3 _) hw'⟩
 refine zab hlv ?_;cases l with
 | nil=>
  refine zcj rfl ?_;try simp only [sS]
  exact no rfl F M1 (xb+1) (za9.refl _) (by omega) hM1 hx1 hm1
 | cons x q=>
  refine zbo (by simp only [List.length_cons]; omega) ?_;try simp only [sS]
  refine yc5 (i:=1) hv1 (by simp) (λu hu hub=>?_);have hb8q:zbi q:=λy hy=>hb8 y (List.mem_cons_of_mem _ hy);have hlq:q.length≤60000:=by simp only [List.length_cons] at hln; omega
  refine yib (l:=q) hu (λb hb=>by have := ho b (hub b hb); omega) hb8q hlq h6 (λcs F3 M3 N3 r h1 h2 h3 h4 hF3 hN3 hM3 hm3 hw3=>?_) (λh0 F3 M3 N3 hF3 hN3 hM3 hm3 hw3=>?_)
  ·have hdr:=yh3 h1;have hx3:=(hM3 xb (by omega)).trans hx1;have hM3':∀ p,p<N -> M3 p=M p:=λp hp=>(hM3 p (by omega)).trans (hM1 p hp)
   have hz:zfq F3 [.int .u8 x,.int .u32 r.id,.int .u32 r.tm,cs[3]?.getD undef,cs[4]?.getD undef,.int .i64 r.lo,.int .i64 r.hi,cs[9]?.getD undef] (zg6 x r):=by
    obtain ⟨na,nc,fv,sa,sc,ev,rfl,hn,hf,he⟩:=h2;exact ⟨na,nc,fv,ev,rfl,hn,hf,he⟩
   have hLm:(zg6 x r).lens:=⟨h3.nl,h3.fl,h3.el,h3.et⟩;have hTm:(zg6 x r).typ:=⟨h4.i0,h4.t0,h4.fv,h4.ev⟩
   have hEm:(zag (zb7 (zg6 x r))).length≤2097152:=by
    have := yp3 hdr.1 (zcf x);rw [hdr.2] at this;have e:zb7 (zg6 x r)=⟨zcf x,r.id,r.tm,r.ns,r.fs,r.lo,r.hi,r.es⟩:=rfl;rw [e]; omega
   obtain ⟨na,nc,fv,sa,sc,ev,rfl,hn,hf,he⟩:=h2;obtain ⟨fa,fc,rfl⟩:=hf.form;obtain ⟨ea,ec,rfl⟩:=he.form;simp only [List.getElem?_cons_succ,List.getElem?_cons_zero,Option.getD_some] at hz;try simp only [sS]
   refine zar (cs:=zak) (λrb hrb=>?_);refine stM (cs':=[.int .u8 r.kind,.int .u32 r.id,.int .u32 r.tm,.slice na r.ns.length nc,.slice fa r.fs.length fc,.int .u32 0,.slice sa 0 sc,.int .i64 r.lo,.int .i64 r.hi,.slice ea r.es.length ec]) ?_ (za2 _ _ _) rfl rfl (List.all_eq_true.1 rfl);rw [zas];have hr4:=za2 M3 rb (some (.cells 77 [.int .u8 r.kind,.int .u32 r.id,.int .u32 r.tm,.slice na r.ns.length nc,.slice fa r.fs.length fc,.int .u32 0,.slice sa 0 sc,.int .i64 r.lo,.int .i64 r.hi,.slice ea r.es.length ec] 10));have hx4:upd M3 rb (some (.cells 77 [.int .u8 r.kind,.int .u32 r.id,.int .u32 r.tm,.slice na r.ns.length nc,.slice fa r.fs.length fc,.int .u32 0,.slice sa 0 sc,.int .i64 r.lo,.int .i64 r.hi,.slice ea r.es.length ec] 10)) xb=_:=(za4 _ _ (by omega)).trans hx3;have hM4:∀ p,p<N -> upd M3 rb (some (.cells 77 [.int .u8 r.kind,.int .u32 r.id,.int .u32 r.tm,.slice na r.ns.length nc,.slice fa r.fs.length fc,.int .u32 0,.slice sa 0 sc,.int .i64 r.lo,.int .i64 r.hi,.slice ea r.es.length ec] 10)) p=M p:=λp hp=>(za4 _ _ (by omega)).trans (hM3' p hp);have hm4:=hm3.new hrb (some (.cells 77 [.int .u8 r.kind,.int .u32 r.id,.int .u32 r.tm,.slice na r.ns.length nc,.slice fa r.fs.length fc,.int .u32 0,.slice sa 0 sc,.int .i64 r.lo,.int .i64 r.hi,.slice ea r.es.length ec] 10));have hre:zak.length=10:=rfl;try simp only [hre]
   generalize upd M3 rb _=M4 at *;refine zcv rfl ?_;try simp only [sS]
   have hv4:sR F3 M4 1 v (x::q).length (bts (x::q)):=hv.keep hF3 λp c hp h=>(hM4 p (ho p hp)).trans h;obtain ⟨pb,po,hp1,hp2⟩:=zv1 hv4 (i:=0) (by simp);refine hp1 _ _ (zg3 (hp2 hv4 _) ?_);try simp only [sS]
   refine ldM (v:=.int .u32 r.id) ?_ hr4;try simp only [sS]
   refine ldM (v:=.int .u32 r.tm) ?_ hr4;try simp only [sS]
   refine ldM (v:=.slice na r.ns.length nc) ?_ hr4;try simp only [sS]
   refine ldM (v:=.slice fa r.fs.length fc) ?_ hr4;try simp only [sS]
   refine ldM (v:=.int .i64 r.lo) ?_ hr4;try simp only [sS]
   refine ldM (v:=.int .i64 r.hi) ?_ hr4;try simp only [sS]
   refine ldM (v:=.slice ea r.es.length ec) ?_ hr4;refine zab (v:=.agg #[.int .u8 x,.int .u32 r.id,.int .u32 r.tm,.slice na r.ns.length nc,.slice fa r.fs.length fc,.int .i64 r.lo,.int .i64 r.hi,.slice ea r.es.length ec]) (by kernel_rfl) ?_;refine zar (cs:=zcx) (λmb hmb=>?_);have hr5:=(za4 M4 (some (.cells 49 zcx 8)) (show rb≠mb by omega)).trans hr4;refine ⟨zb6 (zbe hr5) rfl,zb6 (zbe hr5) rfl,zb6 (zbe hr5) rfl,zb6 (zbe hr5) rfl,zb6 (zbe hr5) rfl,zb6 (zbe hr5) rfl,zb6 (zbe hr5) rfl,hp2 (hv4.new hm4 hmb) _,?_⟩;refine stM (cs':=[.int .u8 x,.int .u32 r.id,.int .u32 r.tm,.slice na r.ns.length nc,.slice fa r.fs.length fc,.int .i64 r.lo,.int .i64 r.hi,.slice ea r.es.length ec]) ?_ (za2 _ _ _) rfl rfl (List.all_eq_true.1 rfl);rw [zas];have hmb5:=za2 M4 mb (some (.cells 49 [.int .u8 x,.int .u32 r.id,.int .u32 r.tm,.slice na r.ns.length nc,.slice fa r.fs.length fc,.int .i64 r.lo,.int .i64 r.hi,.slice ea r.es.length ec] 8));have hx5:upd M4 mb (some (.cells 49 [.int .u8 x,.int .u32 r.id,.int .u32 r.tm,.slice na r.ns.length nc,.slice fa r.fs.length fc,.int .i64 r.lo,.int .i64 r.hi,.slice ea r.es.length ec] 8)) xb=_:=(za4 _ _ (by omega)).trans hx4;have hM5:∀ p,p<N -> upd M4 mb (some (.cells 49 [.int .u8 x,.int .u32 r.id,.int .u32 r.tm,.slice na r.ns.length nc,.slice fa r.fs.length fc,.int .i64 r.lo,.int .i64 r.hi,.slice ea r.es.length ec] 8)) p=M p:=λp hp=>(za4 _ _ (by omega)).trans (hM4 p hp);have hm5:=hm4.new hmb (some (.cells 49 [.int .u8 x,.int .u32 r.id,.int .u32 r.tm,.slice na r.ns.length nc,.slice fa r.fs.length fc,.int .i64 r.lo,.int .i64 r.hi,.slice ea r.es.length ec] 8));try simp only [hel]
   clear hr5;generalize upd M4 mb _=M5 at *;refine zbd (vs:=[.int .u8 x,.int .u32 r.id,.int .u32 r.tm,.slice na r.ns.length nc,.slice fa r.fs.length fc,.int .i64 r.lo,.int .i64 r.hi,.slice ea r.es.length ec]) ?_ hmb5
   have dn:¬ (zbz (zg6 x r)=true∧(zag (zb7 (zg6 x r))).length≤60000∧zbw (zg6 x r)=x::q) -> zn2 (x::q)=none:=λh=>by
    unfold zn2; simp only [h1]; rw [if_neg h]
   refine yip hz hLm hTm hEm (λhs N6 hN6 hw6=>?_) (λhs hbig N6 hN6 hw6=>?_) (λhs hle w M6 N6 hw6 hM6 hN6 hm6 hwf6=>?_)
   ·try simp only [sS]
    refine zid (by decide) ?_;try simp only [sS]
    exact no (dn λh=>by rw [hs] at h; cases h.1) F3 M5 N6 hF3 (by omega) hM5 hx5 (hm5.up hN6)
   ·try simp only [sS]
    refine zid (by decide) ?_;try simp only [sS]
    exact no (dn λh=>by omega) F3 M5 N6 hF3 (by omega) hM5 hx5 (hm5.up hN6)
   ·try simp only [sS]
    refine zcv rfl ?_;try simp only [sS]
    have hM6':∀ p,p<N -> M6 p=M p:=λp hp=>(hM6 p (by omega)).trans (hM5 p hp);have hv6:sR F3 M6 1 v (x::q).length (bts (x::q)):=hv.keep hF3 λp c hp h=>(hM6' p (ho p hp)).trans h;have hx6:=(hM6 xb (by omega)).trans hx5
    have hb8w:zbi (zbw (zg6 x r)):=λy hy=>by
     rcases List.mem_cons.1 hy with rfl | hy
     ·exact hb8 _ (List.mem_cons_self ..)
     ·exact znm _ y hy
    refine yfw hw6.rd hv6 hb8w hb8 (λhw7=>?_)
    by_cases he2:zbw (zg6 x r)=x::q
    ·rw [decide_eq_true he2];try simp only [sS]
     refine zbd (vs:=[.int .u8 x,.int .u32 r.id,.int .u32 r.tm,.slice na r.ns.length nc,.slice fa r.fs.length fc,.int .i64 r.lo,.int .i64 r.hi,.slice ea r.es.length ec]) ?_ ((hM6 mb (by omega)).trans hmb5);refine stM (cs':=[.int .u8 x,.int .u32 r.id,.int .u32 r.tm,.slice na r.ns.length nc,.slice fa r.fs.length fc,.int .i64 r.lo,.int .i64 r.hi,.slice ea r.es.length ec]) ?_ hx6 rfl rfl (List.all_eq_true.1 rfl);refine zbd (vs:=[.int .u8 x,.int .u32 r.id,.int .u32 r.tm,.slice na r.ns.length nc,.slice fa r.fs.length fc,.int .i64 r.lo,.int .i64 r.hi,.slice ea r.es.length ec]) ?_ (za2 _ _ _);exact λhc=>⟨_,za0 hc,λhw'=>k1 _ F3 _ N6 (zg6 x r) (by unfold zn2; simp only [h1]; rw [if_pos ⟨hs,hle,he2⟩]) hz hLm hTm hF3 (by omega) (λp hp=>(za4 _ _ (by omega)).trans (hM6' p hp)) (hm6.set (by omega) _) hw'⟩
    ·rw [decide_eq_false he2];try simp only [sS]
     exact no (dn λh=>he2 h.2.2) F3 M6 N6 hF3 (by omega) hM6' hx6 hm6
  ·have hx3:=(hM3 xb (by omega)).trans hx1;have hM3':∀ p,p<N -> M3 p=M p:=λp hp=>(hM3 p (by omega)).trans (hM1 p hp);try simp only [sS]
   refine zar (cs:=zak) (λrb hrb=>?_);refine stM (cs':=zak) ?_ (za2 _ _ _) rfl rfl (List.all_eq_true.1 rfl);rw [zas];refine zid (by decide) ?_;try simp only [sS]
   exact no (by unfold zn2; simp only [h0]) F3 _ (rb+1) hF3 (by omega) (λp hp=>(za4 _ _ (by omega)).trans (hM3' p hp)) ((za4 _ _ (by omega)).trans hx3) (hm3.new hrb _)
theorem ygx {e:EqK} {a b:Int} {h:Hp} (h0:0≤a+b) (h1:a+b<4294967296) (k:K (.int .u32 (a+b)) h):pv (za1 e .add (.int .u32 a) (.int .u32 b)) K h :=
 ⟨_,by simp [za1,zfr]; rfl,by rw [IntKind.wrap_u32,show (a+b)%4294967296=a+b by omega]; exact k⟩
theorem ygm {e:EqK} {a b:Int} {h:Hp} (h0:0≤a - b) (h1:a - b<4294967296) (k:K (.int .u32 (a - b)) h):pv (za1 e .sub (.int .u32 a) (.int .u32 b)) K h :=
 ⟨_,by simp [za1,zfr]; rfl,by rw [IntKind.wrap_u32,show (a - b)%4294967296=a - b by omega]; exact k⟩
theorem yn7 {kk:IntKind} {x:Int} {h:Hp} (h0:0≤x) (h1:x<4294967296) (k:K (.int .u32 x) h):pv (cvV .u32 (.int kk x)) K h :=
 ⟨_,rfl,by rw [IntKind.wrap_u32,show x%4294967296=x by omega]; exact k⟩
def zdj (x:Int):Int:=if x≥65521 then x - 65521 else x
def zlj (p:Int×Int) (c:Int):Int×Int:=(zdj (p.1+c),zdj (p.2+zdj (p.1+c)))
def zk3 (l:List Int):Int×Int:=l.foldl zlj (1,0)
def zjj (p:Int×Int):Prop:=(0≤p.1∧p.1<65521)∧0≤p.2∧p.2<65521
theorem yp2 {p:Int×Int} {c:Int} (h:zjj p) (hc:0≤c∧c<256):zjj (zlj p c):=by
 unfold zjj zlj zdj at *;simp only
 split<;>split<;>omega
theorem yim (l:List Int) (c:Int):zk3 (l++[c])=zlj (zk3 l) c:=by simp [zk3]
theorem ydd:∀ (l:List Int) (p:Int×Int),zbi l -> zjj p -> zjj (l.foldl zlj p)
 | [],p,_,h=>h
 | x::l,p,hb,h=>ydd l _ (λy hy=>hb y (List.mem_cons_of_mem _ hy)) (yp2 h (hb x (List.mem_cons_self ..)))
theorem yl4 {l:List Int} (h:zbi l):zjj (zk3 l):=ydd l _ h (by unfold zjj; simp)
def zjh (p:Int×Int):Option zah:=some (.cells 337 [.int .u32 p.1,.int .u32 p.2] 2)
theorem yrs {b:Nat} {p:Int×Int} {c:Int} (hb:M b=zjh p) (hp:zjj p) (hc:0≤c∧c<256) (k:(Hp.mk F (upd M b (zjh (zlj p c))) N).wf -> K (.tuple #[]) ⟨F,upd M b (zjh (zlj p c)),N⟩) :
  zbq Tryz.prog (.func (.func 246) #[.pointer (some ⟨b,0,none⟩)] #[]) #[.int .u8 c] K E ⟨F,M,N⟩:=by
 refine za5 mixed Tryz.func246 (by kernel_rfl) (yvx _ E _ _) (λhw=>?_);obtain ⟨⟨p1,p2⟩,p3,p4⟩:=hp;unfold zjh at hb
 have tail:∀ M1,M1 b=zjh (zdj (p.1+c),p.2) -> (∀ x,upd M1 b x=upd M b x) -> 0≤zdj (p.1+c) -> zdj (p.1+c)<65521 ->
   (pv (zai (.pointer (some ⟨b,0,none⟩))) λt1=>pv (faV 1 t1) λt2=>ld false 1 t2 λt3=>pv (zai (.pointer (some ⟨b,0,none⟩))) λt4=>pv (faV 0 t4) λt5=>ld false 1 t5 λt6=>pv (za1 .none .add t3 t6) λt7=>pv (zai (.pointer (some ⟨b,0,none⟩))) λt8=>pv (faV 1 t8) λt9=>st 1 t9 t7 λ_=>pv (zai (.pointer (some ⟨b,0,none⟩))) λt10=>pv (faV 1 t10) λt11=>ld false 1 t11 λt12=>pv (za1 .none .geq t12 (.int .u32 65521)) λt13=>
    cnd t13 (pv (zai (.pointer (some ⟨b,0,none⟩))) λt14=>pv (faV 1 t14) λt15=>ld false 1 t15 λt16=>pv (za1 .none .sub t16 (.int .u32 65521)) λt17=>pv (zai (.pointer (some ⟨b,0,none⟩))) λt18=>pv (faV 1 t18) λt19=>st 1 t19 t17 λ_=>λh=>h.wf -> ∃ h',h.wk h'∧(h'.wf -> K (.tuple #[]) h')) (λh=>h.wf -> ∃ h',h.wk h'∧(h'.wf -> K (.tuple #[]) h'))) ⟨F,M1,N⟩:=by
  intro M1 h1 hM l1 l2;unfold zjh at h1;try simp only [sS]
  refine ldM (v:=.int .u32 p.2) ?_ h1;try simp only [sS]
  refine ldM (v:=.int .u32 (zdj (p.1+c))) ?_ h1;refine ygx (by omega) (by omega) ?_;try simp only [sS]
  refine stM (cs':=[.int .u32 (zdj (p.1+c)),.int .u32 (p.2+zdj (p.1+c))]) ?_ h1 rfl;try simp only [sS]
  refine ldM (v:=.int .u32 (p.2+zdj (p.1+c))) ?_ (za2 _ _ _);refine zg7 (λhg=>zav ?_) (λhg=>zan ?_)
  ·try simp only [sS]
   refine ldM (v:=.int .u32 (p.2+zdj (p.1+c))) ?_ (za2 _ _ _);refine ygm (by omega) (by omega) ?_;try simp only [sS]
   refine stM (cs':=[.int .u32 (zdj (p.1+c)),.int .u32 (p.2+zdj (p.1+c) - 65521)]) ?_ (za2 _ _ _) rfl;rw [zas]
   have e:zlj p c=(zdj (p.1+c),p.2+zdj (p.1+c) - 65521):=by
    unfold zlj; rw [show zdj (p.2+zdj (p.1+c))=p.2+zdj (p.1+c) - 65521 by rw [zdj,if_pos hg]]
   rw [e] at k;unfold zjh at k;rw [hM];exact λhc=>⟨_,za0 hc,k⟩
  ·have e:zlj p c=(zdj (p.1+c),p.2+zdj (p.1+c)):=by
    unfold zlj; rw [show zdj (p.2+zdj (p.1+c))=p.2+zdj (p.1+c) by rw [zdj,if_neg hg]]
   rw [e] at k;unfold zjh at k;rw [hM];exact λhc=>⟨_,za0 hc,k⟩
 try simp only [sS]
 refine ldM (v:=.int .u32 p.1) ?_ hb;refine yn7 hc.1 (by omega) (ygx (by omega) (by omega) ?_);try simp only [sS]
 refine stM (cs':=[.int .u32 (p.1+c),.int .u32 p.2]) ?_ hb rfl;try simp only [sS]
 refine ldM (v:=.int .u32 (p.1+c)) ?_ (za2 _ _ _);refine zg7 (λhg=>zav ?_) (λhg=>zan ?_)
 ·try simp only [sS]
  refine ldM (v:=.int .u32 (p.1+c)) ?_ (za2 _ _ _);refine ygm (by omega) (by omega) ?_;try simp only [sS]
  refine stM (cs':=[.int .u32 (p.1+c - 65521),.int .u32 p.2]) ?_ (za2 _ _ _) rfl;rw [ygo,zas];have e:zdj (p.1+c)=p.1+c - 65521:=by rw [zdj,if_pos hg]
  exact tail _ (by rw [e]; exact za2 _ _ _) (λx=>by rw [zas]) (by omega) (by omega)
 ·rw [ygo];have e:zdj (p.1+c)=p.1+c:=by rw [zdj,if_neg hg]
  exact tail _ (by rw [e]; exact za2 _ _ _) (λx=>by rw [zas]) (by omega) (by omega)
def orU (a b:Int):Int:=IntKind.u32.wrap (BitVec.ofInt 32 a|||BitVec.ofInt 32 b).toNat
def zlb (l:List Int):Int:=orU (IntKind.u32.wrap ((zk3 l).2*65536)) (zk3 l).1
theorem yfb {ts:List (List Int)} (h:∀ t∈ts,zbi t):zbi ts.flatten:=λx hx=>by
 obtain ⟨t,ht,hx⟩:=List.mem_flatten.1 hx;exact h t ht x hx
theorem znx {l:List Int} {n:Nat} (h:zbi l):zbi (l.take n):=λx hx=>h x (List.mem_of_mem_take hx)
theorem znn {l:List Int} {n:Nat} (h:zbi l):zbi (l.drop n):=λx hx=>h x (List.mem_of_mem_drop hx)
theorem yq0 {M0:Nat -> Option zah} {N0:Nat} {v:Value} {ts:List (List Int)} {K:Value -> zae} (hm0:za6 M0 N0) (hv:zm9 F M0 v ts) (hM:∀ q,q<N0 -> M q=M0 q) {i:Nat} (hi:i<ts.length) (k:∀ p u,sR F M0 1 u ts[i].length (bts ts[i]) -> K p u ⟨F,M,N⟩):pv (iaV none 1 v (.int .i64 (i:Nat))) (λp=>ld false 1 p (K p)) ⟨F,M,N⟩:=by
 obtain ⟨us,h1,h2⟩:=hv;obtain ⟨u,hu,hR⟩:=h2.get (List.getElem?_eq_getElem hi)
 rcases (zfn hm0 h1 hM).2 with ⟨a,c,e1,e2⟩ | ⟨b,o,c,cs,rfl,h3,h4,h5⟩
 ·omega
 refine zd0 hi (zg3 (zb6 (cs:=cs) ?_ ?_) (k _ u hR))
 ·rcases h4 with h4 | ⟨e,tot,h4⟩
  ·exact zif h4
  ·exact zbe h4
 ·rw [← h5,List.getElem?_take,List.getElem?_drop] at hu
  split at hu
  ·rw [Nat.mul_one]; exact hu
  ·cases hu
theorem ync {v:Value} {ts:List (List Int)} (hv:zm9 F M v ts) (hb8:∀ t∈ts,zbi t) (hl:∀ t∈ts,t.length≤1000000000) (htl:ts.length≤1000000000)
  (k:∀ N',N≤N' -> (Hp.mk F M N').wf -> K (.int .u32 (zlb ts.flatten)) ⟨F,M,N'⟩) :
  cF 185 #[v] K E ⟨F,M,N⟩:=by
 refine za5 mixed Tryz.func185 (by kernel_rfl) (yxh _ E _) (λhw=>?_);have hm:za6 M N:=hw.m;have hlv:zac v=some (.int .i64 (ts.length:Nat)):=by obtain ⟨us,h1,_⟩:=hv; obtain ⟨a,c,rfl,_⟩:=h1.form; rfl
 refine zab (v:=.agg #[.int .u32 1,.int .u32 0]) (by kernel_rfl) ?_;refine zar (cs:=[.int .u32 0,.int .u32 0]) (λb hb=>?_);refine stM (cs':=[.int .u32 1,.int .u32 0]) ?_ (za2 _ _ _) rfl rfl (List.all_eq_true.1 rfl);rw [zas];refine zab hlv ?_
 refine zpg (σ:=Nat) (λi=>.int .i64 (i:Nat)) (λi h=>h=⟨F,upd M b (zjh (zk3 (ts.take i).flatten)),b+1⟩∧i≤ts.length) (λi=>ts.length - i) 0 rfl
  (λhw1=>⟨_,za0 hw1,rfl,Nat.zero_le _⟩) (λk1 i j h1 hI hw1 next=>?_)
 rw [zpz];obtain ⟨rfl,hi⟩:=hI;refine zau (λhlt=>?_) (λhge=>?_)
 ·have h1:i<ts.length:=by omega
  have hmem:ts[i]∈ts:=List.getElem_mem h1;try simp only [sS]
  refine yq0 hm hv (λq hq=>za4 _ _ (by omega)) h1 λp u hu=>?_;have hlu:zac u=some (.int .i64 (ts[i].length:Nat)):=by obtain ⟨a,c,rfl,_⟩:=hu.form; rfl
  refine zab hlu ?_
  refine zhw (σ:=Nat) (λn=>.int .i64 (n:Nat)) (λn h=>h=⟨F,upd M b (zjh (zk3 ((ts.take i).flatten++ts[i].take n))),b+1⟩∧n≤ts[i].length) (λn=>ts[i].length - n) 0 rfl
   (λhw2=>⟨_,za0 hw2,by simp,Nat.zero_le _⟩) (λk2 n j2 h2 hI2 hw2 next2=>?_)
  rw [zhx];obtain ⟨rfl,hn⟩:=hI2;have hu2:sR F (upd M b (zjh (zk3 ((ts.take i).flatten++ts[i].take n)))) 1 u ts[i].length (bts ts[i]):=zfn hm hu (λq hq=>za4 _ _ (by omega));refine zau (λhlt2=>?_) (λhge2=>?_)
  ·have h2:n<ts[i].length:=by omega
   try simp only [sS]
   obtain ⟨pb,po,hp1,hp2⟩:=zv1 hu2 h2;refine hp1 _ _ (zg3 (hp2 hu2 _) ?_);have ok:zjj (zk3 ((ts.take i).flatten++ts[i].take n)):=yl4 (zfg (yfb λt ht=>hb8 t (List.mem_of_mem_take ht)) (znx (hb8 _ hmem)));refine yrs (za2 _ _ _) ok (hb8 _ hmem _ (List.getElem_mem h2)) (λhw3=>?_);have hl2:=hl _ hmem;refine zaq (by omega) ?_;refine next2 (n+1) _ _ (by omega) (λhw4=>⟨_,za0 hw4,?_,h2⟩);rw [zas,← yim,List.append_assoc,List.take_append_getElem h2]
  ·try simp only [sS]
   refine zaq (by omega) ?_;refine next (i+1) _ _ (by omega) (λhw4=>⟨_,za0 hw4,?_,h1⟩);rw [zje ts h1,List.take_of_length_le (show ts[i].length≤n by omega)]
 ·try simp only [sS]
  rw [List.take_of_length_le (by omega)];refine ldM (v:=.int .u32 (zk3 ts.flatten).2) ?_ (za2 _ _ _);refine zab (v:=.int .u32 (IntKind.u32.wrap ((zk3 ts.flatten).2*65536))) (by kernel_rfl) ?_;try simp only [sS]
  refine ldM (v:=.int .u32 (zk3 ts.flatten).1) ?_ (za2 _ _ _);refine zab (v:=.int .u32 (zlb ts.flatten)) (by kernel_rfl) ?_;exact λhc=>⟨⟨F,M,b+1⟩,zbm hc (zb4 (zbc _) (hm _ hb)),λhw'=>k _ (by omega) hw'⟩
theorem ycn {x:Int} {k:Nat} {h:Hp} (kk:K (.int .u32 (x.fdiv (2 ^ (min k 32)))) h):pv (za1 .none .shr (.int .u32 x) (.int .u64 (k:Nat))) K h :=
 ⟨_,by
  have e:za1 .none .shr (.int .u32 x) (.int .u64 (k:Nat))=zgh .shr .u32 x (k:Nat):=rfl;rw [e]; unfold zgh; rw [if_neg (by omega)]; simp only [Int.toNat_natCast]; rfl,kk⟩
theorem yn8 (n:Int):bts (zam n 4)=[.int .u8 (IntKind.u8.wrap (n.fdiv (2 ^ 24))),.int .u8 (IntKind.u8.wrap (n.fdiv (2 ^ 16))),.int .u8 (IntKind.u8.wrap (n.fdiv (2 ^ 8))),.int .u8 (IntKind.u8.wrap n)]:=by
 have:IntKind.u8.wrap (n.fdiv (2 ^ 0))=IntKind.u8.wrap n:=by simp
 rw [← this]; rfl
theorem ygs (n:Int) {size:Nat} (h:size≤4):(zam n 4).drop (4 - size)=zam n size:=by
 have:size=0∨size=1∨size=2∨size=3∨size=4:=by omega
 rcases this with rfl | rfl | rfl | rfl | rfl<;>rfl
theorem zy6 {n:Int} {size:Nat} (hs:size≤4) (k:∀ v' M' N',own M' N 5 1 v' size (bts (zam n size)) -> (∀ q,q<N -> M' q=M q) -> N≤N' -> za6 M' N' -> (Hp.mk F M' N').wf -> K v' ⟨F,M',N'⟩) :
  cF 184 #[.int .u32 n,.int .i64 (size:Nat)] K E ⟨F,M,N⟩:=by
 refine za5 mixed Tryz.func184 (by kernel_rfl) (ywi _ E _ _) (λhw=>?_);have hm:za6 M N:=hw.m;refine ycn (k:=24) (zab rfl (ycn (k:=16) (zab rfl (ycn (k:=8) (zab rfl (zab rfl ?_))))));refine zab (v:=.agg (bts (zam n 4)).toArray) (by rw [yn8]; kernel_rfl) ?_;refine zar (cs:=[.int .u8 0,.int .u8 0,.int .u8 0,.int .u8 0]) (λb hb=>?_);refine stM (cs':=bts (zam n 4)) ?_ (za2 _ _ _) (by rw [yn8]; rfl) rfl (znu _);rw [zas];have e4:((4:Nat):Int) - (size:Nat)=((4 - size:Nat):Int):=by omega
 refine zcz (a:=(4:Nat)) (by omega) (by omega) ?_;rw [e4];have hv:sR F (upd M b (some (.cells 335 (bts (zam n 4)) 4))) 1 (.slice (some ⟨b,0,none⟩) 4 4) (zam n 4).length (bts (zam n 4)):=⟨by simp [bts],.inr ⟨b,0,4,_,rfl,by rw [zaa]; exact Nat.le_refl _,.inr ⟨_,_,za2 _ _ _⟩,by rw [List.drop_zero]; exact List.take_of_length_le (by simp [bts])⟩⟩;refine yc5 hv (i:=4 - size) (by rw [zaa]; omega) (λu hu _=>?_);rw [ygs n hs] at hu;refine yin hu (by rw [zaa]; omega) (λw M' N' h1 h2 h3 h4 h5=>?_);rw [zaa] at h1;exact λhc=>⟨_,za0 hc,λhw'=>k w M' N' (h1.keep (λ_ _=>rfl) (by omega)) (λq hq=>(h2 q (by omega)).trans (za4 _ _ (by omega))) (by omega) h4 hw'⟩
def zbg (l:List Int):List Int:=zam (l.length:Nat) 3++(l++zam (zlb (zam (l.length:Nat) 3++l)) 4)
theorem zei (l:List Int):(zbg l).length=l.length+7:=by unfold zbg; rw [List.length_append,List.length_append,zaa,zaa]; omega
theorem ykr {l:List Int} (h:zbi l):zbi (zbg l):=zfg (zdd _ _) (zfg h (zdd _ _))
theorem yil {v:Value} {l:List Int} (hv:sR F M 1 v l.length (bts l)) (hb8:zbi l) (hl:l.length≤2097152)
  (k0:l.length>60000 -> (Hp.mk F M N).wf -> K (.tuple #[.slice none 0 0,.int .u16 3]) ⟨F,M,N⟩)
  (k1:l.length≤60000 -> ∀ w M' N',own M' N 5 1 w (zbg l).length (bts (zbg l)) -> (∀ q,q<N -> M' q=M q) -> N≤N' -> za6 M' N' -> (Hp.mk F M' N').wf -> K (.tuple #[w,.int .u16 0]) ⟨F,M',N'⟩) :
  cF 131 #[v] K E ⟨F,M,N⟩:=by
 refine za5 mixed Tryz.func131 (by kernel_rfl) (ywl _ E _) (λhw=>?_);have hm:za6 M N:=hw.m;have hlv:zac v=some (.int .i64 (l.length:Nat)):=by obtain ⟨a,c,h,_⟩:=hv.form; rw [h]; rfl
 refine zab hlv ?_;refine zby (λhg=>zav ?_) (λhg=>zan ?_)
 ·exact λhc=>⟨_,za0 hc,λhw'=>k0 (by omega) hw'⟩
 refine zab hlv (yn7 (by omega) (by omega) ?_);refine zy6 (size:=3) (by omega) (λn M1 N1 hn hM1 hN1 hm1 hw1=>?_);have hv1:sR F M1 1 v l.length (bts l):=zfn hm hv hM1;obtain ⟨na,nc,rfl,_⟩:=hn.form;obtain ⟨va,vc,rfl,_⟩:=hv.form;refine zd7 (cs:=[.slice na 3 nc,.slice va l.length vc]) (by kernel_rfl) (λb1 hb1=>?_)
 have hts:zm9 F (upd M1 b1 (some (.cells 44 [.slice na 3 nc,.slice va l.length vc] 2))) (.slice (some ⟨b1,0,none⟩) 2 2) [zam (l.length:Nat) 3,l] :=
  ⟨[.slice na 3 nc,.slice va l.length vc],⟨rfl,.inr ⟨b1,0,2,_,rfl,Nat.le_refl _,.inr ⟨_,_,za2 _ _ _⟩,rfl⟩⟩,
   ((zg0.nil (λ(u:Value) (t:List Int)=>sR F (upd M1 b1 (some (.cells 44 [.slice na 3 nc,.slice va l.length vc] 2))) 1 u t.length (bts t))).snoc (y:=zam (l.length:Nat) 3) (by rw [zaa]; exact (hn.rd).new hm1 hb1)).snoc (y:=l) (hv1.new hm1 hb1)⟩
 refine ync hts (by simp only [List.mem_cons,List.not_mem_nil,or_false]; rintro t (rfl | rfl); exact zdd _ _; exact hb8) (by simp only [List.mem_cons,List.not_mem_nil,or_false]; rintro t (rfl | rfl); rw [zaa]; omega; omega) (by simp) (λN2 hN2 hw2=>?_);have hm2:za6 (upd M1 b1 (some (.cells 44 [.slice na 3 nc,.slice va l.length vc] 2))) (b1+1):=hm1.new hb1 _;have hM2:∀ q,q<N1 -> upd M1 b1 (some (.cells 44 [.slice na 3 nc,.slice va l.length vc] 2)) q=M1 q:=λq hq=>za4 _ _ (by omega);simp only [List.length_cons,List.length_nil,Nat.zero_add] at hw2 ⊢;generalize upd M1 b1 _=M2 at *;have hf:[zam (l.length:Nat) 3,l].flatten=zam (l.length:Nat) 3++l:=by simp
 rw [hf];refine zy6 (size:=4) (by omega) (λt M3 N3 ht hM3 hN3 hm3 hw3=>?_);have hn3:sR F M3 1 (.slice na 3 nc) 3 (bts (zam (l.length:Nat) 3)):=zfn hm2 (zfn hm1 hn.rd hM2) (λq hq=>hM3 q (by omega));have hv3:sR F M3 1 (.slice va l.length vc) l.length (bts l):=zfn hm2 (zfn hm1 hv1 hM2) (λq hq=>hM3 q (by omega));obtain ⟨ta,tc,rfl,_⟩:=ht.form;refine zd7 (cs:=[.slice na 3 nc,.slice va l.length vc,.slice ta 4 tc]) (by kernel_rfl) (λb2 hb2=>?_)
 have hts2:zm9 F (upd M3 b2 (some (.cells 44 [.slice na 3 nc,.slice va l.length vc,.slice ta 4 tc] 3))) (.slice (some ⟨b2,0,none⟩) 3 3) [zam (l.length:Nat) 3,l,zam (zlb (zam (l.length:Nat) 3++l)) 4] :=
  ⟨[.slice na 3 nc,.slice va l.length vc,.slice ta 4 tc],⟨rfl,.inr ⟨b2,0,3,_,rfl,Nat.le_refl _,.inr ⟨_,_,za2 _ _ _⟩,rfl⟩⟩,
   (((zg0.nil (λ(u:Value) (t:List Int)=>sR F (upd M3 b2 (some (.cells 44 [.slice na 3 nc,.slice va l.length vc,.slice ta 4 tc] 3))) 1 u t.length (bts t))).snoc (y:=zam (l.length:Nat) 3) (by rw [zaa]; exact hn3.new hm3 hb2)).snoc (y:=l) (hv3.new hm3 hb2)).snoc (y:=zam (zlb (zam (l.length:Nat) 3++l)) 4) (by rw [zaa]; exact (ht.rd).new hm3 hb2)⟩
 have hf2:[zam (l.length:Nat) 3,l,zam (zlb (zam (l.length:Nat) 3++l)) 4].flatten=zbg l:=by simp [zbg]
 refine zyp hts2 (by rw [hf2,zei]; omega) (by simp) (λw M4 N4 hw4 hM4 hN4 hm4 hwf4=>?_);rw [hf2] at hw4;refine λhc=>⟨_,za0 hc,λhw'=>k1 (by omega) w M4 N4 (hw4.keep (λ_ _=>rfl) (by omega)) (λq hq=>?_) (by omega) hm4 hw'⟩;exact (hM4 q (by omega)).trans ((za4 _ _ (by omega)).trans ((hM3 q (by omega)).trans ((hM2 q (by omega)).trans (hM1 q hq))))
def zck (l:List Int):Option (List Int) :=
 if l.length<7 then none else if (rdV (l.take 3) 0).toNat>60000∨(rdV (l.take 3) 0).toNat+7>l.length then none
 else if zam (zlb (l.take (3+(rdV (l.take 3) 0).toNat))) 4=(l.drop (3+(rdV (l.take 3) 0).toNat)).take 4 then some ((l.drop 3).take (rdV (l.take 3) 0).toNat) else none
def chain (l:List Int):Nat -> List (List Int) -> Nat -> Prop
 | a,[],e=>a=e
 | a,x::xs,e=>zck (l.drop a)=some x∧chain l (a+(x.length+7)) xs e
theorem ztv {l:List Int}:∀ {xs:List (List Int)} {a e:Nat} {x:List Int},chain l a xs e -> zck (l.drop e)=some x -> chain l a (xs++[x]) (e+(x.length+7))
 | [],a,e,x,h,hx=>by subst h; exact ⟨hx,rfl⟩
 | y::ys,a,e,x,h,hx=>⟨h.1,ztv h.2 hx⟩
theorem yel {l x:List Int} (h:zck l=some x):x.length≤60000∧x.length+7≤l.length:=by
 unfold zck at h
 split at h
 ·cases h
 ·split at h
  ·cases h
  ·split at h
   ·simp only [Option.some.injEq] at h; subst h;simp only [List.length_take,List.length_drop]; omega
   ·cases h
theorem yj3 {a k:Nat} {h:Hp} (ha:a<256) (hk:k≤16) (kk:K (.int .i64 ((a*2 ^ k:Nat):Int)) h):pv (za1 .none .shl (.int .i64 (a:Nat)) (.int .u64 (k:Nat))) K h :=
 ⟨_,by
  have e:za1 .none .shl (.int .i64 (a:Nat)) (.int .u64 (k:Nat))=zgh .shl .i64 (a:Nat) (k:Nat):=rfl;rw [e]; unfold zgh; rw [if_neg (by omega)],by
  have hp:a*2 ^ k≤255*2 ^ 16:=Nat.mul_le_mul (by omega) (Nat.pow_le_pow_right (by omega) hk)
  have:IntKind.i64.wrap (((a:Nat):Int)*2 ^ (min ((k:Nat):Int).toNat IntKind.i64.bits))=((a*2 ^ k:Nat):Int):=by
   rw [show min ((k:Nat):Int).toNat IntKind.i64.bits=k by rw [Int.toNat_natCast]; exact Nat.min_eq_left (by have:IntKind.i64.bits=64:=rfl; omega)];have e2:((a:Nat):Int)*2 ^ k=((a*2 ^ k:Nat):Int):=by simp
   rw [e2,IntKind.wrap_i64];omega
  rw [this]; exact kk⟩
theorem yn9 {a c k:Nat} {h:Hp} (ha:a*2 ^ k<4294967296) (hc:c<2 ^ k) (hk:k≤16) (kk:K (.int .i64 ((a*2 ^ k+c:Nat):Int)) h):pv (za1 .none .or (.int .i64 ((a*2 ^ k:Nat):Int)) (.int .i64 (c:Nat))) K h :=
 ⟨_,by
  have e:za1 .none .or (.int .i64 ((a*2 ^ k:Nat):Int)) (.int .i64 (c:Nat))=zfr .or .i64 ((a*2 ^ k:Nat):Int) (c:Nat):=by simp [za1]
  rw [e]; rfl,by
  have hp:2 ^ k≤2 ^ 16:=Nat.pow_le_pow_right (by omega) hk
  have h1:(BitVec.ofInt IntKind.i64.bits ((a*2 ^ k:Nat):Int)|||BitVec.ofInt IntKind.i64.bits (c:Nat)).toNat=a*2 ^ k+c:=by
   show (BitVec.ofInt 64 ((a*2 ^ k:Nat):Int)|||BitVec.ofInt 64 (c:Nat)).toNat=_
   rw [BitVec.ofInt_natCast,BitVec.ofInt_natCast,BitVec.toNat_or,BitVec.toNat_ofNat,BitVec.toNat_ofNat,Nat.mod_eq_of_lt (by omega),Nat.mod_eq_of_lt (by omega)];have := Nat.shiftLeft_add_eq_or_of_lt hc a;rw [Nat.shiftLeft_eq] at this;exact this.symm
  rw [h1,show IntKind.i64.wrap ((a*2 ^ k+c:Nat):Int)=((a*2 ^ k+c:Nat):Int) by rw [IntKind.wrap_i64]; omega];exact kk⟩
theorem ya2 {x:Nat} {h:Hp} (h1:x<256) (k:K (.int .i64 (x:Nat)) h):pv (cvV .i64 (.int .u8 (x:Nat))) K h:=⟨_,rfl,by rw [IntKind.wrap_i64,show ((x:Int)+9223372036854775808)%18446744073709551616 - 9223372036854775808=x by omega]; exact k⟩
theorem yr4 {a b:Nat} {h:Hp} (k:K (.int .i64 ((min a b:Nat):Int)) h):pv (mm false (.int .i64 (a:Nat)) (.int .i64 (b:Nat))) K h:=by
 refine ⟨_,rfl,?_⟩;have:(if ((b:Nat):Int)<(a:Nat) then ((b:Nat):Int) else (a:Nat))=((min a b:Nat):Int):=by split<;>omega
 show K (.int .i64 (if ((b:Nat):Int)<(a:Nat) then ((b:Nat):Int) else (a:Nat))) h
 rw [this]; exact k
theorem yyl (x y z:Int):rdV [x,y,z] 0=(x*256+y)*256+z:=by simp [rdV]
theorem yt8 {r:List Int} (h:7≤r.length):r.take 3=[r[0],r[1],r[2]]:=by
 match r,h with
 | x::y::z::t,_=>rfl
theorem ysj {mk:(Nat -> Value) -> Env} {env:Env} (he:env=mk (λi=>env.getD i undef)):env=mk (λi=>env.getD i undef):=he
theorem yq2 {y cb B:Nat} {bv:Value} {l:List Int} (I:List (List Int) -> Nat -> (Nat -> Option zah) -> Nat -> Prop)
  (hb:∀ xs e M N,I xs e M N -> za6 M N -> B≤N∧M cb=some (.cells 44 [bv] 1)∧sR F M 1 bv l.length (bts l))
  (hs:∀ xs e M N M' N',I xs e M N -> za6 M N -> (∀ q,q<N -> M' q=M q) -> N≤N' -> za6 M' N' -> I xs e M' N')
  (hy:∀ xs e M N x v (K:zae),I xs e M N -> za6 M N -> own M B 5 1 v x.length (bts x) -> zbi x -> e+(x.length+7)≤l.length -> (∀ M' N',I (xs++[x]) (e+(x.length+7)) M' N' -> za6 M' N' -> N≤N' -> K (.bool true) ⟨F,M',N'⟩) -> zv5 Tryz.prog y #[.int .i64 ((e+(x.length+7):Nat):Int),v] K ⟨F,M,N⟩)
  (h8:zbi l) (hl:l.length≤100000000) (h0:I [] 0 M N) (hm:za6 M N)
  (k:∀ xs e M' N',chain l 0 xs e -> zck (l.drop e)=none -> e≤l.length -> I xs e M' N' -> za6 M' N' -> K (.tuple #[]) ⟨F,M',N'⟩) :
  call Tryz.prog 244 #[.func (.yield y) #[] #[],.pointer (some ⟨cb,0,none⟩)] K E ⟨F,M,N⟩:=by
 refine zvv (fn:=Tryz.f244) (c:=za3 Tryz.f244) Tryz.func244 (by kernel_rfl) ?_;refine zd4 (a:=sel (za3 Tryz.f244) [0]) (b:=sel (za3 Tryz.f244) [1]) (by kernel_rfl) ?_;refine zd3 mixed (zc1 zd6) (yq9 ..) ?_;refine zqm (id:=0) (a:=sel (za3 Tryz.f244) [1,0]) (by kernel_rfl) ?_
 refine yjq (b:=sel (za3 Tryz.f244) [1,0,0]) (by kernel_rfl) (σ:=List (List Int)×Nat) (λs j=>zfy (.func (.yield y) #[] #[]) (.pointer (some ⟨cb,0,none⟩)) undef (.int .i64 (s.2:Nat)) j)
  (λs h=>∃ M' N',h=⟨F,M',N'⟩∧I s.1 s.2 M' N'∧za6 M' N'∧chain l 0 s.1 s.2∧s.2≤l.length) (λs=>l.length - s.2) ([],0) (λ_=>undef) (by kernel_rfl)
  (λhw=>⟨_,za0 hw,M,N,rfl,h0,hm,rfl,Nat.zero_le _⟩) (λs j h1 hI hw=>?_)
 obtain ⟨M1,N1,rfl,hI1,hm1,hch,hle⟩:=hI;obtain ⟨hB1,hcb,hbv⟩:=hb _ _ _ _ hI1 hm1;have hlv:zac bv=some (.int .i64 (l.length:Nat)):=by obtain ⟨a,c,h,_⟩:=hbv.form; rw [h]; rfl
 have fin:∀ M' N',zck (l.drop s.2)=none -> (∀ q,q<N1 -> M' q=M1 q) -> N1≤N' -> za6 M' N' -> K (.tuple #[]) ⟨F,M',N'⟩:=λM' N' h1 h2 h3 h4=>k _ _ _ _ hch h1 hle (hs _ _ _ _ _ _ hI1 hm1 h2 h3 h4) h4;have hdl:(l.drop s.2).length=l.length - s.2:=by simp
 refine zd4 (a:=sel (za3 Tryz.f244) [1,0,0,0]) (b:=sel (za3 Tryz.f244) [1,0,0,1]) (by kernel_rfl) ?_;refine zd3 mixed (zc1 (zc1 (zej zd6))) (ybu ..) ?_;refine ldM (v:=bv) ?_ hcb;refine zab hlv (zcz (by omega) (by omega) ?_);refine zg7 (λh7=>zav ?_) (λh7=>zan ?_)
 rotate_left
 ·exact fin M1 N1 (by unfold zck; rw [if_pos (by omega)]) (λ_ _=>rfl) (Nat.le_refl _) hm1
 refine zqm (id:=1) (a:=sel (za3 Tryz.f244) [1,0,0,1,0]) (by kernel_rfl) ?_;refine zd4 (a:=sel (za3 Tryz.f244) [1,0,0,1,0,0]) (b:=sel (za3 Tryz.f244) [1,0,0,1,0,1]) (by kernel_rfl) ?_;refine zd3 mixed (zc1 (zej (zc1 (zej zd6)))) (zsk ..) ?_;refine ldM (v:=bv) ?_ hcb;refine yc5 hbv (i:=s.2) hle (λu hu hub=>?_);have hr8:zbi (l.drop s.2):=znn h8
 have huN:∀ q,u.ownBlock=some q -> q<N1∨M1 q=none:=λq _=>by
  rcases Nat.lt_or_ge q N1 with h | h
  ·exact .inl h
  ·exact .inr (hm1 q h)
 obtain ⟨r,hr⟩:∃ r,r=l.drop s.2:=⟨_,rfl⟩;rw [← hr] at hu hr8 hdl;have fin1:zck r=none -> ∀ M' N',(∀ q,q<N1 -> M' q=M1 q) -> N1≤N' -> za6 M' N' -> K (.tuple #[]) ⟨F,M',N'⟩:=λh1 M' N'=>fin M' N' (by rw [← hr]; exact h1);have h7':7≤r.length:=by omega
 have bt:∀ i (hi:i<r.length),∃ a:Nat,r[i]=(a:Int)∧a<256:=λi hi=>⟨(r[i]).toNat,by have := hr8 _ (List.getElem_mem hi); omega,by have := hr8 _ (List.getElem_mem hi); omega⟩;obtain ⟨a,ha,ha'⟩:=bt 0 (by omega);obtain ⟨b,hb1,hb'⟩:=bt 1 (by omega);obtain ⟨c,hc,hc'⟩:=bt 2 (by omega)
 have h3:r.take 3=[(a:Int),(b:Int),(c:Int)]:=by
  rw [← ha,← hb1,← hc];exact yt8 h7'
 obtain ⟨n,hn⟩:∃ n:Nat,n=(a*256+b)*2 ^ 8+c:=⟨_,rfl⟩;have hrd:(rdV (r.take 3) 0).toNat=n:=by rw [h3,yyl]; omega
 refine zd4 (a:=sel (za3 Tryz.f244) [1,0,0,1,0,1,0]) (b:=sel (za3 Tryz.f244) [1,0,0,1,0,1,1]) (by kernel_rfl) ?_;refine zd3 mixed (zc1 (zej (zc1 (zej zd6)))) (zq9 ..) ?_ (λ_=>zmg (zom (zmg (zom yb7))));obtain ⟨pb0,po0,g1,g2⟩:=zv1 hu (i:=0) (by omega);refine g1 _ _ (zg3 (g2 hu _) ?_);rw [ha];refine ya2 ha' (yj3 (k:=16) ha' (by omega) ?_);obtain ⟨pb1,po1,g3,g4⟩:=zv1 hu (i:=1) (by omega);refine g3 _ _ (zg3 (g4 hu _) ?_);rw [hb1];refine ya2 hb' (yj3 (k:=8) hb' (by omega) ?_);refine yn9 (a:=a) (c:=b*2 ^ 8) (k:=16) (by omega) (by omega) (by omega) ?_;rw [show a*2 ^ 16+b*2 ^ 8=(a*256+b)*2 ^ 8 by omega];obtain ⟨pb2,po2,g5,g6⟩:=zv1 hu (i:=2) (by omega);refine g5 _ _ (zg3 (g6 hu _) ?_);rw [hc];refine ya2 hc' (yn9 (a:=a*256+b) (c:=c) (k:=8) (by omega) (by omega) (by omega) ?_);rw [← hn];refine zd4 (a:=sel (za3 Tryz.f244) [1,0,0,1,0,1,1,0]) (b:=sel (za3 Tryz.f244) [1,0,0,1,0,1,1,1]) (by kernel_rfl) ?_;refine zd3 mixed (zc1 (zej (zc1 (zej zd6)))) (zoi ..) ?_;have hlu:zac u=some (.int .i64 (r.length:Nat)):=by obtain ⟨a,c,h,_⟩:=hu.form; rw [h]; rfl
 refine zab hlu (zcz (by omega) (by omega) (zcz (by omega) (by omega) ?_));rw [show (r.length:Int) - 3 - 4=((r.length - 7:Nat):Int) by omega];refine yr4 (a:=60000) ?_;refine zby (λhg=>zav ?_) (λhg=>zan ?_)
 ·exact fin1 (by unfold zck; rw [if_neg (by omega),hrd,if_pos (by omega)]) M1 N1 (λ_ _=>rfl) (Nat.le_refl _) hm1
 have hn1:n≤60000∧n+7≤r.length:=by omega
 refine zd4 (a:=sel (za3 Tryz.f244) [1,0,0,1,0,1,1,1,0]) (b:=sel (za3 Tryz.f244) [1,0,0,1,0,1,1,1,1]) (by kernel_rfl) ?_;refine zd3 mixed (zc1 (zej (zc1 (zej zd6)))) (zn4 ..) ?_;refine zkc (a:=3) (by omega) ?_;refine zd4 (a:=sel (za3 Tryz.f244) [1,0,0,1,0,1,1,1,1,0]) (b:=sel (za3 Tryz.f244) [1,0,0,1,0,1,1,1,1,1]) (by kernel_rfl) ?_;refine zd3 mixed (zc1 (zej (zc1 (zej zd6)))) (zlh ..) ?_ (λ_=>zmg (zom (zmg (zom yb7))));refine ys8 hu (j:=3+n) (by omega) (λw hw1 _=>?_);refine zkc (b:=4) (by omega) ?_;refine yh0 hu (i:=3+n) (j:=3+n+4) (by omega) (by omega) (λt ht _=>?_);rw [show 3+n+4 - (3+n)=4 by omega] at ht;obtain ⟨wa,wc,rfl,_⟩:=hw1.form;refine zd7 (cs:=[.slice wa (r.take (3+n)).length wc]) (by kernel_rfl) (λb1 hb1=>?_)
 have hts:zm9 F (upd M1 b1 (some (.cells 44 [.slice wa (r.take (3+n)).length wc] 1))) (.slice (some ⟨b1,0,none⟩) 1 1) [r.take (3+n)] :=
  ⟨[.slice wa (r.take (3+n)).length wc],⟨rfl,.inr ⟨b1,0,1,_,rfl,Nat.le_refl _,.inr ⟨_,_,za2 _ _ _⟩,rfl⟩⟩,(zg0.nil (λ(u:Value) (t:List Int)=>sR F (upd M1 b1 (some (.cells 44 [.slice wa (r.take (3+n)).length wc] 1))) 1 u t.length (bts t))).snoc (hw1.new hm1 hb1)⟩
 have hm2:za6 (upd M1 b1 (some (.cells 44 [.slice wa (r.take (3+n)).length wc] 1))) (b1+1):=hm1.new hb1 _;have hM2:∀ q,q<N1 -> upd M1 b1 (some (.cells 44 [.slice wa (r.take (3+n)).length wc] 1)) q=M1 q:=λq hq=>za4 _ _ (by omega);simp only [List.length_cons,List.length_nil,Nat.zero_add];generalize upd M1 b1 _=M2 at *;refine ync hts (by simp only [List.mem_cons,List.not_mem_nil,or_false]; rintro _ rfl; exact znx hr8) (by simp only [List.mem_cons,List.not_mem_nil,or_false]; rintro _ rfl; simp only [List.length_take]; omega) (by simp) (λN2 hN2 hw2=>?_);rw [show [r.take (3+n)].flatten=r.take (3+n) by simp];refine zy6 (size:=4) (by omega) (λz M3 N3 hz hM3 hN3 hm3 hw3=>?_);have hM3':∀ q,q<N1 -> M3 q=M1 q:=λq hq=>(hM3 q (by omega)).trans (hM2 q hq);have ht3:sR F M3 1 t ((r.drop (3+n)).take 4).length (bts ((r.drop (3+n)).take 4)):=zfn hm1 ht hM3';have hz':=hz.rd (F:=F);rw [← zaa (zlb (r.take (3+n))) 4] at hz';refine yfw hz' ht3 (zdd _ _) (znx (znn hr8)) (λhw4=>?_)
 have hf1:zck r=if zam (zlb (r.take (3+n))) 4=(r.drop (3+n)).take 4 then some ((r.drop 3).take n) else none:=by
  unfold zck; rw [if_neg (by omega),hrd,if_neg (by omega)]
 by_cases he:zam (zlb (r.take (3+n))) 4=(r.drop (3+n)).take 4
 rotate_left
 ·rw [decide_eq_false he];refine zab rfl (zav ?_);exact fin1 (by rw [hf1,if_neg he]) M3 N3 hM3' (by omega) hm3
 rw [decide_eq_true he];rw [if_pos he] at hf1;refine zab rfl (zan ?_);refine zd4 (a:=sel (za3 Tryz.f244) [1,0,0,1,0,1,1,1,1,1,0]) (b:=sel (za3 Tryz.f244) [1,0,0,1,0,1,1,1,1,1,1]) (by kernel_rfl) ?_;refine zd3 mixed (zc1 (zej (zc1 (zej zd6)))) (zkt ..) ?_;refine zkc (a:=3+n) (b:=4) (by omega) (zkc (a:=s.2) (b:=3+n+4) (by omega) ?_);refine zd4 (a:=sel (za3 Tryz.f244) [1,0,0,1,0,1,1,1,1,1,1,0]) (b:=sel (za3 Tryz.f244) [1,0,0,1,0,1,1,1,1,1,1,1]) (by kernel_rfl) ?_;refine yl6 (id:=8) (by kernel_rfl) (zc1 (zej (zc1 (zej zd6)))) (zju ..) ?_;have hu3:sR F M3 1 u r.length (bts r):=zfn hm1 hu hM3';refine yh0 hu3 (i:=3) (j:=3+n) (by omega) (by omega) (λx hx _=>?_);rw [show 3+n - 3=n by omega] at hx;have hxl:((r.drop 3).take n).length=n:=by simp only [List.length_take,List.length_drop]; omega
 refine yaw hx (by omega) (λv M4 N4 hv4 hM4 hN4 hm4 hw5=>?_);have hM4':∀ q,q<N1 -> M4 q=M1 q:=λq hq=>(hM4 q (by omega)).trans (hM3' q hq);rw [show s.2+(3+n+4)=s.2+(((r.drop 3).take n).length+7) by omega];refine hy s.1 s.2 M4 N4 ((r.drop 3).take n) v _ (hs _ _ _ _ _ _ hI1 hm1 hM4' (by omega) hm4) hm4 (hv4.keep (λ_ _=>rfl) (by omega)) (znx (znn hr8)) (by omega) (λM5 N5 hI5 hm5 hN5=>?_);refine zab rfl ?_;refine zd3 mixed (zej (zc1 (zej zd6))) (zjw ..) ?_;refine zan ?_;refine ⟨rfl,(s.1++[(r.drop 3).take n],s.2+(((r.drop 3).take n).length+7)),_,ysj (mk:=λj=>zfy (.func (.yield y) #[] #[]) (.pointer (some ⟨cb,0,none⟩)) undef _ j) (by kernel_rfl),?_,?_⟩
 ·simp only; omega
 ·exact λhw6=>⟨_,za0 hw6,M5,N5,rfl,hI5,hm5,ztv hch (by rw [← hr]; exact hf1),by simp only; omega⟩
theorem zh8 {P:Program} {c:Code} {Q:QD} {env:Env} {h:Hp} {X:Hp -> Prop} (ht:den P c Q env=X) (hd:X h):den P c Q env h:=ht ▸ hd
theorem ypr {a:Option Addr} {n c:Nat} (k:∀ b,N≤b -> (Hp.mk F (upd M b (some (.cells 44 [.slice a n c] 1))) (b+1)).wf -> K (.func (.func 244) #[] #[.pointer (some ⟨b,0,none⟩)]) ⟨F,upd M b (some (.cells 44 [.slice a n c] 1)),b+1⟩) :
  cF 183 #[.slice a n c] K E ⟨F,M,N⟩:=by
 refine za5 mixed Tryz.func183 (by kernel_rfl) (yvq _ E _) (λhw=>?_);refine zar (cs:=[.slice a n c]) (λb hb=>?_);exact λhc=>⟨_,za0 hc,k b hb⟩
structure scI (F:Nat -> Option (List Value)) (M0:Nat -> Option zah) (N0 ob eb cb D:Nat) (v:Value) (rec:Loop) (xs:List (List Int)) (e:Nat) (M:Nat -> Option zah) (N:Nat) (ov:Value) (us:List Value):Prop where
 n:D+2≤N
 k:xs.length≤e
 d:M D=some (.obj (.deferred (some [])))
 l:M (D+1)=some (.obj (.loop rec))
 o:M ob=some (.cells 233 [ov] 1)
 e:M eb=some (.cells 3 [.int .i64 (e:Nat)] 1)
 c:M cb=some (.cells 44 [v] 1)
 m:∀ q,q<N0 -> M q=M0 q
 w:own M (D+2) 44 1 ov xs.length us
 a:zg0 (λu t=>own M (D+2) 5 1 u t.length (bts t)) us xs
theorem yr0 {B1 B2:Nat} {e1 e2:TypeId} {s1 s2 n1 n2:Nat} {u v:Value} {c1 c2:List Value} (h1:own M B1 e1 s1 u n1 c1) (h2:own M B2 e2 s2 v n2 c2) (hne:e1≠e2) (q:Nat) (hq:u.ownBlock=some q):v.ownBlock≠some q:=by
 intro hv
 rcases h1.2 with ⟨rfl,_⟩ | ⟨b,c,r,rfl,_,_,_,g1⟩
 ·simp [Value.ownBlock] at hq
 ·rcases h2.2 with ⟨rfl,_⟩ | ⟨b',c',r',rfl,_,_,_,g2⟩
  ·simp [Value.ownBlock] at hv
  ·simp only [Value.ownBlock,Option.some.injEq] at hq hv;subst hq; subst hv;rw [g1] at g2;simp only [Option.some.injEq,zah.cells.injEq] at g2;exact hne g2.1
def ypv (F:Nat -> Option (List Value)) (M:Nat -> Option zah) (B:Nat) (v:Value) (ts:List (List Int)):Prop:=∃ us,sR F M 1 v ts.length us∧zg0 (λu t=>own M B 5 1 u t.length (bts t)) us ts
theorem ysn {F0:Nat -> Option (List Value)} {M0:Nat -> Option zah} {N0 B:Nat} {v:Value} {ts:List (List Int)} {K:Value -> zae} (hm0:za6 M0 N0) (hv:ypv F0 M0 B v ts) (hF:za9 F0 F) (hM:∀ q,q<N0 -> M q=M0 q) {i:Nat} (hi:i<ts.length) (k:∀ p u,own M0 B 5 1 u ts[i].length (bts ts[i]) -> K p u ⟨F,M,N⟩):pv (iaV none 1 v (.int .i64 (i:Nat))) (λp=>ld false 1 p (K p)) ⟨F,M,N⟩:=by
 obtain ⟨us,h1,h2⟩:=hv;obtain ⟨u,hu,hR⟩:=h2.get (List.getElem?_eq_getElem hi)
 rcases (zfn hm0 h1 hM).2 with ⟨a,c,e1,e2⟩ | ⟨b,o,c,cs,rfl,h3,h4,h5⟩
 ·omega
 refine zd0 hi (zg3 (zb6 (cs:=cs) ?_ ?_) (k _ u hR))
 ·rcases h4 with h4 | ⟨e,tot,h4⟩
  ·exact zif (hF _ _ h4)
  ·exact zbe h4
 ·rw [← h5,List.getElem?_take,List.getElem?_drop] at hu
  split at hu
  ·rw [Nat.mul_one]; exact hu
  ·cases hu
theorem yqb {v:Value} {l:List Int} (hv:sR F M 1 v l.length (bts l)) (h8:zbi l) (hl:l.length≤100000000)
  (k:∀ xs e w M' N',chain l 0 xs e -> zck (l.drop e)=none -> e≤l.length -> ypv F M' N w xs -> (∀ q,q<N -> M' q=M q) -> N≤N' -> za6 M' N' -> (Hp.mk F M' N').wf -> K (.tuple #[w,.int .i64 (e:Nat)]) ⟨F,M',N'⟩) :
  cF 130 #[v] K E ⟨F,M,N⟩:=by
 refine ztr Tryz.func130 (by kernel_rfl) (λhw=>?_);have hm:za6 M N:=hw.m;obtain ⟨va,vc,rfl,_⟩:=hv.form;refine zd4 (a:=sel (za3 Tryz.f130) [0]) (b:=sel (za3 Tryz.f130) [1]) (by kernel_rfl) ?_;refine zd3 mixed (zc1 zd6) (ysb ..) ?_;refine zd4 (a:=sel (za3 Tryz.f130) [1,0]) (b:=sel (za3 Tryz.f130) [1,1]) (by kernel_rfl) ?_;refine zd3 mixed (zc1 zd6) (yjp ..) ?_;refine zar (cs:=[.slice none 0 0]) (λob hob=>?_);refine zd4 (a:=sel (za3 Tryz.f130) [1,1,0]) (b:=sel (za3 Tryz.f130) [1,1,1]) (by kernel_rfl) ?_;refine zd3 mixed (zc1 zd6) (yej ..) ?_;refine zar (cs:=[.int .i64 0]) (λeb heb=>?_);refine stM (cs':=[.int .i64 0]) ?_ (za2 _ _ _) rfl;rw [zas];refine zd4 (a:=sel (za3 Tryz.f130) [1,1,1,0]) (b:=sel (za3 Tryz.f130) [1,1,1,1]) (by kernel_rfl) ?_;refine zd4 (a:=sel (za3 Tryz.f130) [1,1,1,0,0]) (b:=sel (za3 Tryz.f130) [1,1,1,0,1]) (by kernel_rfl) ?_;refine zd3 mixed (zc1 (zc1 zd6)) (zx3 ..) ?_;refine ypr (λcb hcb hw1=>?_);refine zqm (id:=0) (a:=sel (za3 Tryz.f130) [1,1,1,0,1,0]) (by kernel_rfl) ?_;refine yio (by kernel_rfl) (gf:=244) (first:=#[]) (lb:=#[.pointer (some ⟨cb,0,none⟩)]) rfl (by kernel_rfl) (by kernel_rfl) (λfn D hD rec hrec=>?_);have hDc:cb<D:=hD
 have hM1:∀ q,q<N -> upd (upd (upd (upd (upd M ob (some (.cells 233 [.slice none 0 0] 1))) eb (some (.cells 3 [.int .i64 0] 1))) cb (some (.cells 44 [.slice va l.length vc] 1))) D (some (.obj (.deferred (some []))))) (D+1) (some (.obj (.loop rec))) q=M q:=λq hq=>
  (za4 _ _ (by omega)).trans ((za4 _ _ (by omega)).trans ((za4 _ _ (by omega)).trans ((za4 _ _ (by omega)).trans (za4 _ _ (by omega)))))
 have hm1:za6 (upd (upd (upd (upd (upd M ob (some (.cells 233 [.slice none 0 0] 1))) eb (some (.cells 3 [.int .i64 0] 1))) cb (some (.cells 44 [.slice va l.length vc] 1))) D (some (.obj (.deferred (some []))))) (D+1) (some (.obj (.loop rec)))) (D+2) :=
  ((((hm.new hob _).new heb _).new hcb _).new hD _).new (Nat.le_refl _) _
 refine yq2 (y:=D+1) (cb:=cb) (B:=D+2) (bv:=.slice va l.length vc) (l:=l) (λxs e M' N'=>∃ ov us,scI F M N ob eb cb D (.slice va l.length vc) rec xs e M' N' ov us) ?_ ?_ ?_ h8 hl ?_ hm1 ?_
 ·rintro xs e M' N' ⟨ov,us,H⟩ _;exact ⟨H.n,H.c,zfn hm hv H.m⟩
 ·rintro xs e M' N' M'' N'' ⟨ov,us,H⟩ hm' hM hN hm'';have hn:=H.n
  exact ⟨ov,us,by omega,H.k,(hM _ (by omega)).trans H.d,(hM _ (by omega)).trans H.l,(hM _ (by omega)).trans H.o,(hM _ (by omega)).trans H.e,(hM _ (by omega)).trans H.c,λq hq=>(hM q (by omega)).trans (H.m q hq),H.w.keep (λq hq=>hM q (H.w.lt hm' q hq)),
   H.a.mono λu t h=>h.keep (λq hq=>hM q (h.lt hm' q hq))⟩
 ·rintro xs e M1 N1 x xv K1 ⟨ov,us,H⟩ hm1 hxo hx8 hxl k1;have hn:=H.n;have hlx:rec.state=.ready:=by rw [hrec]
  have hp:rec={ rec with state:=.ready,pending:=none }:=by rw [hrec]
  refine yoe (rec:=rec) H.l hlx (by rw [hrec]; kernel_rfl) (by rw [hrec]; kernel_rfl) (by rw [hrec]; kernel_rfl) ?_;have e1:rec.assign=sel (asg (sel (za3 Tryz.f130) [1,1,1,0,1,0])) []:=by rw [hrec]; rfl
  have e2:rec.body=sel (bod (sel (za3 Tryz.f130) [1,1,1,0,1,0])) []:=by rw [hrec]; rfl
  have e3:∀ a b:Value,ysc rec.tmps rec.params #[a,b] = #[.slice va l.length vc,undef,.slice none 0 0,.int .i64 0,.pointer (some ⟨ob,0,none⟩),.pointer (some ⟨eb,0,none⟩),undef,undef,.slice va l.length vc,.func (.func 244) #[] #[.pointer (some ⟨cb,0,none⟩)],a,b,undef,undef,undef,undef,undef,undef,undef]:=λa b=>by rw [hrec]; kernel_rfl
  refine zh8 ((congrArg (λc=>den Tryz.prog c _ _) e1).trans ((congrArg (λv=>den Tryz.prog _ _ v) (e3 _ _)).trans (zq2 ..))) ⟨H.l,?_⟩;refine zh8 ((congrArg (λc=>den Tryz.prog c _ _) e2).trans (zpn ..)) ?_;refine (show (_:Hp -> Prop) ⟨F,upd M1 (D+1) (some (.obj (.loop { rec with state:=.busy }))),N1⟩ from ?_);have h2:∀ q,q≠D+1 -> upd M1 (D+1) (some (.obj (.loop { rec with state:=.busy }))) q=M1 q:=λq hq=>za4 _ _ hq;have h2l:=za2 M1 (D+1) (some (.obj (.loop { rec with state:=.busy })));have hm2:za6 (upd M1 (D+1) (some (.obj (.loop { rec with state:=.busy })))) N1:=hm1.set (by omega) _;generalize upd M1 (D+1) (some (.obj (.loop { rec with state:=.busy })))=M2 at *;have hwge:=H.w.ge;obtain ⟨oa,oc,rfl,_⟩:=H.w.form;obtain ⟨xa,xc,rfl,_⟩:=hxo.form;refine ldM (v:=.slice oa xs.length oc) ?_ ((h2 ob (by omega)).trans H.o);refine zd7 (cs:=[.slice xa x.length xc]) (by kernel_rfl) (λsb hsb=>?_);have h3:∀ q,q<N1 -> q≠D+1 -> upd M2 sb (some (.cells 44 [.slice xa x.length xc] 1)) q=M1 q:=λq hq hq2=>(za4 _ _ (by omega)).trans (h2 q hq2);have h3l:upd M2 sb (some (.cells 44 [.slice xa x.length xc] 1)) (D+1)=_:=(za4 _ _ (by omega)).trans h2l;have hm3:=hm2.new hsb (some (.cells 44 [.slice xa x.length xc] 1));have hsr:sR F (upd M2 sb (some (.cells 44 [.slice xa x.length xc] 1))) 1 (.slice (some ⟨sb,0,none⟩) 1 1) 1 [.slice xa x.length xc]:=⟨rfl,.inr ⟨sb,0,1,_,rfl,Nat.le_refl _,.inr ⟨_,_,za2 _ _ _⟩,rfl⟩⟩;simp only [List.length_cons,List.length_nil,Nat.zero_add];generalize upd M2 sb _=M3 at *;have hlN:=H.w.lt hm1;have hw3:own M3 (D+2) 44 1 (.slice oa xs.length oc) xs.length us:=H.w.keep λq hq=>h3 q (hlN q hq) (by have := (hwge q hq).1; omega);have hxs:=H.k;refine hw3.app hm3 (by omega) hsr (List.all_eq_true.1 rfl) (by omega) (by unfold maxLen; omega) (λov' M4 N4 h4 hf4 hN4 hm4=>?_);have f4:∀ q,q<D+2 -> M4 q=M3 q:=λq hq=>(hf4 q (λe=>by have := (hwge q e).1; omega) (by omega)).1;have hg4:=h4.ge;obtain ⟨oa',oc',rfl,_⟩:=h4.form;refine stM (cs':=[.slice oa' (xs.length+1) oc']) ?_ ((f4 ob (by omega)).trans ((h3 ob (by omega) (by omega)).trans H.o)) rfl;refine stM (cs':=[.int .i64 ((e+(x.length+7):Nat):Int)]) ?_ ((za4 _ _ (by omega)).trans ((f4 eb (by omega)).trans ((h3 eb (by omega) (by omega)).trans H.e))) rfl;obtain ⟨M5,hM5⟩:∃ M5,M5=upd (upd M4 ob (some (.cells 233 [.slice oa' (xs.length+1) oc'] 1))) eb (some (.cells 3 [.int .i64 ((e+(x.length+7):Nat):Int)] 1)):=⟨_,rfl⟩;rw [← hM5];have h5:∀ q,q≠ob -> q≠eb -> M5 q=M4 q:=λq q1 q2=>by rw [hM5]; exact (za4 _ _ q2).trans (za4 _ _ q1)
  have h5o:M5 ob=some (.cells 233 [.slice oa' (xs.length+1) oc'] 1):=by rw [hM5]; exact (za4 _ _ (by omega)).trans (za2 _ _ _)
  have h5e:M5 eb=some (.cells 3 [.int .i64 ((e+(x.length+7):Nat):Int)] 1):=by rw [hM5]; exact za2 _ _ _
  have hm5:za6 M5 N4:=by rw [hM5]; exact (hm4.set (by omega) _).set (by omega) _
  clear hM5;refine ⟨(h5 _ (by omega) (by omega)).trans ((f4 _ (by omega)).trans h3l),?_⟩;have hp2:({ { rec with state:=.busy } with state:=.ready,pending:=none }:Loop)=rec:=by rw [hrec]
  rw [← hp];have h6:∀ q,q≠D+1 -> upd M5 (D+1) (some (.obj (.loop rec))) q=M5 q:=λq hq=>za4 _ _ hq;have h6l:=za2 M5 (D+1) (some (.obj (.loop rec)));have hm6:za6 (upd M5 (D+1) (some (.obj (.loop rec)))) N4:=hm5.set (by omega) _;refine k1 (upd M5 (D+1) (some (.obj (.loop rec)))) N4 ⟨.slice oa' (xs.length+1) oc',us++[.slice xa x.length xc],?_⟩ hm6 (by omega);generalize upd M5 (D+1) (some (.obj (.loop rec)))=M6 at *;have low:∀ q,q<D+1 -> q≠ob -> q≠eb -> M6 q=M1 q:=λq q1 q2 q3=>(h6 q (by omega)).trans ((h5 q q2 q3).trans ((f4 q (by omega)).trans (h3 q (by omega) (by omega))))
  have hel:∀ u t,own M1 (D+2) 5 1 u t.length (bts t) -> own M6 (D+2) 5 1 u t.length (bts t):=λu t h=>h.keep λq hq=>by
   have q1:=(h.ge q hq).1;have q2:=h.lt hm1 q hq;have q3:(Value.slice oa xs.length oc).ownBlock≠some q:=yr0 h H.w (by decide) q hq;exact (h6 q (by omega)).trans ((h5 q (by omega) (by omega)).trans (((hf4 q q3 (by omega)).1).trans (h3 q q2 (by omega))))
  refine ⟨by omega,by rw [List.length_append]; simp only [List.length_cons,List.length_nil]; omega,(low D (by omega) (by omega) (by omega)).trans H.d,h6l,(h6 _ (by omega)).trans h5o,(h6 _ (by omega)).trans h5e,(low cb (by omega) (by omega) (by omega)).trans H.c,λq hq=>(low q (by omega) (by omega) (by omega)).trans (H.m q hq),?_,?_⟩
  ·rw [List.length_append]
   exact h4.keep λq hq=>by
    have q1:=(hg4 q hq).1;exact (h6 q (by omega)).trans (h5 q (by omega) (by omega))
  ·exact (H.a.mono hel).snoc (hel _ _ hxo)
 ·exact ⟨.slice none 0 0,[],Nat.le_refl _,Nat.zero_le _,(za4 _ _ (by omega)).trans (za2 _ _ _),za2 _ _ _,(za4 _ _ (by omega)).trans ((za4 _ _ (by omega)).trans ((za4 _ _ (by omega)).trans ((za4 _ _ (by omega)).trans (za2 _ _ _)))),
   (za4 _ _ (by omega)).trans ((za4 _ _ (by omega)).trans ((za4 _ _ (by omega)).trans (za2 _ _ _))),(za4 _ _ (by omega)).trans ((za4 _ _ (by omega)).trans (za2 _ _ _)),hM1,own.nil,zg0.nil _⟩
 ·rintro xs e M' N' hch hfr hle ⟨ov,us,H⟩ hm';have hn:=H.n;refine ⟨rec,H.l,by rw [hrec]; simp,by rw [hrec],?_⟩;refine (show (_:Hp -> Prop) ⟨F,upd M' (D+1) (some (.obj (.loop { rec with state:=.exhausted }))),N'⟩ from ?_);have h2:∀ q,q≠D+1 -> upd M' (D+1) (some (.obj (.loop { rec with state:=.exhausted }))) q=M' q:=λq hq=>za4 _ _ hq;have hm2:za6 (upd M' (D+1) (some (.obj (.loop { rec with state:=.exhausted })))) N':=hm'.set (by omega) _;generalize upd M' (D+1) (some (.obj (.loop { rec with state:=.exhausted })))=M2 at *;refine zd3 mixed zd6 (ycw ..) ?_ (λ_=>ymb);refine ldM (v:=ov) ?_ ((h2 ob (by omega)).trans H.o);refine ldM (v:=.int .i64 (e:Nat)) ?_ ((h2 eb (by omega)).trans H.e);refine ⟨by simp,(h2 D (by omega)).trans H.d,?_⟩;refine (show (_:Hp -> Prop) ⟨F,upd M2 D (some (.obj (.deferred none))),N'⟩ from ?_);have h3:∀ q,q≠D -> upd M2 D (some (.obj (.deferred none))) q=M2 q:=λq hq=>za4 _ _ hq;have hm3:za6 (upd M2 D (some (.obj (.deferred none)))) N':=hm2.set (by omega) _;generalize upd M2 D (some (.obj (.deferred none)))=M3 at *;refine λhc=>⟨_,za0 hc,λhw'=>k xs e ov M3 N' hch hfr hle ?_ (λq hq=>(h3 q (by omega)).trans ((h2 q (by omega)).trans (H.m q hq))) (by omega) hm3 hw'⟩
  have hk:∀ {ty n u cs},own M' (D+2) ty 1 u n cs -> own M3 (D+2) ty 1 u n cs:=λh=>h.keep λq hq=>by
   have := (h.ge q hq).1;exact (h3 q (by omega)).trans (h2 q (by omega))
  exact ⟨us,(hk H.w).rd,H.a.mono λu t h=>(hk h).keep (λ_ _=>rfl) (by omega)⟩
theorem zs4 {x:List Int} (r:List Int) (hx:x.length≤60000):zck (zbg x++r)=some x:=by
 have h3:(zbg x++r).take 3=zam (x.length:Nat) 3:=by
  unfold zbg; rw [List.append_assoc]; exact List.take_left' (zaa _ _)
 have hn:(rdV ((zbg x++r).take 3) 0).toNat=x.length:=by
  rw [h3,zwk x.length (by omega),Nat.mod_eq_of_lt (by omega)]; omega
 have hpl:(zam (x.length:Nat) 3++x).length=3+x.length:=by rw [List.length_append,zaa]
 have e:zbg x++r=(zam (x.length:Nat) 3++x)++(zam (zlb (zam (x.length:Nat) 3++x)) 4++r):=by unfold zbg; simp [List.append_assoc]
 unfold zck;rw [if_neg (by rw [List.length_append,zei]; omega),hn,if_neg (by rw [List.length_append,zei]; omega)];rw [e,List.take_left' hpl,List.drop_left' hpl,List.take_left' (zaa _ _),if_pos rfl];rw [List.append_assoc,List.drop_left' (zaa _ _),List.take_left' rfl]
theorem zyo:∀ (ts:List (List Int)) (p:List Int) (xs:List (List Int)) (e:Nat),(∀ t∈ts,t.length≤60000) -> chain (p++ts.flatMap zbg) p.length xs e -> zck ((p++ts.flatMap zbg).drop e)=none -> xs=ts∧e=(p++ts.flatMap zbg).length
 | [],p,[],e,_,h,_=>by subst h; simp
 | [],p,x::xs,e,_,h,_=>by
  have := h.1
  simp [zck] at this
 | t::ts,p,[],e,ht,h,hn=>by
  subst h;rw [List.drop_left' rfl,List.flatMap_cons,zs4 _ (ht t (List.mem_cons_self ..))] at hn;cases hn
 | t::ts,p,x::xs,e,ht,h,hn=>by
  have h1:=h.1;rw [List.drop_left' rfl,List.flatMap_cons,zs4 _ (ht t (List.mem_cons_self ..))] at h1;simp only [Option.some.injEq] at h1;subst h1;have e1:p++(t::ts).flatMap zbg=(p++zbg t)++ts.flatMap zbg:=by rw [List.flatMap_cons,List.append_assoc]
  have h2:=h.2;rw [e1] at h2 hn ⊢;rw [show p.length+(t.length+7)=(p++zbg t).length by rw [List.length_append,zei]] at h2;obtain ⟨g1,g2⟩:=zyo ts (p++zbg t) xs e (λu hu=>ht u (List.mem_cons_of_mem _ hu)) h2 hn;exact ⟨by rw [g1],g2⟩
theorem ybt {ts:List (List Int)} {xs:List (List Int)} {e:Nat} (ht:∀ t∈ts,t.length≤60000) (h:chain (ts.flatMap zbg) 0 xs e) (hn:zck ((ts.flatMap zbg).drop e)=none):xs=ts∧e=(ts.flatMap zbg).length :=
 zyo ts [] xs e ht h hn
theorem ynm {m:zaj} (h:0≤m.kind∧m.kind<256):zbi (zbw m):=λy hy=>by
 rcases List.mem_cons.1 hy with rfl | hy
 ·exact h
 ·exact znm _ y hy
theorem yk8 {m:zaj} (h:zbz m=true) (t:m.typ) (hl:(zag (zb7 m)).length≤60000):zn2 (zbw m)=some m:=by
 have hs:zbv (zb7 m)=true:=by
  unfold zbz at h; simp only [Bool.and_eq_true] at h; exact h.2.2.2
 have hw:zg6 m.kind (zb7 m)=m:=rfl;unfold zn2 zbw;simp only [yb5 hs (zsq t)];rw [hw,if_pos ⟨h,hl,rfl⟩]
theorem ydk {r:zaj} (h0:0≤r.kind) (h1:r.kind<256):∃ q,rd 1 (zag r)=some (r.kind,q):=by
 unfold zag;exact ⟨_,zhd (by omega) h0 (by omega) _⟩
theorem zrw (x:Int):0≤zcf x∧zcf x<256:=by unfold zcf; repeat' split; all_goals omega
theorem ym5 (m:zaj):∀ x r,rd 1 ((zbw m).drop 1)=some (x,r) -> x≠6:=λx r h=>by
 have:(zbw m).drop 1=zag (zb7 m):=rfl;rw [this] at h;obtain ⟨q,hq⟩:=ydk (r:=zb7 m) (zrw m.kind).1 (zrw m.kind).2;rw [hq] at h;simp only [Option.some.injEq,Prod.mk.injEq] at h;rw [← h.1]; exact zj0 _
end Go.Proofs.YtlhlhpgjnjjhnaaGreatDoor.A
