import Derived.Test.YtlhlhpgjnjjhnaaGreatDoorZ5
import Derived.Test.YtlhlhpgjnjjhnaaGreatDoorZ3
set_option maxHeartbeats 16000000
set_option maxRecDepth 20000
open Go Go.RowKit Go.Proofs.YtlhlhpgjnjjhnaaGreatDoor.K Go.Proofs.YtlhlhpgjnjjhnaaGreatDoor.T
set_option linter.unusedVariables false
set_option linter.unusedSimpArgs false
namespace Go.Proofs.YtlhlhpgjnjjhnaaGreatDoor.A
variable {F F':Nat -> Option (List Value)} {M M':Nat -> Option zah} {N N':Nat} {K:zae} {E:zb2}
abbrev zc5 (M:Nat -> Option zah) (B p:Nat) (v:Value) (bs:List Int) (lasts room left:Int):Prop:=zbf M B p 118 [.int .i64 lasts,.int .i64 room,.int .i64 left] 6 v bs
theorem yi0 {room:Int} (h0:0≤room) (h1:room≤1048576) (k:∀ p M',N≤p -> zc5 M' (p+1) p (.slice none 0 0) [] 0 room (-1) -> (∀ q,q<N -> M' q=M q) -> za6 M' (p+1) -> (Hp.mk F M' (p+1)).wf -> K (.pointer (some ⟨p,0,none⟩)) ⟨F,M',p+1⟩) :
  cF 11 #[.int .i64 room] K E ⟨F,M,N⟩:=by
 refine za5 mixed Tryz.func11 (by kernel_rfl) (t11 _ E _) (λhw=>?_);have hm:za6 M N:=hw.m;refine zkd (by omega) ?_;try simp only [sS]
 refine zqz (by omega) ?_;try simp only [sS]
 refine zab (v:=.agg #[.slice none 0 0,.int .i64 0,.int .i8 0,.int .i64 0,.int .i64 room,.int .i64 (-1)]) (by kernel_rfl) ?_;refine zar (cs:=[.slice none 0 0,.int .i64 0,.int .i8 0,.int .i64 0,.int .i64 room,.int .i64 (-1)]) (λp hp=>?_);exact λhc=>⟨_,za0 hc,λhw'=>k p _ hp ⟨⟨0,za2 _ _ _⟩,own.nil,by simp [Value.ownBlock],by simp⟩ (λq hq=>za4 _ _ (by omega)) (hm.new hp _) hw'⟩
section
variable {B p:Nat} {v:Value} {bs:List Int} {lasts room left:Int}
theorem ydm {fv:Value} (P:zc5 M B p v bs lasts room (-1)) (k:zbq Tryz.prog fv #[] K E ⟨F,M,N⟩) :
  cF 132 #[.pointer (some ⟨p,0,none⟩),fv] K E ⟨F,M,N⟩:=by
 refine za5 mixed Tryz.func132 (by kernel_rfl) (yxu _ E _ _) (λhw=>?_);obtain ⟨lr,hp⟩:=P.pp;try simp only [sS]
 refine ldM (v:=.int .i64 (-1)) ?_ hp;refine zbo (by omega) ?_;try simp only [sS]
 refine ldM (v:=.int .i64 (-1)) ?_ hp;refine zqz (by omega) ?_;try simp only [sS]
 rw [yll];exact yjg k (λv h' hw' hk=>λhc=>⟨_,za0 hc,λ_=>hk⟩) (λc h' he=>he)
theorem zbf.frame {e:TypeId} {post:List Value} {tot:Nat} (P:zbf M B p e post tot v bs) (hm:za6 M N) (hM:∀ q,q<N -> M' q=M q):zbf M' B p e post tot v bs:=by
 obtain ⟨lr,hp⟩:=P.pp;exact ⟨⟨lr,(hM p (hm.lt hp)).trans hp⟩,P.ow.keep (λq hq=>hM q (P.ow.lt hm q hq)) (Nat.le_refl _),P.ne,P.bl⟩
theorem yii {x:Value} {ys:List Int} (P:zc5 M B p v bs lasts room (-1)) (hB:B≤N) (hr0:0≤room) (hr:room≤2097152) (hx:sR F M 1 x ys.length (bts ys)) (hxo:∀ q,x.ownBlock=some q -> v.ownBlock≠some q∧q≠p∧q<N) (hy:0<ys.length) (hyl:ys.length≤2097152)
  (k0:¬ (bs.length:Int)+(ys.length:Nat)≤room -> ∀ M' N',zc5 M' B p v bs lasts room (-1) -> (∀ q,q<N -> M' q=M q) -> N≤N' -> za6 M' N' -> (Hp.mk F M' N').wf -> K (.int .u16 100) ⟨F,M',N'⟩)
  (k1:(bs.length:Int)+(ys.length:Nat)≤room -> ∀ v' M' N',zc5 M' B p v' (bs++ys) lasts room (-1) -> bfr M M' N p v v' -> N≤N' -> za6 M' N' -> (Hp.mk F M' N').wf -> K (.int .u16 0) ⟨F,M',N'⟩) :
  cF 146 #[.pointer (some ⟨p,0,none⟩),x] K E ⟨F,M,N⟩:=by
 refine za5 mixed Tryz.func146 (by kernel_rfl) (yxa _ E _ _) (λhw=>?_);have hm:za6 M N:=hw.m;obtain ⟨xa,xc,rfl,_⟩:=hx.form;refine zar (cs:=[.pointer (some ⟨p,0,none⟩)]) (λb1 hb1=>?_);refine zar (cs:=[.slice xa ys.length xc]) (λb2 hb2=>?_);have h1:upd (upd M b1 (some (.cells 29 [.pointer (some ⟨p,0,none⟩)] 1))) b2 (some (.cells 44 [.slice xa ys.length xc] 1)) b1=some (.cells 29 [.pointer (some ⟨p,0,none⟩)] 1):=(za4 _ _ (by omega)).trans (za2 _ _ _);have h2:upd (upd M b1 (some (.cells 29 [.pointer (some ⟨p,0,none⟩)] 1))) b2 (some (.cells 44 [.slice xa ys.length xc] 1)) b2=some (.cells 44 [.slice xa ys.length xc] 1):=za2 _ _ _;have hM1:∀ q,q<N -> upd (upd M b1 (some (.cells 29 [.pointer (some ⟨p,0,none⟩)] 1))) b2 (some (.cells 44 [.slice xa ys.length xc] 1)) q=M q:=λq hq=>(za4 _ _ (by omega)).trans (za4 _ _ (by omega));have hm1:za6 (upd (upd M b1 (some (.cells 29 [.pointer (some ⟨p,0,none⟩)] 1))) b2 (some (.cells 44 [.slice xa ys.length xc] 1))) (b2+1):=(hm.new hb1 _).new hb2 _;simp only [List.length_cons,List.length_nil,Nat.zero_add];generalize upd (upd M b1 _) b2 _=M1 at *;have P1:=zbf.frame P hm hM1;have hx1:=zfn hm hx hM1;refine ldM (v:=.pointer (some ⟨p,0,none⟩)) ?_ h1;refine ydm P1 ?_;refine za5 mixed Tryz.func203 (by kernel_rfl) (yvn _ E _ _) (λhw1=>?_);obtain ⟨lr,hp⟩:=P1.pp;have hbl:=P1.bl;refine ldM (v:=.slice xa ys.length xc) ?_ h2;try simp only [sS]
 refine ldM (v:=.pointer (some ⟨p,0,none⟩)) ?_ h1;try simp only [sS]
 refine ldM (v:=.int .i64 room) ?_ hp;refine ldM (v:=.pointer (some ⟨p,0,none⟩)) ?_ h1;try simp only [sS]
 refine zla P1 (λhw2=>?_);refine ⟨zb6 (zbe hp) rfl,zb6 (zbe h1) rfl,zb6 (zbe h2) rfl,?_⟩;refine zcz (by omega) (by omega) ?_;refine zby (λhg=>zav ?_) (λhg=>zan ?_)
 ·exact λhc=>⟨_,za0 hc,λhw'=>λhc=>⟨_,za0 hc,λhw'=>k0 (by omega) M1 _ P1 hM1 (by omega) hm1 hw'⟩⟩
 refine ldM (v:=.pointer (some ⟨p,0,none⟩)) ?_ h1;try simp only [sS]
 refine ldM (v:=.slice xa ys.length xc) ?_ h2;refine ym8 P1 hm1 (by omega) hx1 (λq hq=>⟨(hxo q hq).1,(hxo q hq).2.1,by have := (hxo q hq).2.2; omega⟩) hy (by omega) (λv' M2 N2 P2 hf2 hN2 hm2 hw3=>?_)
 ·refine λhc=>⟨_,za0 hc,λhw'=>λhc=>⟨_,za0 hc,λhw'=>k1 (by omega) v' M2 N2 P2 (λq q1 q2 q3=>?_) (by omega) hm2 hw'⟩⟩;exact ⟨((hf2 q q1 q2 (by omega)).1).trans (hM1 q q3),(hf2 q q1 q2 (by omega)).2⟩
theorem yeh (P:zc5 M B p v bs lasts room (-1))
  (k:∀ M' N',zc5 M' B p v bs (bs.length:Nat) room (-1) -> bfr M M' N p v v -> N≤N' -> za6 M' N' -> (Hp.mk F M' N').wf -> K (.int .u16 0) ⟨F,M',N'⟩) :
  cF 90 #[.pointer (some ⟨p,0,none⟩)] K E ⟨F,M,N⟩:=by
 refine za5 mixed Tryz.func90 (by kernel_rfl) (t90 _ E _) (λhw=>?_);have hm:za6 M N:=hw.m;refine zar (cs:=[.pointer (some ⟨p,0,none⟩)]) (λb1 hb1=>?_);have h1:=za2 M b1 (some (.cells 29 [.pointer (some ⟨p,0,none⟩)] 1));have hM1:∀ q,q<N -> upd M b1 (some (.cells 29 [.pointer (some ⟨p,0,none⟩)] 1)) q=M q:=λq hq=>za4 _ _ (by omega);have hm1:=hm.new hb1 (some (.cells 29 [.pointer (some ⟨p,0,none⟩)] 1));simp only [List.length_cons,List.length_nil,Nat.zero_add];generalize upd M b1 _=M1 at *;have P1:=zbf.frame P hm hM1;refine ldM (v:=.pointer (some ⟨p,0,none⟩)) ?_ h1;refine ydm P1 ?_;refine za5 mixed Tryz.func134 (by kernel_rfl) (yvf _ E _) (λhw1=>?_);obtain ⟨lr,hp⟩:=P1.pp;refine ldM (v:=.pointer (some ⟨p,0,none⟩)) ?_ h1;refine ldM (v:=.pointer (some ⟨p,0,none⟩)) ?_ h1;try simp only [sS]
 refine zla P1 (λhw2=>?_);refine ⟨zb6 (zbe h1) rfl,?_⟩;try simp only [sS]
 refine stM (cs':=v :: .int .i64 0 :: .int .i8 lr::[.int .i64 (bs.length:Nat),.int .i64 room,.int .i64 (-1)]) ?_ hp rfl;have hpN:=hm1.lt hp
 have P2:zc5 (upd M1 p (some (.cells 118 (v :: .int .i64 0 :: .int .i8 lr::[.int .i64 (bs.length:Nat),.int .i64 room,.int .i64 (-1)]) 6))) B p v bs (bs.length:Nat) room (-1) :=
  ⟨⟨lr,za2 _ _ _⟩,P1.ow.keep (λq hq=>za4 _ _ (λe=>P1.ne (by rw [← e]; exact hq))) (Nat.le_refl _),P1.ne,P1.bl⟩
 exact λhc=>⟨_,za0 hc,λhw'=>λhc=>⟨_,za0 hc,λhw'=>k _ _ P2 (λq q1 q2 q3=>⟨(za4 _ _ q1).trans (hM1 q q3),q2⟩) (by omega) (hm1.set hpN _) hw'⟩⟩
theorem ye1 (P:zc5 M B p v bs lasts room left) (k:∀ w M' N',own M' N 5 1 w bs.length (bts bs) -> (∀ q,q<N -> M' q=M q) -> N≤N' -> za6 M' N' -> (Hp.mk F M' N').wf -> K w ⟨F,M',N'⟩) :
  cF 33 #[.pointer (some ⟨p,0,none⟩)] K E ⟨F,M,N⟩:=by
 refine za5 mixed Tryz.func33 (by kernel_rfl) (t33 _ E _) (λhw=>?_);try simp only [sS]
 refine ya5 P (λhw1=>?_);refine yaw P.ow.rd (by have := P.bl; omega) (λw M' N' h1 h2 h3 h4 h5=>?_);exact λhc=>⟨_,za0 hc,k w M' N' h1 h2 h3 h4⟩
end
theorem yj5 {a b:Int} {h:Hp} (k:K (.int .i64 (min a b)) h):pv (mm false (.int .i64 a) (.int .i64 b)) K h:=by
 refine ⟨_,rfl,?_⟩;have:(if b<a then b else a)=min a b:=by split<;>omega
 show K (.int .i64 (if b<a then b else a)) h;rw [this]; exact k
theorem yri {a b:Int} {h:Hp} (k:K (.int .i64 (max a b)) h):pv (mm true (.int .i64 a) (.int .i64 b)) K h:=by
 refine ⟨_,rfl,?_⟩;have:(if b>a then b else a)=max a b:=by split<;>omega
 show K (.int .i64 (if b>a then b else a)) h;rw [this]; exact k
theorem own.pre {B:Nat} {e:TypeId} {v:Value} {cs:List Value} {n m:Nat} (h:own M B e 1 v n cs) (hm:m≤n):∃ v',(∀ (K:zae) (h':Hp),K v' h' -> pv (slV 1 v none (some (.int .i64 (m:Nat))) none) K h')∧own M B e 1 v' m (cs.take m)∧v'.ownBlock=v.ownBlock:=by
 have hl:=h.1
 rcases h.2 with ⟨rfl,h0⟩ | ⟨b,c,rest,rfl,h1,h2,h3,h4⟩
 ·obtain rfl:m=0:=by omega
  exact ⟨.slice none 0 0,λK h' k=>zny 0 0 0 (Nat.le_refl _) (Nat.le_refl _) (Nat.le_refl _) k,by simpa using own.nil,rfl⟩
 ·refine ⟨.slice (some ⟨b,0,none⟩) m c,λK h' k=>zh7 m (by omega) k,⟨by rw [List.length_take]; omega,.inr ⟨b,c,cs.drop m++rest,rfl,by omega,h2,h3,?_⟩⟩,rfl⟩;rw [← List.append_assoc,List.take_append_drop]; exact h4
section
variable {B p tot:Nat} {e:TypeId} {post:List Value} {v:Value} {bs:List Int}
theorem ylj (l:List Int) (n:Nat):(bts l).take n=bts (l.take n):=by simp [bts]
theorem yje (P:zbf M B p e post tot v bs) (hpl:post.length=3) (k:∀ v' M',zbf M' B p e post tot v' [] -> v'.ownBlock=v.ownBlock -> (∀ q,q≠p -> M' q=M q) -> za6 M' N -> (Hp.mk F M' N).wf -> K (.tuple #[]) ⟨F,M',N⟩) :
  cF 162 #[.pointer (some ⟨p,0,none⟩)] K E ⟨F,M,N⟩:=by
 refine za5 mixed Tryz.func162 (by kernel_rfl) (yyt _ E _) (λhw=>?_);have hm:za6 M N:=hw.m;obtain ⟨lr,hp⟩:=P.pp;obtain ⟨v',g1,g2,g3⟩:=P.ow.pre (m:=0) (Nat.zero_le _);have hone:=g2.one
 match post,hpl with
 | [p0,p1,p2],_=>
 try simp only [sS]
 refine ldM (v:=v) ?_ hp;refine g1 _ _ ?_;try simp only [sS]
 obtain ⟨va,vc,rfl,_⟩:=g2.form;refine stM (cs':=[.slice va 0 vc,.int .i64 0,.int .i8 lr,p0,p1,p2]) ?_ hp rfl;try simp only [sS]
 refine stM (cs':=[.slice va 0 vc,.int .i64 0,.int .i8 lr,p0,p1,p2]) ?_ (za2 _ _ _) rfl;try simp only [sS]
 refine stM (cs':=[.slice va 0 vc,.int .i64 0,.int .i8 0,p0,p1,p2]) ?_ (za2 _ _ _) rfl;rw [zas,zas];refine λhc=>⟨_,za0 hc,λhw'=>k _ _ ⟨⟨0,za2 _ _ _⟩,?_,by rw [g3]; exact P.ne,by simp⟩ g3 (λq hq=>za4 _ _ hq) (hm.set (hm.lt hp) _) hw'⟩;exact (show own M B 5 1 (.slice va 0 vc) 0 [] by simpa using g2).keep (λq hq=>za4 _ _ (λe=>P.ne (by rw [← e,← g3]; exact hq))) (Nat.le_refl _)
theorem yk6 {n:Nat} (P:zbf M B p e post tot v bs) (hpl:post.length=3) (hn:n≤bs.length) (k:∀ v' M',zbf M' B p e post tot v' (bs.take n) -> v'.ownBlock=v.ownBlock -> (∀ q,q≠p -> M' q=M q) -> za6 M' N -> (Hp.mk F M' N).wf -> K (.tuple #[]) ⟨F,M',N⟩) :
  cF 116 #[.pointer (some ⟨p,0,none⟩),.int .i64 (n:Nat)] K E ⟨F,M,N⟩:=by
 refine za5 mixed Tryz.func116 (by kernel_rfl) (yya _ E _ _) (λhw=>?_);have hm:za6 M N:=hw.m;have hbl:=P.bl;refine zat (λh0=>zav ?_) (λh0=>zan ?_)
 ·obtain rfl:n=0:=by omega
  refine yje P hpl (λv' M' h1 h2 h3 h4 h5=>?_);exact λhc=>⟨_,za0 hc,k v' M' (by simpa using h1) h2 h3 h4⟩
 obtain ⟨lr,hp⟩:=P.pp;have hpN:=hm.lt hp
 match post,hpl with
 | [p0,p1,p2],_=>
 obtain ⟨va,vc,rfl,_⟩:=P.ow.form;try simp only [sS]
 refine stM (cs':=[.slice va bs.length vc,.int .i64 0,.int .i8 0,p0,p1,p2]) ?_ hp rfl
 have P1:zbf (upd M p (some (.cells e [.slice va bs.length vc,.int .i64 0,.int .i8 0,p0,p1,p2] tot))) B p e [p0,p1,p2] tot (.slice va bs.length vc) bs :=
  ⟨⟨0,za2 _ _ _⟩,P.ow.keep (λq hq=>za4 _ _ (λe=>P.ne (by rw [← e]; exact hq))) (Nat.le_refl _),P.ne,P.bl⟩
 have hM1:∀ q,q≠p -> upd M p (some (.cells e [.slice va bs.length vc,.int .i64 0,.int .i8 0,p0,p1,p2] tot)) q=M q:=λq hq=>za4 _ _ hq;have hp1:=za2 M p (some (.cells e [.slice va bs.length vc,.int .i64 0,.int .i8 0,p0,p1,p2] tot));have hm1:za6 (upd M p (some (.cells e [.slice va bs.length vc,.int .i64 0,.int .i8 0,p0,p1,p2] tot))) N:=hm.set hpN _;generalize upd M p _=M1 at *;refine zkd (by omega) ?_;try simp only [sS]
 refine zla P1 (λhw2=>?_);refine zqz (by omega) ?_;try simp only [sS]
 rw [ygd];obtain ⟨v',g1,g2,g3⟩:=P1.ow.pre (m:=n) hn;try simp only [sS]
 refine ldM (v:=.slice va bs.length vc) ?_ hp1;try simp only [sS]
 refine ldM (v:=.int .i64 0) ?_ hp1;refine zmj (by omega) (by omega) ?_;rw [Int.zero_add];refine g1 _ _ ?_;obtain ⟨wa,wc,rfl,_⟩:=g2.form;try simp only [sS]
 refine stM (cs':=[.slice wa n wc,.int .i64 0,.int .i8 0,p0,p1,p2]) ?_ hp1 rfl;have hl:(bs.take n).length=n:=by rw [List.length_take]; omega
 refine λhc=>⟨_,za0 hc,λhw'=>k _ _ ⟨⟨0,za2 _ _ _⟩,?_,by rw [g3]; exact P1.ne,by rw [hl]; omega⟩ g3 (λq hq=>(za4 _ _ hq).trans (hM1 q hq)) (hm1.set hpN _) hw'⟩;rw [hl,← ylj];exact g2.keep (λq hq=>za4 _ _ (λe=>P1.ne (by rw [← e,← g3]; exact hq))) (Nat.le_refl _)
end
section
variable {B p:Nat} {v:Value} {bs:List Int} {lasts room left:Int}
theorem ylm {n:Nat} (P:zc5 M B p v bs lasts room left) (hn:n≤bs.length) (k:∀ v' M',zc5 M' B p v' (bs.take n) (min lasts (n:Nat)) room left -> v'.ownBlock=v.ownBlock -> (∀ q,q≠p -> M' q=M q) -> za6 M' N -> (Hp.mk F M' N).wf -> K (.tuple #[]) ⟨F,M',N⟩) :
  cF 66 #[.pointer (some ⟨p,0,none⟩),.int .i64 (n:Nat)] K E ⟨F,M,N⟩:=by
 refine za5 mixed Tryz.func66 (by kernel_rfl) (t66 _ E _ _) (λhw=>?_);have hm:za6 M N:=hw.m;try simp only [sS]
 refine yk6 P rfl hn (λv' M' P' h2 h3 h4 hw2=>?_);obtain ⟨lr,hp⟩:=P'.pp;obtain ⟨va,vc,rfl,_⟩:=P'.ow.form;try simp only [sS]
 refine ldM (v:=.int .i64 lasts) ?_ hp;refine yj5 ?_;try simp only [sS]
 refine stM (cs':=[.slice va (bs.take n).length vc,.int .i64 0,.int .i8 lr,.int .i64 (min lasts (n:Nat)),.int .i64 room,.int .i64 left]) ?_ hp rfl;refine λhc=>⟨_,za0 hc,λhw'=>k _ _ ⟨⟨lr,za2 _ _ _⟩,P'.ow.keep (λq hq=>za4 _ _ (λe=>P'.ne (by rw [← e]; exact hq))) (Nat.le_refl _),P'.ne,P'.bl⟩ h2 (λq hq=>(za4 _ _ hq).trans (h3 q hq)) (h4.set (h4.lt hp) _) hw'⟩
theorem ymt {keep:Int} {n:Nat} (P:zc5 M B p v bs lasts room left) (h0:0≤lasts) (h1:lasts≤bs.length) (hn:(n:Int)=lasts+min (max keep 0) (bs.length - lasts))
  (k:∀ v' M',zc5 M' B p v' (bs.take n) (n:Nat) room (-1) -> v'.ownBlock=v.ownBlock -> (∀ q,q≠p -> M' q=M q) -> za6 M' N -> (Hp.mk F M' N).wf -> K (.tuple #[]) ⟨F,M',N⟩) :
  cF 27 #[.pointer (some ⟨p,0,none⟩),.int .i64 keep] K E ⟨F,M,N⟩:=by
 refine za5 mixed Tryz.func27 (by kernel_rfl) (t27 _ E _ _) (λhw=>?_);have hbl:=P.bl;obtain ⟨lr,hp⟩:=P.pp;refine yri ?_;try simp only [sS]
 refine ldM (v:=.int .i64 lasts) ?_ hp;refine zla P (λhw1=>?_);refine ⟨zb6 (zbe hp) rfl,?_⟩;refine zcz (by omega) (by omega) (yj5 ?_);try simp only [sS]
 refine ldM (v:=.int .i64 lasts) ?_ hp;refine zmj (by omega) (by omega) ?_;rw [← hn];have hnl:n≤bs.length:=by omega
 refine ylm P hnl (λv' M' P' g1 g2 g3 hw2=>?_);have hl:(bs.take n).length=n:=by rw [List.length_take]; omega
 try simp only [sS]
 refine zla P' (λhw3=>?_);rw [hl];obtain ⟨lr',hp'⟩:=P'.pp;obtain ⟨va,vc,rfl,_⟩:=P'.ow.form;try simp only [sS]
 refine stM (cs':=[.slice va (bs.take n).length vc,.int .i64 0,.int .i8 lr',.int .i64 (n:Nat),.int .i64 room,.int .i64 left]) ?_ hp' rfl;try simp only [sS]
 refine stM (cs':=[.slice va (bs.take n).length vc,.int .i64 0,.int .i8 lr',.int .i64 (n:Nat),.int .i64 room,.int .i64 (-1)]) ?_ (za2 _ _ _) rfl;rw [zas];exact λhc=>⟨_,za0 hc,λhw'=>k _ _ ⟨⟨lr',za2 _ _ _⟩,P'.ow.keep (λq hq=>za4 _ _ (λe=>P'.ne (by rw [← e]; exact hq))) (Nat.le_refl _),P'.ne,P'.bl⟩ g1 (λq hq=>(za4 _ _ hq).trans (g2 q hq)) (g3.set (g3.lt hp') _) hw'⟩
end
def zdk:List (List Int) -> List zaj
 | []=>[]
 | x::xs=>match zg5 x with
  | none=>[]
  | some r=>r::zdk xs
def flen (xs:List (List Int)):Nat:=(xs.map λx=>x.length+7).sum
theorem zz7:∀ (xs:List (List Int)) (i:Nat) (hi:i<xs.length) (r:zaj),i=(zdk (xs.take i)).length -> zg5 xs[i]=some r -> zdk (xs.take (i+1))=zdk (xs.take i)++[r]∧i+1=(zdk (xs.take (i+1))).length
 | x::xs,0,_,r,_,h=>by
  have h':zg5 x=some r:=h
  simp [zdk,h']
 | x::xs,i+1,hi,r,h0,h=>by
  have hi':i<xs.length:=by simpa using hi
  rw [List.take_succ_cons] at h0;have h':zg5 xs[i]=some r:=h;cases hx:zg5 x with
  | none=>simp [zdk,hx] at h0
  | some r0=>
   have h1:i=(zdk (xs.take i)).length:=by simp only [zdk,hx,List.length_cons] at h0; omega
   obtain ⟨g1,g2⟩:=zz7 xs i hi' r h1 h';rw [List.take_succ_cons,List.take_succ_cons];simp only [zdk,hx,g1,List.cons_append,List.length_cons];refine ⟨trivial,?_⟩;rw [g1] at g2; omega
theorem zyi:∀ (xs:List (List Int)) (i:Nat) (hi:i<xs.length),i=(zdk (xs.take i)).length -> zg5 xs[i]=none -> zdk xs=zdk (xs.take i)
 | x::xs,0,_,_,h=>by
  have h':zg5 x=none:=h
  simp [zdk,h']
 | x::xs,i+1,hi,h0,h=>by
  have hi':i<xs.length:=by simpa using hi
  rw [List.take_succ_cons] at h0 ⊢;have h':zg5 xs[i]=none:=h;cases hx:zg5 x with
  | none=>simp [zdk,hx] at h0
  | some r0=>
   have h1:i=(zdk (xs.take i)).length:=by simp only [zdk,hx,List.length_cons] at h0; omega
   have := zyi xs i hi' h1 h';simp only [zdk,hx,this]
theorem zyx {l:List Int} (h8:zbi l):∀ {xs:List (List Int)} {a e:Nat},chain l a xs e -> (∀ x∈xs,x.length≤60000∧zbi x)∧e=a+flen xs
 | [],a,e,h=>⟨λx hx=>absurd hx List.not_mem_nil,by have h':a=e:=h; rw [← h']; rfl⟩
 | x::xs,a,e,h=>by
  obtain ⟨g1,g2⟩:=zyx h8 h.2;have hx:=yel h.1;refine ⟨λy hy=>?_,by rw [g2]; simp only [flen,List.map_cons,List.sum_cons]; omega⟩
  rcases List.mem_cons.1 hy with rfl | hy
  ·refine ⟨hx.1,?_⟩;have := h.1;unfold zck at this
   split at this
   ·cases this
   ·split at this
    ·cases this
    ·split at this
     ·simp only [Option.some.injEq] at this;rw [← this]; exact znx (znn (znn h8))
     ·cases this
  ·exact g1 y hy
theorem yhu (xs:List (List Int)) (i:Nat) (hi:i<xs.length):flen (xs.take (i+1))=flen (xs.take i)+(xs[i].length+7):=by
 unfold flen;rw [List.take_add_one,List.getElem?_eq_getElem hi,Option.toList_some,List.map_append,List.sum_append]; simp
theorem yph (xs:List (List Int)) (i:Nat):flen (xs.take i)≤flen xs:=by
 have := congrArg flen (List.take_append_drop i xs);unfold flen at *;rw [List.map_append,List.sum_append] at this;omega
def yn5 (F:Nat -> Option (List Value)) (M:Nat -> Option zah) (B:Nat) (v:Value) (rs:List zaj):Prop:=∃ rows,own M B 77 10 v rs.length rows.flatten∧zaf (λcs r=>zef F cs r∧r.lens∧r.typ) 10 rows rs
theorem yog {v:Value} {l:List Int} (hv:sR F M 1 v l.length (bts l)) (h8:zbi l) (hl:l.length≤100000000) (h6:∀ xs e,chain l 0 xs e -> zck (l.drop e)=none -> ∀ x∈xs,∀ k q,rd 1 x=some (k,q) -> k≠6)
  (k:∀ xs e w F' M' N',chain l 0 xs e -> zck (l.drop e)=none -> yn5 F' M' N w (zdk xs) -> za9 F F' -> (∀ q,q<N -> M' q=M q) -> N≤N' -> za6 M' N' -> (Hp.mk F' M' N').wf -> K (.tuple #[w,.int .i64 (flen (xs.take (zdk xs).length):Nat)]) ⟨F',M',N'⟩) :
  cF 88 #[v] K E ⟨F,M,N⟩:=by
 refine za5 mixed Tryz.func88 (by kernel_rfl) (t88 _ E _) (λhw=>?_);have hm:za6 M N:=hw.m;refine yqb hv h8 hl (λxs e w M1 N1 hch hfr hle hbs hM1 hN1 hm1 hw1=>?_);obtain ⟨hmem,hfl⟩:=zyx h8 hch;rw [Nat.zero_add] at hfl
 have hxl:xs.length≤100000000:=by
  have:∀ ys:List (List Int),ys.length≤flen ys:=λys=>by
   induction ys with
   | nil=>simp
   | cons y ys ih=>simp only [flen,List.map_cons,List.sum_cons,List.length_cons] at *; omega
  have := this xs; omega
 have hlw:zac w=some (.int .i64 (xs.length:Nat)):=by obtain ⟨us,h1,_⟩:=hbs; obtain ⟨a,c,h,_⟩:=h1.form; rw [h]; rfl
 try simp only [sS]
 refine zab hlw ?_
 refine zpd (σ:=Nat×Value) (λs=>s.2) (λs=>.int .i64 (flen (xs.take s.1):Nat)) (λs=>.int .i64 (s.1:Nat))
  (λs h=>∃ F' M' N' rows,h=⟨F',M',N'⟩∧za9 F F'∧N1≤N'∧(∀ q,q<N1 -> M' q=M1 q)∧za6 M' N'∧s.1≤xs.length∧s.1=(zdk (xs.take s.1)).length∧own M' N1 77 10 s.2 s.1 rows.flatten∧zaf (λcs r=>zef F' cs r∧r.lens∧r.typ) 10 rows (zdk (xs.take s.1))) (λs=>xs.length - s.1) (0,.slice none 0 0) rfl rfl rfl
  (λhw2=>⟨_,za0 hw2,F,M1,N1,[],rfl,za9.refl _,Nat.le_refl _,λ_ _=>rfl,hm1,Nat.zero_le _,rfl,own.nil,zaf.nil _ _⟩) (λk1 s j h1 hI hw2 next=>?_)
 rw [zpc];obtain ⟨F2,M2,N2,rows,rfl,hF2,hN2,hM2,hm2,hi,hsl,ho,hr⟩:=hI;refine zau (λhlt=>?_) (λhge=>?_)
 rotate_left
 ·try simp only [sS]
  rw [List.take_of_length_le (show xs.length≤s.1 by omega)] at hsl hr ⊢;rw [show flen xs=flen (xs.take (zdk xs).length) by rw [List.take_of_length_le (by omega)]];exact λhc=>⟨_,za0 hc,λhw'=>k xs e s.2 F2 M2 N2 hch hfr ⟨rows,by rw [← hsl]; exact ho.keep (λ_ _=>rfl) (by omega),hr⟩ hF2 (λq hq=>(hM2 q (by omega)).trans (hM1 q hq)) (by omega) hm2 hw'⟩
 have h1:s.1<xs.length:=by omega
 have hmi:=hmem _ (List.getElem_mem h1);try simp only [sS]
 refine ysn hm1 hbs hF2 hM2 h1 (λp u hu=>?_);have hu2:=hu.keep (M':=M2) (λq hq=>hM2 q (hu.lt hm1 q hq)) (Nat.le_refl _);refine yib (hu2.rd) (λq hq=>hu2.lt hm2 q hq) hmi.2 hmi.1 (h6 xs e hch hfr _ (List.getElem_mem h1)) (λcs F3 M3 N3 r g1 g2 g3 g4 hF3 hN3 hM3 hm3 hw3=>?_) (λg0 F3 M3 N3 hF3 hN3 hM3 hm3 hw3=>?_)
 ·have g2':=g2;obtain ⟨na,nc,fv,sa,sc,ev,rfl,hn,hf,he⟩:=g2;obtain ⟨fa,fc,rfl⟩:=hf.form;obtain ⟨ea,ec,rfl⟩:=he.form;try simp only [sS]
  refine zar (cs:=zak) (λrb hrb=>?_);refine stM (cs':=[.int .u8 r.kind,.int .u32 r.id,.int .u32 r.tm,.slice na r.ns.length nc,.slice fa r.fs.length fc,.int .u32 0,.slice sa 0 sc,.int .i64 r.lo,.int .i64 r.hi,.slice ea r.es.length ec]) ?_ (za2 _ _ _) rfl rfl (List.all_eq_true.1 rfl);rw [zas];have hel:zak.length=10:=rfl;try simp only [hel]
  have hrb4:=za2 M3 rb (some (.cells 77 [.int .u8 r.kind,.int .u32 r.id,.int .u32 r.tm,.slice na r.ns.length nc,.slice fa r.fs.length fc,.int .u32 0,.slice sa 0 sc,.int .i64 r.lo,.int .i64 r.hi,.slice ea r.es.length ec] 10));have hM4:∀ q,q<N2 -> upd M3 rb (some (.cells 77 [.int .u8 r.kind,.int .u32 r.id,.int .u32 r.tm,.slice na r.ns.length nc,.slice fa r.fs.length fc,.int .u32 0,.slice sa 0 sc,.int .i64 r.lo,.int .i64 r.hi,.slice ea r.es.length ec] 10)) q=M2 q:=λq hq=>(za4 _ _ (by omega)).trans (hM3 q hq);have hm4:=hm3.new hrb (some (.cells 77 [.int .u8 r.kind,.int .u32 r.id,.int .u32 r.tm,.slice na r.ns.length nc,.slice fa r.fs.length fc,.int .u32 0,.slice sa 0 sc,.int .i64 r.lo,.int .i64 r.hi,.slice ea r.es.length ec] 10));generalize upd M3 rb _=M4 at *;refine zcv rfl ?_;try simp only [sS]
  have hu4:=hu2.keep (M':=M4) (λq hq=>hM4 q (hu2.lt hm2 q hq)) (Nat.le_refl _);refine yil hu4.rd hmi.2 (by omega) (λhbig=>by omega) (λhle w5 M5 N5 hw5 hM5 hN5 hm5 hwf5=>?_);obtain ⟨wa,wc,rfl,_⟩:=hw5.form;try simp only [sS]
  have hfs:=yhu xs s.1 h1;have hfle:=yph xs (s.1+1);rw [zei];refine zkc (by omega) ?_;rw [← hfs];refine zbd (vs:=[.int .u8 r.kind,.int .u32 r.id,.int .u32 r.tm,.slice na r.ns.length nc,.slice fa r.fs.length fc,.int .u32 0,.slice sa 0 sc,.int .i64 r.lo,.int .i64 r.hi,.slice ea r.es.length ec]) ?_ ((hM5 rb (by omega)).trans hrb4);refine zd7 (cs:=[.int .u8 r.kind,.int .u32 r.id,.int .u32 r.tm,.slice na r.ns.length nc,.slice fa r.fs.length fc,.int .u32 0,.slice sa 0 sc,.int .i64 r.lo,.int .i64 r.hi,.slice ea r.es.length ec]) (by kernel_rfl) (λb6 hb6=>?_);have hM6:∀ q,q<N2 -> upd M5 b6 (some (.cells 77 [.int .u8 r.kind,.int .u32 r.id,.int .u32 r.tm,.slice na r.ns.length nc,.slice fa r.fs.length fc,.int .u32 0,.slice sa 0 sc,.int .i64 r.lo,.int .i64 r.hi,.slice ea r.es.length ec] 10)) q=M2 q:=λq hq=>(za4 _ _ (by omega)).trans ((hM5 q (by omega)).trans (hM4 q hq));have hm6:=hm5.new hb6 (some (.cells 77 [.int .u8 r.kind,.int .u32 r.id,.int .u32 r.tm,.slice na r.ns.length nc,.slice fa r.fs.length fc,.int .u32 0,.slice sa 0 sc,.int .i64 r.lo,.int .i64 r.hi,.slice ea r.es.length ec] 10));have hsr:sR F3 (upd M5 b6 (some (.cells 77 [.int .u8 r.kind,.int .u32 r.id,.int .u32 r.tm,.slice na r.ns.length nc,.slice fa r.fs.length fc,.int .u32 0,.slice sa 0 sc,.int .i64 r.lo,.int .i64 r.hi,.slice ea r.es.length ec] 10))) 10 (.slice (some ⟨b6,0,none⟩) 1 1) 1 [.int .u8 r.kind,.int .u32 r.id,.int .u32 r.tm,.slice na r.ns.length nc,.slice fa r.fs.length fc,.int .u32 0,.slice sa 0 sc,.int .i64 r.lo,.int .i64 r.hi,.slice ea r.es.length ec]:=⟨rfl,.inr ⟨b6,0,1,_,rfl,Nat.le_refl _,.inr ⟨_,_,za2 _ _ _⟩,rfl⟩⟩;simp only [List.length_cons,List.length_nil,Nat.zero_add];generalize upd M5 b6 _=M6 at *;have ho6:own M6 N1 77 10 s.2 s.1 rows.flatten:=ho.keep (λq hq=>hM6 q (ho.lt hm2 q hq)) (Nat.le_refl _);refine ho6.app hm6 (by omega) hsr (List.all_eq_true.1 rfl) (by omega) (by unfold maxLen; omega) (λw7 M7 N7 h4 hf4 hN7 hm7=>?_);refine zaq (by omega) ?_;obtain ⟨d1,d2⟩:=zz7 xs s.1 h1 r hsl g1;have hge:=ho.ge;refine next (s.1+1,w7) _ _ (by simp only; omega) (λhw8=>⟨_,za0 hw8,F3,M7,N7,rows++[[.int .u8 r.kind,.int .u32 r.id,.int .u32 r.tm,.slice na r.ns.length nc,.slice fa r.fs.length fc,.int .u32 0,.slice sa 0 sc,.int .i64 r.lo,.int .i64 r.hi,.slice ea r.es.length ec]],rfl,hF2.trans hF3,by omega,λq hq=>?_,hm7,h1,d2,by rw [List.flatten_append]; simpa using h4,?_⟩)
  ·exact ((hf4 q (λe=>by have := (hge q e).1; omega) (by omega)).1).trans ((hM6 q (by omega)).trans (hM2 q hq))
  ·rw [d1];exact (hr.mono λ_ _ h=>⟨h.1.mono hF3,h.2⟩).snoc rfl (List.all_eq_true.1 rfl) ⟨g2',g3,g4⟩
 ·try simp only [sS]
  refine zar (cs:=zak) (λrb hrb=>?_);refine stM (cs':=zak) ?_ (za2 _ _ _) rfl rfl (List.all_eq_true.1 rfl);rw [zas];refine zid (by decide) ?_;try simp only [sS]
  rw [zz9];have hdn:=zyi xs s.1 h1 hsl g0;have hM4:∀ q,q<N2 -> upd M3 rb (some (.cells 77 zak zak.length)) q=M2 q:=λq hq=>(za4 _ _ (by omega)).trans (hM3 q hq);have hm4:=hm3.new hrb (some (.cells 77 zak zak.length));generalize upd M3 rb _=M4 at *;rw [show flen (xs.take s.1)=flen (xs.take (zdk xs).length) by rw [hdn,← hsl]];exact λhc=>⟨_,za0 hc,λhw'=>k xs e s.2 F3 M4 (rb+1) hch hfr ⟨rows,by rw [hdn,← hsl]; exact ho.keep (λq hq=>hM4 q (ho.lt hm2 q hq)) (by omega),by rw [hdn]; exact hr.mono λ_ _ h=>⟨h.1.mono hF3,h.2⟩⟩ (hF2.trans hF3) (λq hq=>(hM4 q (by omega)).trans ((hM2 q (by omega)).trans (hM1 q hq))) (by omega) hm4 hw'⟩
section
variable {B p lg:Nat} {v:Value} {bs:List Int} {lasts room left:Int}
theorem ynr {rs:List zaj} (P:zc5 M B p v bs lasts room (-1)) (hB:B≤N) (h8:zbi bs) (h6:∀ xs e,chain bs 0 xs e -> zck (bs.drop e)=none -> ∀ x∈xs,∀ k q,rd 1 x=some (k,q) -> k≠6)
  (hall:∀ xs e,chain bs 0 xs e -> zck (bs.drop e)=none -> zdk xs=rs∧flen (xs.take (zdk xs).length)=bs.length)
  (k:∀ lg w F' M' N',zc5 M' B p v bs (bs.length:Nat) room (-1) -> M' lg=some (.cells 189 [.pointer (some ⟨p,0,none⟩)] 1) -> N≤lg -> (∀ q,w.ownBlock=some q -> q≠lg) -> yn5 F' M' N w rs -> za9 F F' -> bfr M M' N p v v -> N≤N' -> za6 M' N' -> (Hp.mk F' M' N').wf -> K (.tuple #[.pointer (some ⟨lg,0,none⟩),w,.int .u16 0]) ⟨F',M',N'⟩) :
  cF 39 #[.pointer (some ⟨p,0,none⟩)] K E ⟨F,M,N⟩:=by
 refine za5 mixed Tryz.func39 (by kernel_rfl) (t39 _ E _) (λhw=>?_);have hm:za6 M N:=hw.m;have hbl:=P.bl;obtain ⟨lr0,hp0⟩:=P.pp;have hpN:=hm.lt hp0;refine ye1 P (λw1 M1 N1 hw1 hM1 hN1 hm1 hwf1=>?_);refine yog hw1.rd h8 (by omega) h6 (λxs e w F2 M2 N2 hch hfr hrec hF2 hM2 hN2 hm2 hwf2=>?_);obtain ⟨hd,hf⟩:=hall xs e hch hfr;rw [hf];rw [hd] at hrec;obtain ⟨a1,c1,rfl,_⟩:=hw1.form;try simp only [sS]
 refine zkd (by omega) ?_;try simp only [sS]
 rw [ydc];have hM2':∀ q,q<N -> M2 q=M q:=λq hq=>(hM2 q (by omega)).trans (hM1 q hq);have P2:=zbf.frame P hm hM2';refine yeh P2 (λM3 N3 P3 hf3 hN3 hm3 hwf3=>?_);refine zcv rfl ?_;try simp only [sS]
 refine zab (v:=.agg #[.pointer (some ⟨p,0,none⟩)]) (by kernel_rfl) ?_;refine zar (cs:=[.pointer (some ⟨p,0,none⟩)]) (λlg hlg=>?_);have P4:=zbf.frame P3 hm3 (M':=upd M3 lg (some (.cells 189 [.pointer (some ⟨p,0,none⟩)] 1))) (λq hq=>za4 _ _ (by omega));obtain ⟨rows,ho,hrows⟩:=hrec;have hvl:=P.ow.lt hm;have hwge:=ho.ge;have hwlt:=ho.lt hm2;have ho3:own M3 N 77 10 w rs.length rows.flatten:=ho.keep (λq hq=>(hf3 q (by have := (hwge q hq).1; omega) (λe=>by have := hvl q e; have := (hwge q hq).1; omega) (by have := hwlt q hq; omega)).1) (by omega);have hw3:=ho3.lt hm3;refine λhc=>⟨_,za0 hc,λhw'=>k lg w F2 _ (lg+1) P4 (za2 _ _ _) (by omega) (λq hq=>by have := hw3 q hq; omega) ⟨rows,ho3.keep (λq hq=>za4 _ _ (by have := hw3 q hq; omega)) (Nat.le_refl _),hrows⟩ hF2 (λq q1 q2 q3=>?_) (by omega) (hm3.new hlg _) hw'⟩;exact ⟨(za4 _ _ (by omega)).trans (((hf3 q q1 q2 (by omega)).1).trans (hM2' q q3)),q2⟩
theorem ydy {cs:List Value} {r:zaj} (P:zc5 M B p v bs lasts room (-1)) (hB:B≤N) (hlg:M lg=some (.cells 189 [.pointer (some ⟨p,0,none⟩)] 1)) (hlv:v.ownBlock≠some lg) (hlp:lg≠p) (hr0:0≤room) (hroom:room≤2000000)
  (hr:zef F cs r) (hL:r.lens) (ht:r.typ) (h6:r.kind≠6) (hE:(zag r).length≤2000000)
  (k0:zbv r=false -> ∀ M' N',zc5 M' B p v bs lasts room (-1) -> bfr M M' N p v v -> N≤N' -> za6 M' N' -> (Hp.mk F M' N').wf -> K (.int .u16 1) ⟨F,M',N'⟩)
  (k3:zbv r=true -> (zag r).length>60000 -> ∀ M' N',zc5 M' B p v bs lasts room (-1) -> bfr M M' N p v v -> N≤N' -> za6 M' N' -> (Hp.mk F M' N').wf -> K (.int .u16 3) ⟨F,M',N'⟩)
  (kF:zbv r=true -> (zag r).length≤60000 -> ¬ (bs.length:Int)+((zag r).length+7:Nat)≤room -> ∀ M' N',zc5 M' B p v bs lasts room (-1) -> bfr M M' N p v v -> N≤N' -> za6 M' N' -> (Hp.mk F M' N').wf -> K (.int .u16 100) ⟨F,M',N'⟩)
  (k1:zbv r=true -> (zag r).length≤60000 -> (bs.length:Int)+((zag r).length+7:Nat)≤room -> ∀ v' M' N',zc5 M' B p v' (bs++zbg (zag r)) lasts room (-1) -> bfr M M' N p v v' -> N≤N' -> za6 M' N' -> (Hp.mk F M' N').wf -> K (.int .u16 0) ⟨F,M',N'⟩) :
  cF 100 #[.pointer (some ⟨lg,0,none⟩),.agg cs.toArray] K E ⟨F,M,N⟩:=by
 refine za5 mixed Tryz.func100 (by kernel_rfl) (zpk _ E _ _) (λhw=>?_);have hm:za6 M N:=hw.m;have hc1:=hr.keep;obtain ⟨lr0,hp0⟩:=P.pp;have hpN:=hm.lt hp0;have hlgN:=hm.lt hlg;have hvl:=P.ow.lt hm;refine zar (cs:=cs) (λb hb=>?_) (by simp [Value.cells]);have hx:=za2 M b (some (.cells 77 cs cs.length));have hM1:∀ q,q<N -> upd M b (some (.cells 77 cs cs.length)) q=M q:=λq hq=>za4 _ _ (by omega);have hm1:=hm.new hb (some (.cells 77 cs cs.length));generalize upd M b _=M1 at *;have P1:=zbf.frame P hm hM1;refine zbd (vs:=cs) ?_ hx (by exact (show (List.drop 0 cs).take 10=cs by rw [List.drop_zero,← hc1.1,List.take_length])) (by exact (show 0+10≤cs.length by omega));refine yca hr hL ht h6 (by omega) (λh0 N2 hN2 hw2=>?_) (λh0 hbig N2 hN2 hw2=>?_) (λh0 hle w M2 N2 hw2 hM2 hN2 hm2 hwf2=>?_)
 ·try simp only [sS]
  refine zid (by decide) ?_;try simp only [sS]
  exact λhc=>⟨_,za0 hc,λhw'=>k0 h0 M1 N2 P1 (λq q1 q2 q3=>⟨hM1 q q3,q2⟩) (by omega) (hm1.up hN2) hw'⟩
 ·try simp only [sS]
  refine zid (by decide) ?_;try simp only [sS]
  exact λhc=>⟨_,za0 hc,λhw'=>k3 h0 hbig M1 N2 P1 (λq q1 q2 q3=>⟨hM1 q q3,q2⟩) (by omega) (hm1.up hN2) hw'⟩
 try simp only [sS]
 refine zcv rfl ?_;try simp only [sS]
 refine yil hw2.rd (znm r) (by omega) (λhbig=>by omega) (λ_ z M3 N3 hz hM3 hN3 hm3 hwf3=>?_);try simp only [sS]
 refine zcv rfl ?_;try simp only [sS]
 have hM3':∀ q,q<N -> M3 q=M q:=λq hq=>(hM3 q (by omega)).trans ((hM2 q (by omega)).trans (hM1 q hq));have P3:=zbf.frame P hm hM3';refine ldM (v:=.pointer (some ⟨p,0,none⟩)) ?_ ((hM3' lg hlgN).trans hlg);have hzge:=hz.ge;have hzlt:=hz.lt hm3;refine yii P3 (by omega) hr0 (by omega) hz.rd (λq hq=>⟨λe=>by have := hvl q e; have := (hzge q hq).1; omega,by have := (hzge q hq).1; omega,hzlt q hq⟩) (by rw [zei]; omega) (by rw [zei]; omega) (λhno M4 N4 P4 hM4 hN4 hm4 hwf4=>?_) (λhyes v' M4 N4 P4 hf4 hN4 hm4 hwf4=>?_)
 ·rw [zei] at hno;exact λhc=>⟨_,za0 hc,λhw'=>kF h0 hle hno M4 N4 P4 (λq q1 q2 q3=>⟨(hM4 q (by omega)).trans (hM3' q q3),q2⟩) (by omega) hm4 hw'⟩
 ·rw [zei] at hyes;exact λhc=>⟨_,za0 hc,λhw'=>k1 h0 hle hyes v' M4 N4 P4 (λq q1 q2 q3=>⟨((hf4 q q1 q2 (by omega)).1).trans (hM3' q q3),(hf4 q q1 q2 (by omega)).2⟩) (by omega) hm4 hw'⟩
theorem ykc {cs:List Value} {r:zaj} (P:zc5 M B p v bs lasts room (-1)) (hB:B≤N) (hlg:M lg=some (.cells 189 [.pointer (some ⟨p,0,none⟩)] 1)) (hlv:v.ownBlock≠some lg) (hlp:lg≠p) (hr0:0≤room) (hroom:room≤2000000)
  (hr:zef F cs r) (hL:r.lens) (ht:r.typ) (h6:r.kind≠6) (hE:(zag r).length≤2000000)
  (k0:¬ (zbv r=true∧(zag r).length≤60000∧(bs.length:Int)+((zag r).length+7:Nat)≤room) -> ∀ x M' N',x≠0 -> zc5 M' B p v bs lasts room (-1) -> bfr M M' N p v v -> N≤N' -> za6 M' N' -> (Hp.mk F M' N').wf -> K (.int .u16 x) ⟨F,M',N'⟩)
  (k1:zbv r=true -> (zag r).length≤60000 -> (bs.length:Int)+((zag r).length+7:Nat)≤room -> ∀ v' M' N',zc5 M' B p v' (bs++zbg (zag r)) ((bs++zbg (zag r)).length:Nat) room (-1) -> bfr M M' N p v v' -> N≤N' -> za6 M' N' -> (Hp.mk F M' N').wf -> K (.int .u16 0) ⟨F,M',N'⟩) :
  cF 145 #[.pointer (some ⟨lg,0,none⟩),.agg cs.toArray] K E ⟨F,M,N⟩:=by
 refine za5 mixed Tryz.func145 (by kernel_rfl) (yuw _ E _ _) (λhw=>?_);have hm:za6 M N:=hw.m;have hc1:=hr.keep;obtain ⟨lr0,hp0⟩:=P.pp;have hpN:=hm.lt hp0;have hlgN:=hm.lt hlg;have hvl:=P.ow.lt hm;refine zar (cs:=cs) (λb hb=>?_) (by simp [Value.cells]);have hx:=za2 M b (some (.cells 77 cs cs.length));have hM1:∀ q,q<N -> upd M b (some (.cells 77 cs cs.length)) q=M q:=λq hq=>za4 _ _ (by omega);have hm1:=hm.new hb (some (.cells 77 cs cs.length));generalize upd M b _=M1 at *;have P1:=zbf.frame P hm hM1;try simp only [sS]
 refine ldM (v:=.pointer (some ⟨p,0,none⟩)) ?_ ((hM1 lg hlgN).trans hlg);refine ye1 P1 (λw M2 N2 hw2 hM2 hN2 hm2 hwf2=>?_);obtain ⟨wa,wc,rfl,_⟩:=hw2.form;try simp only [sS]
 have hM2':∀ q,q<N -> M2 q=M q:=λq hq=>(hM2 q (by omega)).trans (hM1 q hq);have P2:=zbf.frame P hm hM2';refine zbd (vs:=cs) ?_ ((hM2 b (by omega)).trans hx) (by exact (show (List.drop 0 cs).take 10=cs by rw [List.drop_zero,← hc1.1,List.take_length])) (by exact (show 0+10≤cs.length by omega))
 have bad:∀ x,x≠0 -> ¬ (zbv r=true∧(zag r).length≤60000∧(bs.length:Int)+((zag r).length+7:Nat)≤room) -> ∀ M' N',zc5 M' B p v bs lasts room (-1) -> bfr M2 M' N2 p v v -> N2≤N' -> za6 M' N' ->
   (Hp.mk F M' N').wf -> ∃ h',(Hp.mk F M' N').wk h'∧(h'.wf -> K (.int .u16 x) h'):=λx hx0 hno M' N' P' hf' hN' hm' hc=>⟨_,za0 hc,λhw'=>k0 hno x M' N' hx0 P' (λq q1 q2 q3=>⟨((hf' q q1 q2 (by omega)).1).trans (hM2' q q3),q2⟩) (by omega) hm' hw'⟩
 refine ydy P2 (by omega) ((hM2' lg hlgN).trans hlg) hlv hlp hr0 hroom hr hL ht h6 hE (λh0 M3 N3 P3 hf3 hN3 hm3 hw3=>?_) (λh0 hbig M3 N3 P3 hf3 hN3 hm3 hw3=>?_) (λh0 hle hno M3 N3 P3 hf3 hN3 hm3 hw3=>?_) (λh0 hle hyes v3 M3 N3 P3 hf3 hN3 hm3 hw3=>?_)
 ·refine zid (by decide) ?_;try simp only [sS]
  exact bad 1 (by decide) (λh=>by rw [h0] at h; cases h.1) M3 N3 P3 hf3 hN3 hm3
 ·refine zid (by decide) ?_;try simp only [sS]
  exact bad 3 (by decide) (λh=>by omega) M3 N3 P3 hf3 hN3 hm3
 ·refine zid (by decide) ?_;try simp only [sS]
  exact bad 100 (by decide) (λh=>hno h.2.2) M3 N3 P3 hf3 hN3 hm3
 ·refine zcv rfl ?_;try simp only [sS]
  refine ldM (v:=.pointer (some ⟨p,0,none⟩)) ?_ (((hf3 lg hlp hlv (by omega)).1).trans ((hM2' lg hlgN).trans hlg));refine yeh P3 (λM4 N4 P4 hf4 hN4 hm4 hw4=>?_);refine zcv rfl ?_;try simp only [sS]
  rw [zx9];refine λhc=>⟨_,za0 hc,λhw'=>k1 h0 hle hyes v3 M4 N4 P4 (λq q1 q2 q3=>?_) (by omega) hm4 hw'⟩;have g3:=hf3 q q1 q2 (by omega);have g4:=hf4 q q1 g3.2 (by omega);exact ⟨g4.1.trans (g3.1.trans (hM2' q q3)),g4.2⟩
end
section
variable {B p g mb:Nat} {hv dv:Value} {rows:List (List Value)} {l:List Dm} {h:List En} {bs:Bts} {tk:Int}
def pfr (M M':Nat -> Option zah) (N p g mb:Nat) (hv hv':Value):Prop:=∀ q,hv.ownBlock≠some q -> q≠g -> q≠mb -> q≠p -> q<N -> M' q=M q∧hv'.ownBlock≠some q
def cmE (l:List Dm) (h:List En) (bs:Bts) (r:zaj):Nat:=if (zal bs r.id).st=1 then ziu l h r.tm (zal bs r.id).fs else 140
def cmH (l:List Dm) (h:List En) (bs:Bts) (r:zaj):List En:=if (zal bs r.id).st=1 then zmx l h r.tm (zal bs r.id).fs else h
def cmS (l:List Dm) (h:List En) (bs:Bts) (r:zaj):Bts:=if cmE l h bs r=0 then zhz bs r.id ⟨2,r.tm,[],[]⟩ else bs
theorem ygr {cs:List Value} {r:zaj} (P:zb9 F M B p g mb hv dv rows l h bs tk) (hB:B≤N) (hdl:l.length≤1000) (hl:h.length≤5000) (hr:zln F cs r) (h0:0≤r.id) (h1:r.id<4294967296) (ht:0≤r.tm) (hfl:(zal bs r.id).fs.length≤140737488351232)
  (k:∀ hv' F' M' N' rows',za9 F F' -> zb9 F' M' B p g mb hv' dv rows' l (cmH l h bs r) (cmS l h bs r) tk -> pfr M M' N p g mb hv hv' -> N≤N' -> za6 M' N' -> (Hp.mk F' M' N').wf -> K (.int .u16 ((cmE l h bs r:Nat):Int)) ⟨F',M',N'⟩) :
  cF 92 #[.pointer (some ⟨p,0,none⟩),.agg cs.toArray] K E ⟨F,M,N⟩:=by
 refine za5 mixed Tryz.func92 (by kernel_rfl) (t92 _ E _ _) (λhw=>?_);have hm:za6 M N:=hw.m;have hone:=hr.one;refine zar (cs:=cs) (λb1 hb1=>?_) rfl;obtain ⟨nv,fv,ep,sv,ev,e,hn,hf,he,_⟩:=hr;have hb:=za2 M b1 (some (.cells 77 cs cs.length));have P1:=P.box hm hb1 (some (.cells 77 cs cs.length));have hm1:=hm.new hb1 (some (.cells 77 cs cs.length));have hM1:∀ q,q<N -> upd M b1 (some (.cells 77 cs cs.length)) q=M q:=λq hq=>za4 _ _ (by omega);subst e;generalize upd M b1 _=M1 at *;obtain ⟨es,h2,h3⟩:=P1.mm;have hpn:=P1.pg;have hpl:=P.lt hm;have hvb:hv.ownBlock≠some b1:=λe=>by have := (hpl b1 (.inr (.inr (.inr e)))).2; omega
 have hbg:b1≠g:=λe=>by have := (hpl g (.inr (.inr (.inl rfl)))).2; omega
 try simp only [sS]
 refine ldM (v:=.int .u32 r.id) ?_ hb;refine ydn P1 (λhw1=>?_)
 by_cases hs:(zal bs r.id).st=1
 ·have eE:cmE l h bs r=ziu l h r.tm (zal bs r.id).fs:=by unfold cmE; rw [if_pos hs]
  have eH:cmH l h bs r=zmx l h r.tm (zal bs r.id).fs:=by unfold cmH; rw [if_pos hs]
  rw [decide_eq_true hs];try simp only [sS]
  refine ldM (v:=.pointer (some ⟨g,0,none⟩)) ?_ P1.pp;refine ldM (v:=.int .u32 r.tm) ?_ hb;try simp only [sS]
  refine ldM (v:=.map (some mb)) ?_ P1.pp;refine ldM (v:=.int .u32 r.id) ?_ hb;refine zqy (id:=r.id) h2 h3 (λv hv'=>?_);obtain ⟨nv',fv',rfl,_,hf'⟩:=hv';refine ⟨zb6 (zbe hb) rfl,zb6 (zbe P1.pp) rfl,?_⟩;refine zab (v:=fv') (by kernel_rfl) ?_;refine yjj P1.cc (by omega) hdl hl ht hf' hfl (λhv2 F2 M2 N2 rows2 hF2 hC2 hM2 hN2 hm2 hw2=>?_);have hMp:=hM2 p hpn.2.2.2.1 hpn.1 (by have := (hpl p (.inl rfl)).2; omega);have hMm:=hM2 mb hpn.2.2.2.2 hpn.2.2.1 (by have := (hpl mb (.inr (.inl rfl))).2; omega);have hMb:=hM2 b1 hvb hbg (by omega);have hb2:=hMb.1.trans hb;have P2:zb9 F2 M2 B p g mb hv2 dv rows2 l (zmx l h r.tm (zal bs r.id).fs) bs tk:=⟨hMp.1.trans P1.pp,P.pB,P.mB,⟨es,hMm.1.trans h2,h3.mono hF2⟩,hC2⟩;refine zht (λhne=>?_) (λhne=>?_)
  ·try simp only [sS]
   refine λhc=>⟨_,za0 hc,λhw'=>?_⟩;rw [← eE];refine k hv2 F2 M2 N2 rows2 hF2 ?_ (λq q1 q2 _ _ q3=>?_) (by omega) hm2 hw'
   ·rw [eH]; unfold cmS; rw [if_neg (by rw [eE]; omega)]; exact P2
   ·obtain ⟨x1,x2⟩:=hM2 q q1 q2 (by omega);exact ⟨x1.trans (hM1 q q3),x2⟩
  ·have e0:ziu l h r.tm (zal bs r.id).fs=0:=by omega
   try simp only [sS]
   refine ldM (v:=.map (some mb)) ?_ P2.pp;refine ldM (v:=.int .u32 r.id) ?_ hb2;refine ldM (v:=.int .u32 r.tm) ?_ hb2;refine zab (v:=.agg #[.int .u8 2,.int .u32 r.tm]) (by kernel_rfl) ?_;refine zab (v:=.agg #[.int .u8 2,.int .u32 r.tm,.slice none 0 0,.slice none 0 0]) (by kernel_rfl) ?_;refine yg5 (b:=⟨2,r.tm,[],[]⟩) (hMm.1.trans h2) (h3.mono hF2) ⟨_,_,rfl,sF.nil _ _ _,zbp.nil⟩ h0 h1 (λes' hes'=>?_);have hpn2:=P2.pg;refine λhc=>⟨_,za0 hc,λhw'=>?_⟩
   have := k hv2 F2 _ N2 rows2 hF2 (by
    rw [eH]; unfold cmS; rw [if_pos (by rw [eE,e0])]
    exact ⟨(za4 _ _ hpn2.2.1).trans P2.pp,P.pB,P.mB,⟨es',za2 _ _ _,hes'⟩,hC2.keep (za9.refl _) (λq hq=>za4 _ _ (λe=>by subst e; rcases hq with hq | hq; exact hpn2.2.2.1 hq; exact hpn2.2.2.2.2 hq))⟩) (λq q1 q2 q4 _ q3=>by
     obtain ⟨x1,x2⟩:=hM2 q q1 q2 (by omega);exact ⟨(za4 _ _ q4).trans (x1.trans (hM1 q q3)),x2⟩) (by omega) (hm2.set (hm2.lt (hMm.1.trans h2)) _) hw'
   rw [eE,e0] at this; exact this
 ·rw [decide_eq_false hs];try simp only [sS]
  refine λhc=>⟨_,za0 hc,λhw'=>?_⟩;have eE:cmE l h bs r=140:=by unfold cmE; rw [if_neg hs]
  have := k hv F M1 (b1+1) rows (za9.refl _) (by unfold cmH cmS; rw [if_neg hs,if_neg (by rw [eE]; decide)]; exact P1) (λq q1 _ _ _ q3=>⟨hM1 q q3,q1⟩) (by omega) hm1 hw';rw [eE] at this; exact this
def tkE (l:List Dm) (h:List En) (tk:Int) (r:zaj):Nat:=if r.id≤tk then 140 else zic l r.lo r.hi h r.es
def tkH (l:List Dm) (h:List En) (tk:Int) (r:zaj):List En:=if r.id≤tk then h else zra l r.lo r.hi h r.es
def tkT (l:List Dm) (h:List En) (tk:Int) (r:zaj):Int:=if tkE l h tk r=0 then r.id else tk
theorem yob {cs:List Value} {r:zaj} (P:zb9 F M B p g mb hv dv rows l h bs tk) (hB:B≤N) (o:okH l 5000 200 h) (hdl:l.length≤1000) (hr:zln F cs r) (hel:r.es.length≤140737488351232) (heT:∀ e∈r.es,e.1<4294967296)
  (k:∀ hv' F' M' N' rows',za9 F F' -> zb9 F' M' B p g mb hv' dv rows' l (tkH l h tk r) bs (tkT l h tk r) -> pfr M M' N p g mb hv hv' -> N≤N' -> za6 M' N' -> (Hp.mk F' M' N').wf -> K (.int .u16 ((tkE l h tk r:Nat):Int)) ⟨F',M',N'⟩) :
  cF 94 #[.pointer (some ⟨p,0,none⟩),.agg cs.toArray] K E ⟨F,M,N⟩:=by
 refine za5 mixed Tryz.func94 (by kernel_rfl) (t94 _ E _ _) (λhw=>?_);have hm:za6 M N:=hw.m;refine zar (cs:=cs) (λb1 hb1=>?_) rfl;obtain ⟨nv,fv,ep,sv,ev,e,hn,hf,he,_⟩:=hr;have hb:=za2 M b1 (some (.cells 77 cs cs.length));have P1:=P.box hm hb1 (some (.cells 77 cs cs.length));have hm1:=hm.new hb1 (some (.cells 77 cs cs.length));have hM1:∀ q,q<N -> upd M b1 (some (.cells 77 cs cs.length)) q=M q:=λq hq=>za4 _ _ (by omega);subst e;generalize upd M b1 _=M1 at *;obtain ⟨es,h2,h3⟩:=P1.mm;have hpn:=P1.pg;have hpl:=P.lt hm;have hvb:hv.ownBlock≠some b1:=λe=>by have := (hpl b1 (.inr (.inr (.inr e)))).2; omega
 have hbg:b1≠g:=λe=>by have := (hpl g (.inr (.inr (.inl rfl)))).2; omega
 try simp only [sS]
 refine ldM (v:=.int .u32 r.id) ?_ hb;refine ldM (v:=.int .u32 tk) ?_ P1.pp;refine zdv (λhle=>?_) (λhle=>?_)
 ·have eE:tkE l h tk r=140:=by unfold tkE; rw [if_pos hle]
  try simp only [sS]
  refine λhc=>⟨_,za0 hc,λhw'=>?_⟩;have := k hv F M1 (b1+1) rows (za9.refl _) (by unfold tkH tkT; rw [if_pos hle,if_neg (by rw [eE]; decide)]; exact P1) (λq q1 _ _ _ q3=>⟨hM1 q q3,q1⟩) (by omega) hm1 hw';rw [eE] at this; exact this
 ·have eE:tkE l h tk r=zic l r.lo r.hi h r.es:=by unfold tkE; rw [if_neg hle]
  have eH:tkH l h tk r=zra l r.lo r.hi h r.es:=by unfold tkH; rw [if_neg hle]
  try simp only [sS]
  refine ldM (v:=.pointer (some ⟨g,0,none⟩)) ?_ P1.pp;refine ldM (v:=.int .i64 r.lo) ?_ hb;refine ldM (v:=.int .i64 r.hi) ?_ hb;refine ldM (v:=ev) ?_ hb;refine yek P1.cc (by omega) o hdl he hel heT (λhv2 F2 M2 N2 rows2 hF2 hC2 hM2 hN2 hm2 hw2=>?_);have hMp:=hM2 p hpn.2.2.2.1 hpn.1 (by have := (hpl p (.inl rfl)).2; omega);have hMm:=hM2 mb hpn.2.2.2.2 hpn.2.2.1 (by have := (hpl mb (.inr (.inl rfl))).2; omega);have hMb:=hM2 b1 hvb hbg (by omega);have hb2:=hMb.1.trans hb;have P2:zb9 F2 M2 B p g mb hv2 dv rows2 l (zra l r.lo r.hi h r.es) bs tk:=⟨hMp.1.trans P1.pp,P.pB,P.mB,⟨es,hMm.1.trans h2,h3.mono hF2⟩,hC2⟩;refine zat (λheq=>?_) (λheq=>?_)
  ·have e0:tkE l h tk r=0:=by rw [eE]; omega
   try simp only [sS]
   refine ldM (v:=.int .u32 r.id) ?_ hb2;refine stM (cs':=[.pointer (some ⟨g,0,none⟩),.map (some mb),.int .u32 r.id]) ?_ P2.pp rfl rfl (List.all_eq_true.1 rfl);rw [zrq];have hpn2:=P2.pg;refine λhc=>⟨_,za0 hc,λhw'=>?_⟩;rw [← eE];refine k hv2 F2 _ N2 rows2 hF2 ?_ (λq q1 q2 _ q5 q3=>?_) (by omega) (hm2.set (hm2.lt P2.pp) _) hw'
   ·rw [eH]; unfold tkT; rw [if_pos e0];exact ⟨za2 _ _ _,P.pB,P.mB,⟨es,(za4 _ _ (λe=>hpn.2.1 e.symm)).trans (hMm.1.trans h2),h3.mono hF2⟩,hC2.keep (za9.refl _) (λq hq=>za4 _ _ (λe=>by subst e; rcases hq with hq | hq; exact hpn2.1 hq; exact hpn2.2.2.2.1 hq))⟩
   ·obtain ⟨x1,x2⟩:=hM2 q q1 q2 (by omega);exact ⟨(za4 _ _ q5).trans (x1.trans (hM1 q q3)),x2⟩
  ·have e0:tkE l h tk r≠0:=by rw [eE]; omega
   try simp only [sS]
   rw [zrq];refine λhc=>⟨_,za0 hc,λhw'=>?_⟩;rw [← eE];refine k hv2 F2 M2 N2 rows2 hF2 ?_ (λq q1 q2 _ _ q3=>?_) (by omega) hm2 hw'
   ·rw [eH]; unfold tkT; rw [if_neg e0]; exact P2
   ·obtain ⟨x1,x2⟩:=hM2 q q1 q2 (by omega);exact ⟨x1.trans (hM1 q q3),x2⟩
end
theorem ydo {v:Value} {l:List Int} (hm0:∀ q,N≤q -> M q=none) (hv:sR F M 1 v l.length (ic l)) (hl:l.length≤17592186043904)
  (k:∀ v' F' N',(Hp.mk F' M N').wf -> za9 F F' -> N≤N' -> sF F' 1 v' l.length (ic l) -> K v' ⟨F',M,N'⟩):cF 122 #[v] K E ⟨F,M,N⟩:=by
 refine za5 mixed Tryz.func122 (by kernel_rfl) (yqk _ E _) (λhw=>?_);obtain ⟨a,c,rfl,hc⟩:=hv.form;cases a with
 | none=>
  have h0:l.length=0:=by rcases hv.2 with ⟨a',c',h1,h2⟩ | ⟨b,o,c',cs,h1,_⟩; exact h2; simp at h1
  have hl0:l=[]:=List.eq_nil_of_length_eq_zero h0;refine zab rfl (zav λhc=>⟨_,za0 hc,λhw'=>k _ F N hw' (za9.refl _) (Nat.le_refl _) ?_⟩);rw [hl0]; exact sF.nil _ _ _
 | some ad=>
  refine zab rfl (zan ?_);refine zd7 (cs:=[]) (by kernel_rfl) (λb0 hb0=>?_);refine ybz (n:=0) (cs:=[]) (m:=l.length) (news:=ic l) (yc8 (za2 _ _ _) rfl) (hv.new hw.m hb0).read (zt0 _) (by omega) (by simp [maxLen]; omega) (λh=>by cases h) (λ_ b c' hb hmc hcm hc=>?_);have hb':N≤b:=by rcases hb with h | h; omega; simp [Value.ownBlock] at h; omega
  rw [Nat.zero_add] at hmc;refine ⟨⟨upd F b (some (ic l)),M,max (b0+1) (b+1)⟩,znf (M0:=M) hc ?_ (hm0 b hb') (za2 _ _ _),λhw'=>k _ _ _ hw' (za9.upd (hw.f b hb')) (by omega) ?_⟩
  ·intro q c hq
   have hqN:q<N:=by
    rcases Nat.lt_or_ge q N with h | h
    ·exact h
    ·rw [hm0 q h] at hq; cases hq
   exact (za4 _ _ (by omega)).trans ((zmi _ (by simp [Value.ownBlock]; omega)).trans ((za4 _ _ (by omega)).trans hq))
  ·rw [Nat.zero_add];exact zjx (by simp [ic]) hmc
section
variable {B p g mb:Nat} {hv dv:Value} {rows:List (List Value)} {l:List Dm} {h:List En} {bs:Bts} {tk:Int}
def ppE (l:List Dm) (bs:Bts) (r:zaj):Nat:=if (zal bs r.id).st≠0 then 140 else if zd1 l r.fs=false then 1 else 0
def ppS (l:List Dm) (bs:Bts) (r:zaj):Bts:=if ppE l bs r=0 then zhz bs r.id ⟨1,0,r.ns,r.fs⟩ else bs
theorem yod {cs:List Value} {r:zaj} (P:zb9 F M B p g mb hv dv rows l h bs tk) (hdl:l.length≤1000) (hr:zln F cs r) (h0:0≤r.id) (h1:r.id<4294967296) (hnl:r.ns.length≤17592186043904) (hfl:r.fs.length≤140737488351232)
  (k:∀ F' M' N',za9 F F' -> zb9 F' M' B p g mb hv dv rows l h (ppS l bs r) tk -> (∀ q,q≠mb -> q<N -> M' q=M q) -> N≤N' -> za6 M' N' -> (Hp.mk F' M' N').wf -> K (.int .u16 ((ppE l bs r:Nat):Int)) ⟨F',M',N'⟩) :
  cF 91 #[.pointer (some ⟨p,0,none⟩),.agg cs.toArray] K E ⟨F,M,N⟩:=by
 refine za5 mixed Tryz.func91 (by kernel_rfl) (t91 _ E _ _) (λhw=>?_);have hm:za6 M N:=hw.m;refine zar (cs:=cs) (λb1 hb1=>?_) rfl;obtain ⟨nv,fv,ep,sv,ev,e,hn,hf,he,_⟩:=hr;have hb:=za2 M b1 (some (.cells 77 cs cs.length));have P1:=P.box hm hb1 (some (.cells 77 cs cs.length));have hm1:=hm.new hb1 (some (.cells 77 cs cs.length));have hM1:∀ q,q<N -> upd M b1 (some (.cells 77 cs cs.length)) q=M q:=λq hq=>za4 _ _ (by omega);subst e;generalize upd M b1 _=M1 at *;obtain ⟨es,h2,h3⟩:=P1.mm;have hpl:=P.lt hm;try simp only [sS]
 refine ldM (v:=.map (some mb)) ?_ P1.pp;refine ldM (v:=.int .u32 r.id) ?_ hb;refine zqy (id:=r.id) h2 h3 (λv hv=>?_);obtain ⟨nv',fv',rfl,_⟩:=hv;refine zab (v:=.agg #[.int .u8 (zal bs r.id).st,.int .u32 (zal bs r.id).tm]) (by kernel_rfl) ?_;refine zab (v:=.int .u8 (zal bs r.id).st) (by kernel_rfl) ?_;refine zht (λhg=>?_) (λhg=>?_)
 ·have eE:ppE l bs r=140:=by unfold ppE; rw [if_pos hg]
  try simp only [sS]
  refine λhc=>⟨_,za0 hc,λhw'=>?_⟩;have := k F M1 (b1+1) (za9.refl _) (by unfold ppS; rw [if_neg (by rw [eE]; decide)]; exact P1) (λq _ hq=>hM1 q hq) (by omega) hm1 hw';rw [eE] at this; exact this
 try simp only [sS]
 refine ldM (v:=.pointer (some ⟨g,0,none⟩)) ?_ P1.pp;refine ldM (v:=fv) ?_ hb;refine zv2 P1.cc.gg P1.cc.dd (by omega) hf hfl (λN2 hN2 hw2=>?_);cases hfit:zd1 l r.fs
 ·have eE:ppE l bs r=1:=by unfold ppE; rw [if_neg hg,if_pos hfit]
  try simp only [sS]
  refine λhc=>⟨_,za0 hc,λhw'=>?_⟩;have := k F M1 N2 (za9.refl _) (by unfold ppS; rw [if_neg (by rw [eE]; decide)]; exact P1) (λq _ hq=>hM1 q hq) (by omega) hw'.m hw';rw [eE] at this; exact this
 have eE:ppE l bs r=0:=by unfold ppE; rw [if_neg hg,if_neg (by rw [hfit]; decide)]
 obtain ⟨f1,f2⟩:=zh6 hfit;try simp only [sS]
 refine zab (v:=.agg #[.int .u8 1,.int .u32 0]) (by kernel_rfl) ?_;refine ldM (v:=nv) ?_ hb;refine ydo hw2.m hn.sR (by omega) (λnv2 F3 N3 hw3 hF3 hN3 hn2=>?_);obtain ⟨a3,c3,e3,_⟩:=hn2.form;refine zab (v:=.agg #[.int .u8 1,.int .u32 0,nv2,.slice none 0 0]) (by rw [e3]; kernel_rfl) ?_;refine zar (λb3 hb3=>?_);refine stM (cs':=[.int .u8 1,.int .u32 0,nv2,.slice none 0 0]) ?_ (za2 _ _ _) rfl rfl (by rw [e3]; exact List.all_eq_true.1 rfl);rw [zas];obtain ⟨M3,hM3⟩:∃ M3,M3=upd M1 b3 (some (.cells 154 [.int .u8 1,.int .u32 0,nv2,.slice none 0 0] [Value.int .u8 0,Value.int .u32 0,Value.slice none 0 0,Value.slice none 0 0].length)):=⟨_,rfl⟩;rw [← hM3];have hbx:M3 b3=some (.cells 154 [.int .u8 1,.int .u32 0,nv2,.slice none 0 0] 4):=by rw [hM3]; exact za2 _ _ _
 have hM31:∀ q,q<b3 -> M3 q=M1 q:=λq hq=>by rw [hM3]; exact za4 _ _ (by omega)
 have hm3:za6 M3 (b3+1):=by rw [hM3]; exact (show za6 M1 N3 from hw3.m).new hb3 _
 clear hM3;have hb13:b1<b3:=by omega
 refine ldM (v:=fv) ?_ ((hM31 b1 hb13).trans hb);have hf3:=hf.mono hF3;have hlf:zac fv=some (.int .i64 (r.fs.length:Nat)):=by obtain ⟨a,c,e⟩:=hf3.form; rw [e]; rfl
 refine zab hlf ?_;obtain ⟨frows,hf4,hf5⟩:=hf3
 refine zrm (σ:=Nat) (λi=>.int .i64 (i:Nat))
  (λi h'=>∃ F' M' N' fv',h'=⟨F',M',N'⟩∧za9 F3 F'∧b3+1≤N'∧(∀ q,q<b3 -> M' q=M3 q)∧za6 M' N'∧i≤r.fs.length∧M' b3=some (.cells 154 [.int .u8 1,.int .u32 0,nv2,fv'] 4) ∧
   ((i<r.fs.length∧∃ rows',own M' (b3+1) 110 2 fv' i rows'.flatten∧zaf (zcr F') 2 rows' (r.fs.take i))∨(i=r.fs.length∧zbp F' fv' r.fs))) (λi=>r.fs.length - i) 0 rfl
  (λhw4=>⟨_,za0 hw4,F3,M3,b3+1,.slice none 0 0,rfl,za9.refl _,Nat.le_refl _,λ_ _=>rfl,hm3,Nat.zero_le _,hbx,by
   by_cases hz:0<r.fs.length
   ·exact .inl ⟨hz,[],own.nil,zaf.nil _ _⟩
   ·have e0:r.fs=[]:=List.eq_nil_of_length_eq_zero (by omega);refine .inr ⟨by omega,?_⟩;rw [e0]; exact zbp.nil⟩) (λkk i j h' hI hw4 next=>?_)
 rw [zrg];obtain ⟨F4,M4,N4,fv',rfl,hF4,hN4,hM4,hm4,hi,hbx4,hst⟩:=hI;refine zau (λhlt=>?_) (λhge=>?_)
 ·have i1:i<r.fs.length:=by omega
  rcases hst with ⟨_,rows',ho,hrr⟩ | ⟨hz,_⟩
  rotate_left
  ·omega
  try simp only [sS]
  refine zie (hf4.mono hF4) (hf5.mono λ_ _ h=>h.mono hF4) (by decide) i1 (λq rw _ hR hrl hr1=>?_);obtain ⟨kv,hre,hkv,hkl⟩:=hR;subst hre;refine zar (λb4 hb4=>?_);refine stM (cs':=[kv,.int .i64 r.fs[i].2]) ?_ (za2 _ _ _) rfl rfl hr1;rw [zas];obtain ⟨M5,hM5⟩:∃ M5,M5=upd M4 b4 (some (.cells 110 [kv,.int .i64 r.fs[i].2] [Value.slice none 0 0,Value.int .i64 0].length)):=⟨_,rfl⟩;rw [← hM5];have hb5:M5 b4=some (.cells 110 [kv,.int .i64 r.fs[i].2] 2):=by rw [hM5]; exact za2 _ _ _
  have hM54:∀ q,q<N4 -> M5 q=M4 q:=λq hq=>by rw [hM5]; exact za4 _ _ (by omega)
  have hm5:za6 M5 (b4+1):=by rw [hM5]; exact hm4.new hb4 _
  have ho5:own M5 (b3+1) 110 2 fv' i rows'.flatten:=ho.keep (λq hq=>hM54 q (ho.lt hm4 q hq)) (Nat.le_refl _);have hbx5:=(hM54 b3 (by omega)).trans hbx4;clear hM5;try simp only [sS]
  refine ldM (v:=fv') ?_ hbx5;try simp only [sS]
  refine ldM (v:=kv) ?_ hb5;try simp only [sS]
  refine ldM (v:=.int .i64 r.fs[i].2) ?_ hb5;have hki:=zk2 (f2 r.fs[i] (List.getElem_mem i1));refine zxs hm5 hkv.sR (by omega) (λkv' F6 N6 hw6 hF6 hN6 hkv'=>?_);refine ⟨zb6 (zbe hb5) rfl,zb6 (zbe hbx5) rfl,?_⟩;have h1f:zcr F6 [kv',.int .i64 r.fs[i].2] r.fs[i]:=⟨kv',rfl,hkv',hkl⟩;obtain ⟨ak,ck,hkf,hck⟩:=hkv'.form;refine zab (v:=.agg #[kv',.int .i64 r.fs[i].2]) (by rw [hkf]; kernel_rfl) ?_;refine zd7 (cs:=[kv',.int .i64 r.fs[i].2]) (by rw [hkf]; kernel_rfl) (λb6 hb6=>?_);have hm6:za6 M5 N6:=hw6.m;refine ⟨zb6 (zbe ((za4 _ _ (by omega)).trans hbx5)) rfl,?_⟩;have ho6:=ho5.box hm6 hb6 (some (.cells 110 [kv',.int .i64 r.fs[i].2] [kv',Value.int .i64 r.fs[i].2].length));refine ho6.app (m:=1) (news:=[kv',.int .i64 r.fs[i].2]) (hm6.new hb6 _) (by omega) ⟨rfl,.inr ⟨b6,0,1,_,rfl,Nat.le_refl _,.inr ⟨_,_,za2 _ _ _⟩,rfl⟩⟩ h1f.one.2 (by omega) (by unfold maxLen; omega) (λv7 M7 N7 g1 g2 g3 g4=>?_);have hvb3:fv'.ownBlock≠some b3:=λe=>by have := (ho.ge b3 e).1; omega
  have hb37:=g2 b3 hvb3 (by omega);have hbx7:M7 b3=some (.cells 154 [.int .u8 1,.int .u32 0,nv2,fv'] 4):=hb37.1.trans ((za4 _ _ (by omega)).trans hbx5);obtain ⟨a7,c7,e7,_⟩:=g1.form;try simp only [sS]
  refine stM (cs':=[.int .u8 1,.int .u32 0,nv2,v7]) ?_ hbx7 (by rw [e7]; rfl) (by rw [e7]; rfl) (by rw [e7]; exact List.all_eq_true.1 rfl);refine zaq (by omega) ?_;have hfl7:(rows'.flatten++[kv',.int .i64 r.fs[i].2])=(rows'++[[kv',.int .i64 r.fs[i].2]]).flatten:=by simp
  have ho8:own (upd M7 b3 (some (.cells 154 [.int .u8 1,.int .u32 0,nv2,v7] 4))) (b3+1) 110 2 v7 (i+1) (rows'++[[kv',.int .i64 r.fs[i].2]]).flatten:=by
   rw [← hfl7]; exact g1.keep (λq hq=>za4 _ _ (λe=>by have := (g1.ge q hq).1; omega)) (Nat.le_refl _)
  have hrr8:zaf (zcr F6) 2 (rows'++[[kv',.int .i64 r.fs[i].2]]) (r.fs.take (i+1)):=by
   rw [List.take_add_one,List.getElem?_eq_getElem i1,Option.toList_some];exact zcq (hrr.mono λ_ _ h=>h.mono hF6) h1f.one h1f
  have hM8:∀ q,q<b3 -> upd M7 b3 (some (.cells 154 [.int .u8 1,.int .u32 0,nv2,v7] 4)) q=M3 q:=λq hq=>by
   have hq2:fv'.ownBlock≠some q:=λe=>by have := (ho.ge q e).1; omega
   exact (za4 _ _ (by omega)).trans ((g2 q hq2 (by omega)).1.trans ((za4 _ _ (by omega)).trans ((hM54 q (by omega)).trans (hM4 q hq))))
  have hm8:=g4.set (g4.lt hbx7) (some (.cells 154 [.int .u8 1,.int .u32 0,nv2,v7] 4));have hbx8:=za2 M7 b3 (some (.cells 154 [.int .u8 1,.int .u32 0,nv2,v7] 4));generalize upd M7 b3 _=M8 at *
  by_cases hlast:i+1<r.fs.length
  ·exact next (i+1) _ _ (by omega) (λhw8=>⟨_,za0 hw8,F6,M8,N7,v7,rfl,hF4.trans hF6,by omega,hM8,hm8,by omega,hbx8,.inl ⟨hlast,_,ho8,hrr8⟩⟩)
  ·refine next (i+1) _ _ (by omega) (λhw8=>⟨⟨frzP F6 M8 (λq=>v7.ownBlock=some q),zh3 M8 (λq=>¬ v7.ownBlock=some q),N7⟩,zxn hw8,_,_,N7,v7,rfl,(hF4.trans hF6).trans (zeh hw8),by omega,λq hq=>?_,zgx hm8,by omega,?_,.inr ⟨by omega,?_⟩⟩)
   ·exact (zfi (λe=>by have := (ho8.ge q e).1; omega)).trans (hM8 q hq)
   ·exact (zfi (λe=>by have := (ho8.ge b3 e).1; omega)).trans hbx8
   ·have e9:r.fs.take (i+1)=r.fs:=List.take_of_length_le (by omega);rw [e9] at hrr8;refine yk3 (M:=M8) (N:=b3+1) (N':=N7) ?_ hrr8 hw8 (λq hq=>hq);rw [show r.fs.length=i+1 by omega]; exact ho8
 ·rcases hst with ⟨hz,_⟩ | ⟨_,hfv'⟩
  ·omega
  have P4:zb9 F4 M4 B p g mb hv dv rows l h bs tk:=P1.keep (hF3.trans hF4) (λq hq=>(hM4 q (by have := (hpl q hq).2; omega)).trans (hM31 q (by have := (hpl q hq).2; omega)));have hb4:=((hM4 b1 hb13).trans (hM31 b1 hb13)).trans hb;obtain ⟨es4,h24,h34⟩:=P4.mm;have hpn:=P4.pg;try simp only [sS]
  refine ldM (v:=.map (some mb)) ?_ P4.pp;refine ldM (v:=.int .u32 r.id) ?_ hb4;refine zbd (vs:=[.int .u8 1,.int .u32 0,nv2,fv']) ?_ hbx4;refine yg5 (b:=⟨1,0,r.ns,r.fs⟩) h24 h34 ⟨nv2,fv',rfl,hn2.mono hF4,hfv'⟩ h0 h1 (λes' hes'=>?_);refine λhc=>⟨_,za0 hc,λhw'=>?_⟩
  have := k F4 _ N4 (hF3.trans hF4) (by
   unfold ppS; rw [if_pos eE];exact ⟨(za4 _ _ hpn.2.1).trans P4.pp,P.pB,P.mB,⟨es',za2 _ _ _,hes'⟩,P4.cc.keep (za9.refl _) (λq hq=>za4 _ _ (λe=>by subst e; rcases hq with hq | hq; exact hpn.2.2.1 hq; exact hpn.2.2.2.2 hq))⟩) (λq hq hqN=>(za4 _ _ hq).trans (((hM4 q (by omega)).trans (hM31 q (by omega))).trans (hM1 q hqN))) (by omega) (hm4.set (hm4.lt h24) _) hw'
  rw [eE] at this; exact this
end
section
theorem yrt {B:Nat} {v d:Value} {l:List Int} {p:Int -> Bool} (hv:own M B 38 1 v l.length (ick .u32 l)) (hl:l.length≤1000000000)
  (hd:∀ {K:zae} (N1:Nat) (x:Int),N≤N1 -> (∀ N',N1≤N' -> (Hp.mk F M N').wf -> K (.bool (!p x)) ⟨F,M,N'⟩) -> zbq Tryz.prog d #[.int .u32 x] K E ⟨F,M,N1⟩)
  (k1:∀ i (hi:i<l.length),(∀ x∈l.take i,p x=true) -> p l[i]=false -> ∀ N',N≤N' -> (Hp.mk F M N').wf -> K (.int .i64 (i:Nat)) ⟨F,M,N'⟩)
  (k2:(∀ x∈l,p x=true) -> ∀ N',N≤N' -> (Hp.mk F M N').wf -> K (.int .i64 (-1)) ⟨F,M,N'⟩) :
  cF 108 #[v,d] K E ⟨F,M,N⟩:=by
 refine za5 mixed Tryz.func108 (by kernel_rfl) (zta _ E _ _) (λhw=>?_);have hlv:zac v=some (.int .i64 (l.length:Nat)):=by obtain ⟨a,c,e,_⟩:=hv.form; rw [e]; rfl
 refine zab hlv ?_
 refine zye (σ:=Nat) (λi=>.int .i64 (i:Nat)) (λi h=>∃ N',h=⟨F,M,N'⟩∧N≤N'∧i≤l.length∧∀ x∈l.take i,p x=true) (λi=>l.length - i) 0 rfl
  (λhw1=>⟨_,za0 hw1,N,rfl,Nat.le_refl _,Nat.zero_le _,by simp⟩) (λkk i j h1 hI hw1 next=>?_)
 rw [zxp];obtain ⟨N1,rfl,hN1,hi,he⟩:=hI;refine zau (λhlt=>?_) (λhge=>?_)
 ·have i1:i<l.length:=by omega
  try simp only [sS]
  refine zn9 hv i1 λ_=>hd _ _ hN1 (λN2 hN2 hw2=>?_);cases hp:p l[i]
  ·refine zav ?_;exact λhc=>⟨_,za0 hc,λhw'=>k1 i i1 he hp _ (by omega) hw'⟩
  ·refine zan ?_;refine zaq (by omega) ?_;refine next (i+1) _ _ (by omega) (λhw3=>⟨_,za0 hw3,N2,rfl,by omega,i1,λx hx=>?_⟩);rw [List.take_add_one,List.getElem?_eq_getElem i1,Option.toList_some] at hx
   rcases List.mem_append.1 hx with hx | hx
   ·exact he x hx
   ·rw [List.mem_singleton.1 hx]; exact hp
 ·try simp only [sS]
  refine λhc=>⟨_,za0 hc,λhw'=>k2 (λx hx=>he x ?_) _ hN1 hw'⟩;rw [List.take_of_length_le (by omega)]; exact hx
theorem ym1 {k:IntKind} (l:List Int) (i:Nat):(ick k l).take i=ick k (l.take i):=by unfold ick; rw [List.map_take]
theorem yr7 {B:Nat} {v d:Value} {l:List Int} {p:Int -> Bool} (hv:own M B 38 1 v l.length (ick .u32 l)) (hl:l.length≤1000000000)
  (hd:∀ {K:zae} (M1:Nat -> Option zah) (N1:Nat) (x:Int),N≤N1 -> (∀ q,v.ownBlock≠some q -> q<N -> M1 q=M q) -> za6 M1 N1 -> (∀ N',N1≤N' -> (Hp.mk F M1 N').wf -> K (.bool (!p x)) ⟨F,M1,N'⟩) -> zbq Tryz.prog d #[.int .u32 x] K E ⟨F,M1,N1⟩)
  (k:∀ v' M' N',own M' B 38 1 v' (l.filter p).length (ick .u32 (l.filter p)) -> (∀ x,v.ownBlock≠some x -> x<N -> M' x=M x∧v'.ownBlock≠some x) -> N≤N' -> za6 M' N' -> (Hp.mk F M' N').wf -> ∃ h',(Hp.mk F M' N').wk h'∧(h'.wf -> K v' h')) :
  cF 54 #[v,d] K E ⟨F,M,N⟩:=by
 refine za5 mixed Tryz.func54 (by kernel_rfl) (t54 _ E _ _) (λhw=>?_);have hm:za6 M N:=hw.m;have hlv:zac v=some (.int .i64 (l.length:Nat)):=by obtain ⟨a,c,e,_⟩:=hv.form; rw [e]; rfl
 refine yrt hv hl (λN1 x hN kk=>hd M N1 x hN (λ_ _ _=>rfl) (hm.up hN) kk) (λi hi he hpi N1 hN1 hw1=>?_) (λhe N1 hN1 hw1=>?_)
 rotate_left
 ·refine zcj rfl ?_;try simp only [sS]
  have e:l.filter p=l:=List.filter_eq_self.2 he;rw [e] at k;exact λhc=>k v M N1 hv (λx hx _=>⟨rfl,hx⟩) hN1 (hm.up hN1) hc
 refine zbo (by omega) ?_;try simp only [sS]
 refine zaq (by omega) ?_
 refine zrf (σ:=Nat×Nat) (λs=>.int .i64 (s.1:Nat)) (λs=>.int .i64 (s.2:Nat))
  (λs h=>∃ M' N' l',h=⟨F,M',N'⟩∧N≤N'∧own M' B 38 1 v l'.length (ick .u32 l')∧l'.length=l.length∧s.1<s.2∧s.2≤l.length∧l'.take s.1=(l.take s.2).filter p∧l'.drop s.2=l.drop s.2∧(∀ x,v.ownBlock≠some x -> x<N -> M' x=M x)∧za6 M' N') (λs=>l.length - s.2) (i,i+1) rfl rfl
  (λhw2=>⟨_,za0 hw2,M,N1,l,rfl,hN1,hv,rfl,Nat.lt_succ_self _,hi,?_,rfl,λ_ _ _=>rfl,hm.up hN1⟩) (λkk s j h1 hI hw2 next=>?_)
 ·simp only;rw [List.take_add_one,List.getElem?_eq_getElem hi,Option.toList_some,List.filter_append,List.filter_eq_self.2 he]
  simp [hpi]
 rw [zri];obtain ⟨M2,N2,l2,rfl,hN2,ho,hl2,hs,hs2,ht,hdr,hM2,hm2⟩:=hI;refine zab hlv ?_;refine zau (λhlt=>?_) (λhge=>?_)
 ·have j1:s.2<l.length:=by omega
  have j2:s.2<l2.length:=by omega
  have ej:l2[s.2]=l[s.2]:=by
   have h:=congrArg (λx:List Int=>x[0]?) hdr;simp only [List.getElem?_drop,Nat.add_zero,List.getElem?_eq_getElem j1,List.getElem?_eq_getElem j2] at h;exact Option.some.inj h
  have hdr':l2.drop (s.2+1)=l.drop (s.2+1):=by rw [← List.drop_drop,← List.drop_drop,hdr]
  try simp only [sS]
  refine zn9 ho j2 λ_=>?_;rw [ej];refine hd M2 N2 _ hN2 hM2 hm2 (λN3 hN3 hw3=>?_);cases hp:p l[s.2]
  ·rw [Bool.not_false];try simp only [sS]
   rw [ziz];refine zaq (by omega) ?_;refine next (s.1,s.2+1) _ _ (by simp only; omega) (λhw4=>⟨_,za0 hw4,M2,N3,l2,rfl,by omega,ho,hl2,by simp only; omega,j1,?_,hdr',hM2,hm2.up hN3⟩);simp only;rw [ht,List.take_add_one,List.getElem?_eq_getElem j1,Option.toList_some,List.filter_append]
   simp [hp]
  ·rw [Bool.not_true];try simp only [sS]
   have i1:s.1<l2.length:=by omega
   refine yar ho i1 λ_ M4 g1 g3 g4=>?_;refine zaq (by omega) ?_;rw [ziz];refine zaq (by omega) ?_;refine next (s.1+1,s.2+1) _ _ (by simp only; omega) (λhw4=>⟨_,za0 hw4,M4,N3,_,rfl,by omega,g1,by rw [List.length_set]; exact hl2,by simp only; omega,j1,?_,?_,λx hx hxN=>(g3 x hx).trans (hM2 x hx hxN),g4 _ (hm2.up hN3)⟩)
   ·simp only;rw [zp8 _ _ _ i1,ht,List.take_add_one,List.getElem?_eq_getElem j1,Option.toList_some,List.filter_append]
    simp [hp]
   ·simp only;rw [List.drop_set_of_lt (by omega)];exact hdr'
 ·try simp only [sS]
  have es:s.2=l.length:=by omega
  rw [es,List.take_length] at ht;have i1:s.1<l.length:=by omega
  have hn:(l.filter p).length=s.1:=by rw [← ht,List.length_take]; omega
  rcases ho.2 with ⟨hv0,h0⟩ | ⟨b,c,rest,hvf,g1,g2,g3,g4⟩
  ·omega
  rw [hvf,hl2];refine zga s.1 (by omega) (by omega) ?_;rw [if_neg (by omega)];refine .inr ⟨b,0+s.1*1,l.length - s.1,c - s.1,_,_,_,rfl,by omega,g4,by exact List.all_eq_true.1 rfl,by rw [List.length_append,zl7,hl2]; omega,?_⟩;refine zh7 s.1 (by omega) ?_
  obtain ⟨Z,hcs⟩:∃ Z,zb3 (ick .u32 l2++rest) (0+s.1*1) (List.replicate (l.length - s.1) [Value.int .u32 0]).flatten=ick .u32 (l2.take s.1)++Z:=⟨_,by
   unfold zb3;rw [Nat.zero_add,Nat.mul_one,List.take_append_of_le_length (by rw [zl7]; omega),ym1,List.append_assoc]⟩
  refine λhc=>k _ _ N2 ⟨by rw [zl7,Nat.mul_one],.inr ⟨b,c,Z,by rw [hn],by omega,g2,g3,?_⟩⟩ (λx hx hxN=>⟨?_,λe=>hx (by rw [hvf]; exact e)⟩) hN2 (hm2.set (hm2.lt g4) _) hc
  ·rw [← ht,← hcs]; exact za2 _ _ _
  ·have hxb:x≠b:=λe=>hx (by rw [hvf,e]; rfl);exact (za4 _ _ hxb).trans (hM2 x hx hxN)
end
theorem ynq {mb:Nat} (k:∀ bm F' N',(Hp.mk F' M N').wf -> za9 F F' -> N≤N' -> F' bm=some [.map (some mb)] -> K (.func (.func 111) #[] #[.pointer (some ⟨bm,0,none⟩)]) ⟨F',M,N'⟩) :
  cF 56 #[.map (some mb)] K E ⟨F,M,N⟩:=by
 refine za5 mixed Tryz.func56 (by kernel_rfl) (t56 _ E _) (λhw=>?_);have hm:za6 M N:=hw.m;refine zar (cs:=[.map (some mb)]) (λb1 hb1=>?_);exact λhc=>⟨_,zdw hm (λq hq=>za4 _ _ (by omega)) hc,λhw'=>k b1 _ _ hw' (zbb hc) (by omega) (zhl (by omega) (za2 _ _ _))⟩
section
variable {B p g mb:Nat} {hv dv:Value} {rows:List (List Value)} {l:List Dm} {h:List En} {bs:Bts} {tk:Int}
theorem zfs.mem {es:Array MapEntry} (hd:zfs F es bs) (x:Int):(∃ e∈es.toList,e.key=.int .u32 x)↔zpm bs x=true:=by
 have h1:(∃ e∈es.toList,e.key=.int .u32 x)↔Value.int .u32 x∈es.toList.map (·.key):=by rw [List.mem_map]
 rw [h1,hd.keys,List.mem_map,zev]
 constructor
 ·rintro ⟨y,hy,e⟩; exact ⟨y,hy,by simpa using e⟩
 ·rintro ⟨y,hy,e⟩; exact ⟨y,hy,by rw [e]⟩
def zwg (bs:Bts) (x:Int):Bool:=decide ((zal bs x).st=1)
def zw3 (bs:Bts) (ws:List Int):Prop:=zqx ws∧∀ x,x∈ws↔zpm bs x=true∧zwg bs x=true
theorem zwj (hE:E [] zcy) (P:zb9 F M B p g mb hv dv rows l h bs tk) (h12:bs.length≤12)
  (k:∀ v' (ws:List Int) F' N',(Hp.mk F' M N').wf -> za9 F F' -> N≤N' -> zw3 bs ws -> sF F' 1 v' ws.length (ick .u32 ws) -> K v' ⟨F',M,N'⟩) :
  cF 21 #[.pointer (some ⟨p,0,none⟩)] K E ⟨F,M,N⟩:=by
 refine za5 mixed Tryz.func21 (by kernel_rfl) (t21 _ E _) (λhw=>?_);have hm:za6 M N:=hw.m;refine zar (cs:=[.pointer (some ⟨p,0,none⟩)]) (λb1 hb1=>?_);generalize hM1e:upd M b1 _=M1;have hb:∃ e,M1 b1=some (.cells e [.pointer (some ⟨p,0,none⟩)] 1):=⟨_,by rw [← hM1e]; exact za2 _ _ _⟩;have P1:zb9 F M1 B p g mb hv dv rows l h bs tk:=by rw [← hM1e]; exact P.box hm hb1 _
 have hm1:za6 M1 (b1+1):=by rw [← hM1e]; exact hm.new hb1 _
 have hM1:∀ q,q<N -> M1 q=M q:=λq hq=>by rw [← hM1e]; exact za4 _ _ (by omega)
 clear hM1e;obtain ⟨ty,hb⟩:=hb;refine ldM (v:=.pointer (some ⟨p,0,none⟩)) ?_ hb;try simp only [sS]
 refine ldM (v:=.map (some mb)) ?_ P1.pp;refine ynq (λbm F2 N2 hw2 hF2 hN2 hbm=>?_);obtain ⟨es,h2,h3⟩:=P1.mm;refine yj2 hE hbm h2 (h3.k (by omega)) (by rw [h3.len]; exact h12) (λv3 l3 M3 N3 hr3 hmem3 ho3 hM3 hN3 hm3 hw3=>?_);have hpl:=P1.lt hm1;have P3:zb9 F2 M3 B p g mb hv dv rows l h bs tk:=P1.keep hF2 (λq hq=>hM3 q (by have := (hpl q hq).2; omega))
 have hlen3:l3.length≤1000000:=by
  have n3:l3.Nodup:=hr3.imp (λ{x y} h=>by omega)
  have := zo9 (b:=bs.map (·.1)) n3 (λx hx=>by
   obtain ⟨y,hy,e⟩:=zev.1 ((h3.mem x).1 ((hmem3 x).1 hx));exact List.mem_map.2 ⟨y,hy,e⟩)
  rw [List.length_map] at this; omega
 have hb3:=(hM3 b1 (by omega)).trans hb;have hvge:∀ q,v3.ownBlock=some q -> N2≤q:=λq e=>(ho3.ge q e).1;refine yr7 (p:=zwg bs) ho3 (by omega) (λ{K'} M4 N4 x hN4 hM4 hm4 kk=>?_) (λv5 M5 N5 ho5 hM5 hN5 hm5 hw5=>⟨_,za0 hw5,λhw6=>?_⟩)
 ·refine za5 mixed Tryz.func57 (by kernel_rfl) (t57 _ E _ _) (λhw=>?_);have hb4:=(hM4 b1 (λe=>by have := hvge b1 e; omega) (by omega)).trans hb3;refine ldM (v:=.pointer (some ⟨p,0,none⟩)) ?_ hb4;have P4:zb9 F2 M4 B p g mb hv dv rows l h bs tk:=P3.keep (za9.refl _) (λq hq=>hM4 q (λe=>by have := hvge q e; have := (hpl q hq).2; omega) (by have := (hpl q hq).2; omega));refine ydn P4 (λhw7=>?_);try simp only [sS]
  exact λhc=>⟨_,za0 hc,λhw8=>kk N4 (Nat.le_refl _) hw8⟩
 ·have hX:∀ q,q<N -> M5 q=M q:=λq hq=>((hM5 q (λe=>by have := hvge q e; omega) (by omega)).1).trans ((hM3 q (by omega)).trans (hM1 q hq));refine λhc=>⟨_,zdw hm hX hc,λhw'=>k v5 _ _ _ hw' (hF2.trans (zbb hc)) (by omega) ⟨hr3.filter _,λx=>?_⟩ (ho5.rd.frz hc (λb e=>.inl (by have := (ho5.ge b e).1; omega)))⟩;rw [List.mem_filter,hmem3,h3.mem]
theorem yj9 {id:Int} (P:zb9 F M B p g mb hv dv rows l h bs tk) (hl:(zal bs id).ns.length≤17592186043904) (k:∀ v' F' N',(Hp.mk F' M N').wf -> za9 F F' -> N≤N' -> sF F' 1 v' (zal bs id).ns.length (ic (zal bs id).ns) -> K v' ⟨F',M,N'⟩) :
  cF 79 #[.pointer (some ⟨p,0,none⟩),.int .u32 id] K E ⟨F,M,N⟩:=by
 refine za5 mixed Tryz.func79 (by kernel_rfl) (t79 _ E _ _) (λhw=>?_);have hm:za6 M N:=hw.m;obtain ⟨es,h1,h2⟩:=P.mm;try simp only [sS]
 refine ldM (v:=.map (some mb)) ?_ P.pp;refine zqy (id:=id) h1 h2 (λv hv=>?_);obtain ⟨nv,fv,rfl,hn,_⟩:=hv;refine zab (v:=nv) (by kernel_rfl) ?_;refine ydo hm hn.sR (by omega) (λv2 F2 N2 hw2 hF2 hN2 h3=>?_);exact λhc=>⟨_,za0 hc,λhw'=>k v2 F2 N2 hw' hF2 hN2 h3⟩
def apE (l:List Dm) (h:List En) (bs:Bts) (tk:Int) (r:zaj):Nat:=if r.kind=1 then ppE l bs r else if r.kind=2 then cmE l h bs r else if r.kind=3 then abE bs r else if r.kind=7 then tkE l h tk r else 1
def apH (l:List Dm) (h:List En) (bs:Bts) (tk:Int) (r:zaj):List En:=if r.kind=2 then cmH l h bs r else if r.kind=7 then tkH l h tk r else h
def apS (l:List Dm) (h:List En) (bs:Bts) (r:zaj):Bts:=if r.kind=1 then ppS l bs r else if r.kind=2 then cmS l h bs r else if r.kind=3 then abS bs r else bs
def apT (l:List Dm) (h:List En) (tk:Int) (r:zaj):Int:=if r.kind=7 then tkT l h tk r else tk
structure zaj.ok (r:zaj):Prop where
 i0:0≤r.id∧r.id<4294967296
 t0:0≤r.tm
 nl:r.ns.length≤17592186043904
 fl:r.fs.length≤140737488351232
 el:r.es.length≤140737488351232
 eT:∀ e∈r.es,e.1<4294967296
theorem zsd {cs:List Value} {r:zaj} (P:zb9 F M B p g mb hv dv rows l h bs tk) (hB:B≤N) (o:okH l 5000 200 h) (hdl:l.length≤1000) (hr:zln F cs r) (ok:r.ok) (hfb:(zal bs r.id).fs.length≤140737488351232)
  (k:∀ hv' F' M' N' rows',za9 F F' -> zb9 F' M' B p g mb hv' dv rows' l (apH l h bs tk r) (apS l h bs r) (apT l h tk r) -> pfr M M' N p g mb hv hv' -> N≤N' -> za6 M' N' -> (Hp.mk F' M' N').wf -> K (.int .u16 ((apE l h bs tk r:Nat):Int)) ⟨F',M',N'⟩) :
  cF 40 #[.pointer (some ⟨p,0,none⟩),.agg cs.toArray] K E ⟨F,M,N⟩:=by
 refine za5 mixed Tryz.func40 (by kernel_rfl) (t40 _ E _ _) (λhw=>?_);have hm:za6 M N:=hw.m;have hr0:=hr;refine zar (cs:=cs) (λb1 hb1=>?_) rfl;obtain ⟨nv,fv,ep,sv,ev,e,_⟩:=hr;have hb:=za2 M b1 (some (.cells 77 cs cs.length));have P1:=P.box hm hb1 (some (.cells 77 cs cs.length));have hm1:=hm.new hb1 (some (.cells 77 cs cs.length));have hM1:∀ q,q<N -> upd M b1 (some (.cells 77 cs cs.length)) q=M q:=λq hq=>za4 _ _ (by omega);generalize upd M b1 _=M1 at *;have hb':=hb;subst e;have trp:∀ {M':Nat -> Option zah} {hv':Value},pfr M1 M' (b1+1) p g mb hv hv' -> pfr M M' N p g mb hv hv':=λf q q1 q2 q3 q4 q5=>⟨((f q q1 q2 q3 q4 (by omega)).1).trans (hM1 q q5),(f q q1 q2 q3 q4 (by omega)).2⟩;have trq:∀ {M':Nat -> Option zah},(∀ q,q≠mb -> q<b1+1 -> M' q=M1 q) -> pfr M M' N p g mb hv hv:=λf q q1 _ q3 _ q5=>⟨(f q q3 (by omega)).trans (hM1 q q5),q1⟩;try simp only [sS]
 refine ldM (v:=.int .u8 r.kind) ?_ hb;refine zat (λh1=>?_) (λh1=>?_)
 ·have eE:apE l h bs tk r=ppE l bs r:=by unfold apE; rw [if_pos h1]
  have eS:apS l h bs r=ppS l bs r:=by unfold apS; rw [if_pos h1]
  have eH:apH l h bs tk r=h:=by unfold apH; rw [if_neg (by omega),if_neg (by omega)]
  have eT:apT l h tk r=tk:=by unfold apT; rw [if_neg (by omega)]
  rw [eE,eS,eH,eT] at k;try simp only [sS]
  refine zbd ?_ hb;refine yod P1 hdl hr0 ok.i0.1 ok.i0.2 ok.nl ok.fl (λF2 M2 N2 hF2 P2 hM2 hN2 hm2 hw2=>?_);exact λhc=>⟨_,za0 hc,λhw'=>k hv F2 M2 N2 rows hF2 P2 (trq hM2) (by omega) hm2 hw'⟩
 try simp only [sS]
 refine zat (λh2=>?_) (λh2=>?_)
 ·have eE:apE l h bs tk r=cmE l h bs r:=by unfold apE; rw [if_neg h1,if_pos h2]
  have eS:apS l h bs r=cmS l h bs r:=by unfold apS; rw [if_neg h1,if_pos h2]
  have eH:apH l h bs tk r=cmH l h bs r:=by unfold apH; rw [if_pos h2]
  have eT:apT l h tk r=tk:=by unfold apT; rw [if_neg (by omega)]
  rw [eE,eS,eH,eT] at k;try simp only [sS]
  refine zbd ?_ hb;refine ygr P1 (by omega) hdl o.le hr0 ok.i0.1 ok.i0.2 ok.t0 hfb (λhv2 F2 M2 N2 rows2 hF2 P2 hM2 hN2 hm2 hw2=>?_);exact λhc=>⟨_,za0 hc,λhw'=>k hv2 F2 M2 N2 rows2 hF2 P2 (trp hM2) (by omega) hm2 hw'⟩
 try simp only [sS]
 refine zat (λh3=>?_) (λh3=>?_)
 ·have eE:apE l h bs tk r=abE bs r:=by unfold apE; rw [if_neg h1,if_neg h2,if_pos h3]
  have eS:apS l h bs r=abS bs r:=by unfold apS; rw [if_neg h1,if_neg h2,if_pos h3]
  have eH:apH l h bs tk r=h:=by unfold apH; rw [if_neg h2,if_neg (by omega)]
  have eT:apT l h tk r=tk:=by unfold apT; rw [if_neg (by omega)]
  rw [eE,eS,eH,eT] at k;try simp only [sS]
  refine zbd ?_ hb;refine ymy P1 hr0 ok.i0.1 ok.i0.2 (λM2 N2 P2 hM2 hN2 hm2 hw2=>?_);exact λhc=>⟨_,za0 hc,λhw'=>k hv F M2 N2 rows (za9.refl _) P2 (trq hM2) (by omega) hm2 hw'⟩
 try simp only [sS]
 refine zat (λh4=>?_) (λh4=>?_)
 ·have eE:apE l h bs tk r=tkE l h tk r:=by unfold apE; rw [if_neg h1,if_neg h2,if_neg h3,if_pos h4]
  have eS:apS l h bs r=bs:=by unfold apS; rw [if_neg h1,if_neg h2,if_neg h3]
  have eH:apH l h bs tk r=tkH l h tk r:=by unfold apH; rw [if_neg h2,if_pos h4]
  have eT:apT l h tk r=tkT l h tk r:=by unfold apT; rw [if_pos h4]
  rw [eE,eS,eH,eT] at k;try simp only [sS]
  refine zbd ?_ hb;refine yob P1 (by omega) o hdl hr0 ok.el ok.eT (λhv2 F2 M2 N2 rows2 hF2 P2 hM2 hN2 hm2 hw2=>?_);exact λhc=>⟨_,za0 hc,λhw'=>k hv2 F2 M2 N2 rows2 hF2 P2 (trp hM2) (by omega) hm2 hw'⟩
 ·have eE:apE l h bs tk r=1:=by unfold apE; rw [if_neg h1,if_neg h2,if_neg h3,if_neg h4]
  have eS:apS l h bs r=bs:=by unfold apS; rw [if_neg h1,if_neg h2,if_neg h3]
  have eH:apH l h bs tk r=h:=by unfold apH; rw [if_neg h2,if_neg h4]
  have eT:apT l h tk r=tk:=by unfold apT; rw [if_neg h4]
  rw [eE,eS,eH,eT] at k;try simp only [sS]
  exact λhc=>⟨_,za0 hc,λhw'=>k hv F M1 (b1+1) rows (za9.refl _) P1 (λq q1 _ _ _ q5=>⟨hM1 q q5,q1⟩) (by omega) hm1 hw'⟩
end
theorem zec {a b:Nat} {e1 e2:TypeId} {c1 c2:List Value} {t1 t2:Nat} (h1:M a=some (.cells e1 c1 t1)) (h2:M b=some (.cells e2 c2 t2)) (hne:e1≠e2):a≠b:=λe=>by
 subst e;rw [h1] at h2;simp only [Option.some.injEq,zah.cells.injEq] at h2;exact hne h2.1
structure zao (F:Nat -> Option (List Value)) (M:Nat -> Option zah) (B nb lg pd:Nat) (v:Value) (bs:List Int) (lasts room:Int) (p g mb:Nat) (hv dv:Value) (rows:List (List Value)) (l:List Dm) (h:List En) (bt:Bts) (tk me:Int) (ov:Value):Prop where
 nn:M nb=some (.cells 126 [.pointer (some ⟨lg,0,none⟩),.pointer (some ⟨p,0,none⟩),.int .i64 me,ov] 4)
 ll:M lg=some (.cells 189 [.pointer (some ⟨pd,0,none⟩)] 1)
 dk:zc5 M B pd v bs lasts room (-1)
 pt:zb9 F M B p g mb hv dv rows l h bt tk
def nft (nb lg pd p g mb:Nat) (v hv:Value) (q:Nat):Prop:=q=nb∨q=lg∨q=pd∨v.ownBlock=some q∨(q=p∨q=mb∨q=g∨hv.ownBlock=some q)
section
variable {B nb lg pd:Nat} {v:Value} {bs:List Int} {lasts room:Int} {p g mb:Nat} {hv dv:Value} {rows:List (List Value)} {l:List Dm} {h:List En} {bt:Bts} {tk me:Int} {ov:Value}
theorem zao.lt (H:zao F M B nb lg pd v bs lasts room p g mb hv dv rows l h bt tk me ov) (hm:za6 M N):∀ q,nft nb lg pd p g mb v hv q -> q<N:=λq hq=>by
 rcases hq with rfl | rfl | rfl | hq | hq
 ·exact hm.lt H.nn
 ·exact hm.lt H.ll
 ·obtain ⟨lr,hp⟩:=H.dk.pp; exact hm.lt hp
 ·exact H.dk.ow.lt hm q hq
 ·exact (H.pt.lt hm q hq).2
theorem zao.up (H:zao F M B nb lg pd v bs lasts room p g mb hv dv rows l h bt tk me ov) (hm:za6 M N) (hF:za9 F F') (hM:∀ q,q<N -> M' q=M q):zao F' M' B nb lg pd v bs lasts room p g mb hv dv rows l h bt tk me ov :=
 ⟨(hM _ (hm.lt H.nn)).trans H.nn,(hM _ (hm.lt H.ll)).trans H.ll,zbf.frame H.dk hm hM,H.pt.up hm hF hM⟩
theorem zao.ptne (H:zao F M B nb lg pd v bs lasts room p g mb hv dv rows l h bt tk me ov) {q:Nat} {e:TypeId} {c:List Value} {t:Nat} (hq:M q=some (.cells e c t)) (he:e≠58∧e≠141∧e≠143):hv.ownBlock≠some q∧q≠g∧q≠mb∧q≠p:=by
 refine ⟨λe'=>?_,zec hq H.pt.cc.gg he.2.1,λe'=>?_,zec hq H.pt.pp he.1⟩
 ·obtain ⟨c',t',h'⟩:=zc6 H.pt.cc.oo _ e';exact zec hq h' he.2.2 rfl
 ·obtain ⟨es,h1,_⟩:=H.pt.mm;subst e'; rw [hq] at h1; cases h1
theorem zo2 {cs:List Value} {r:zaj} (H:zao F M B nb lg pd v bs lasts room p g mb hv dv rows l h bt tk me ov) (hB:B≤N) (hr0:0≤room) (hroom:room≤2000000) (o:okH l 5000 200 h) (hdl:l.length≤1000)
  (hr:zef F cs r) (hL:r.lens) (ht:r.typ) (h6:r.kind≠6) (hE:(zag r).length≤2000000) (ok:r.ok) (hfb:(zal bt r.id).fs.length≤140737488351232)
  (k0:¬ (zbv r=true∧(zag r).length≤60000∧(bs.length:Int)+((zag r).length+7:Nat)≤room) -> ∀ M' N',zao F M' B nb lg pd v bs lasts room p g mb hv dv rows l h bt tk me ov -> (∀ q,¬ nft nb lg pd p g mb v hv q -> q<N -> M' q=M q) -> N≤N' -> za6 M' N' -> (Hp.mk F M' N').wf -> K (.bool false) ⟨F,M',N'⟩)
  (k1:zbv r=true -> (zag r).length≤60000 -> (bs.length:Int)+((zag r).length+7:Nat)≤room -> ∀ v' hv' F' M' N' rows',za9 F F' -> zao F' M' B nb lg pd v' (bs++zbg (zag r)) ((bs++zbg (zag r)).length:Nat) room p g mb hv' dv rows' l (apH l h bt tk r) (apS l h bt r) (apT l h tk r) me ov ->
   (∀ q,¬ nft nb lg pd p g mb v hv q -> q<N -> M' q=M q∧¬ nft nb lg pd p g mb v' hv' q) -> N≤N' -> za6 M' N' -> (Hp.mk F' M' N').wf -> K (.bool (decide (apE l h bt tk r=0))) ⟨F',M',N'⟩) :
  cF 99 #[.pointer (some ⟨nb,0,none⟩),.agg cs.toArray] K E ⟨F,M,N⟩:=by
 refine za5 mixed Tryz.func99 (by kernel_rfl) (t99 _ E _ _) (λhw=>?_);have hm:za6 M N:=hw.m;have hc1:=hr.keep;refine zar (cs:=cs) (λb hb=>?_) (by simp [Value.cells]);have hx:=za2 M b (some (.cells 77 cs cs.length));have hM1:∀ q,q<N -> upd M b (some (.cells 77 cs cs.length)) q=M q:=λq hq=>za4 _ _ (by omega);have hm1:=hm.new hb (some (.cells 77 cs cs.length));generalize upd M b _=M1 at *;have H1:=H.up hm (za9.refl _) hM1;have hlt:=H.lt hm;try simp only [sS]
 refine ldM (v:=.pointer (some ⟨lg,0,none⟩)) ?_ H1.nn;refine zbd (vs:=cs) ?_ hx (by exact (show (List.drop 0 cs).take 10=cs by rw [List.drop_zero,← hc1.1,List.take_length])) (by exact (show 0+10≤cs.length by omega));obtain ⟨lr,hdp⟩:=H1.dk.pp
 have vne:∀ {q e c t},M1 q=some (.cells e c t) -> e≠5 -> v.ownBlock≠some q:=λhq he hv=>by
  obtain ⟨c',t',h'⟩:=zc6 H1.dk.ow _ hv;exact zec hq h' he rfl
 have hlp:lg≠pd:=zec H1.ll hdp (by decide);have hnp:nb≠pd:=zec H1.nn hdp (by decide);have hbp:b≠pd:=zec hx hdp (by decide);refine ykc H1.dk (by omega) H1.ll (vne H1.ll (by decide)) hlp hr0 hroom hr hL ht h6 hE (λhno x M2 N2 hx0 P2 hf2 hN2 hm2 hw2=>?_) (λhs hle hyes v2 M2 N2 P2 hf2 hN2 hm2 hw2=>?_)
 ·have fr:∀ q,q≠pd -> v.ownBlock≠some q -> q<b+1 -> M2 q=M1 q:=λq q1 q2 q3=>(hf2 q q1 q2 q3).1
  have ptk:∀ q,q=p∨q=mb∨q=g∨hv.ownBlock=some q -> M2 q=M1 q:=λq hq=>by
   refine fr q (λe=>?_) (λe=>?_) (by have := (H1.pt.lt hm1 q hq).2; omega)
   ·have := H1.ptne hdp ⟨by decide,by decide,by decide⟩;subst e
    rcases hq with rfl | rfl | rfl | hq
    ·exact this.2.2.2 rfl
    ·exact this.2.2.1 rfl
    ·exact this.2.1 rfl
    ·exact this.1 hq
   ·obtain ⟨c',t',h'⟩:=zc6 H1.dk.ow _ e;have := H1.ptne h' ⟨by decide,by decide,by decide⟩
    rcases hq with rfl | rfl | rfl | hq
    ·exact this.2.2.2 rfl
    ·exact this.2.2.1 rfl
    ·exact this.2.1 rfl
    ·exact this.1 hq
  have H2:zao F M2 B nb lg pd v bs lasts room p g mb hv dv rows l h bt tk me ov:=⟨(fr nb hnp (vne H1.nn (by decide)) (by have := hm1.lt H1.nn; omega)).trans H1.nn,(fr lg hlp (vne H1.ll (by decide)) (by have := hm1.lt H1.ll; omega)).trans H1.ll,P2,H1.pt.keep (za9.refl _) ptk⟩;refine zbo (by omega) ?_;try simp only [sS]
  refine λhc=>⟨_,za0 hc,λhw'=>k0 hno M2 N2 H2 (λq q1 q2=>?_) (by omega) hm2 hw'⟩;exact (fr q (λe=>q1 (.inr (.inr (.inl e)))) (λe=>q1 (.inr (.inr (.inr (.inl e))))) (by omega)).trans (hM1 q q2)
 ·have fr:∀ q,q≠pd -> v.ownBlock≠some q -> q<b+1 -> M2 q=M1 q∧v2.ownBlock≠some q:=λq q1 q2 q3=>hf2 q q1 q2 q3
  have pta:∀ q,q=p∨q=mb∨q=g∨hv.ownBlock=some q -> q≠pd∧v.ownBlock≠some q:=λq hq=>by
   refine ⟨λe=>?_,λe=>?_⟩
   ·have := H1.ptne hdp ⟨by decide,by decide,by decide⟩;subst e
    rcases hq with rfl | rfl | rfl | hq
    ·exact this.2.2.2 rfl
    ·exact this.2.2.1 rfl
    ·exact this.2.1 rfl
    ·exact this.1 hq
   ·obtain ⟨c',t',h'⟩:=zc6 H1.dk.ow _ e;have := H1.ptne h' ⟨by decide,by decide,by decide⟩
    rcases hq with rfl | rfl | rfl | hq
    ·exact this.2.2.2 rfl
    ·exact this.2.2.1 rfl
    ·exact this.2.1 rfl
    ·exact this.1 hq
  have hnn:=(fr nb hnp (vne H1.nn (by decide)) (by have := hm1.lt H1.nn; omega));have hll:=(fr lg hlp (vne H1.ll (by decide)) (by have := hm1.lt H1.ll; omega));have hxx:=(fr b hbp (vne hx (by decide)) (by omega));have PT2:zb9 F M2 B p g mb hv dv rows l h bt tk:=H1.pt.keep (za9.refl _) λq hq=>(fr q (pta q hq).1 (pta q hq).2 (by have := (H1.pt.lt hm1 q hq).2; omega)).1;refine zcj rfl ?_;try simp only [sS]
  refine ldM (v:=.pointer (some ⟨p,0,none⟩)) ?_ (hnn.1.trans H1.nn);refine zbd (vs:=cs) ?_ (hxx.1.trans hx) (by exact (show (List.drop 0 cs).take 10=cs by rw [List.drop_zero,← hc1.1,List.take_length])) (by exact (show 0+10≤cs.length by omega));refine zsd PT2 (by omega) o hdl hr.rec ok hfb (λhv3 F3 M3 N3 rows3 hF3 P3 hf3 hN3 hm3 hw3=>?_);have f3:∀ q,q<N2 -> ¬ (q=p∨q=mb∨q=g∨hv.ownBlock=some q) -> M3 q=M2 q∧hv3.ownBlock≠some q:=λq q1 q2=>hf3 q (λe=>q2 (.inr (.inr (.inr e)))) (λe=>q2 (.inr (.inr (.inl e)))) (λe=>q2 (.inr (.inl e))) (λe=>q2 (.inl e)) q1
  have pne:∀ {q e c t},M2 q=some (.cells e c t) -> (e≠58∧e≠141∧e≠143) -> q<N2∧¬ (q=p∨q=mb∨q=g∨hv.ownBlock=some q):=λ{q e c t} hq he=>by
   refine ⟨hm2.lt hq,λhh=>?_⟩;have H2':zao F M2 B nb lg pd v2 (bs++zbg (zag r)) ((bs++zbg (zag r)).length:Nat) room p g mb hv dv rows l h bt tk me ov:=⟨hnn.1.trans H1.nn,hll.1.trans H1.ll,P2,PT2⟩;have := H2'.ptne hq he
   rcases hh with rfl | rfl | rfl | hh
   ·exact this.2.2.2 rfl
   ·exact this.2.2.1 rfl
   ·exact this.2.1 rfl
   ·exact this.1 hh
  obtain ⟨lr2,hdp2⟩:=P2.pp;have a1:=pne (hnn.1.trans H1.nn) ⟨by decide,by decide,by decide⟩;have a2:=pne (hll.1.trans H1.ll) ⟨by decide,by decide,by decide⟩;have a3:=pne hdp2 ⟨by decide,by decide,by decide⟩
  have DK3:zc5 M3 B pd v2 (bs++zbg (zag r)) ((bs++zbg (zag r)).length:Nat) room (-1):=⟨⟨lr2,(f3 pd a3.1 a3.2).1.trans hdp2⟩,P2.ow.keep (λq hq=>by
   obtain ⟨c',t',h'⟩:=zc6 P2.ow _ hq;have a4:=pne h' ⟨by decide,by decide,by decide⟩;exact (f3 q a4.1 a4.2).1) (Nat.le_refl _),P2.ne,P2.bl⟩
  have H3:zao F3 M3 B nb lg pd v2 (bs++zbg (zag r)) ((bs++zbg (zag r)).length:Nat) room p g mb hv3 dv rows3 l (apH l h bt tk r) (apS l h bt r) (apT l h tk r) me ov :=
   ⟨(f3 nb a1.1 a1.2).1.trans (hnn.1.trans H1.nn),(f3 lg a2.1 a2.2).1.trans (hll.1.trans H1.ll),DK3,P3⟩
  have fin:∀ q,¬ nft nb lg pd p g mb v hv q -> q<N -> M3 q=M q∧¬ nft nb lg pd p g mb v2 hv3 q:=λq q1 q2=>by
   have g1:=fr q (λe=>q1 (.inr (.inr (.inl e)))) (λe=>q1 (.inr (.inr (.inr (.inl e))))) (by omega);have g2:=f3 q (by omega) (λe=>q1 (.inr (.inr (.inr (.inr e)))));refine ⟨g2.1.trans (g1.1.trans (hM1 q q2)),λhh=>?_⟩
   rcases hh with hh | hh | hh | hh | hh | hh | hh | hh
   ·exact q1 (.inl hh)
   ·exact q1 (.inr (.inl hh))
   ·exact q1 (.inr (.inr (.inl hh)))
   ·exact g1.2 hh
   ·exact q1 (.inr (.inr (.inr (.inr (.inl hh)))))
   ·exact q1 (.inr (.inr (.inr (.inr (.inr (.inl hh))))))
   ·exact q1 (.inr (.inr (.inr (.inr (.inr (.inr (.inl hh)))))))
   ·exact g2.2 hh
  have last:∀ y,y=decide (apE l h bt tk r=0) -> (Hp.mk F3 M3 N3).wf -> ∃ h',(Hp.mk F3 M3 N3).wk h'∧(h'.wf -> K (.bool y) h'):=λy e hc=>by
   subst e;exact ⟨_,za0 hc,λhw'=>k1 hs hle hyes v2 hv3 F3 M3 N3 rows3 hF3 H3 fin (by omega) hm3 hw'⟩
  refine zat (λhe=>?_) (λhe=>?_)
  ·try simp only [sS]
   exact last _ (decide_eq_true (by omega)).symm
  ·try simp only [sS]
   exact last _ (decide_eq_false (by omega)).symm
end
def zr7 (M:Nat -> Option zah) (B:Nat) (cs:List Value) (m:Int×Int×List Int):Prop:=∃ u,cs=[.int .i64 m.1,.int .i64 m.2.1,u]∧own M B 5 1 u m.2.2.length (bts m.2.2)
theorem zr7.keep {B:Nat} {cs:List Value} {m:Int×Int×List Int} (h:zr7 M B cs m) (hM:∀ q c t,M q=some (.cells 5 c t) -> M' q=M q):zr7 M' B cs m :=
 let ⟨u,e,hu⟩:=h; ⟨u,e,hu.keep (λq hq=>let ⟨c,t,h'⟩:=zc6 hu _ hq; hM q c t h') (Nat.le_refl _)⟩
def zjm (M:Nat -> Option zah) (B:Nat) (ov:Value) (ms:List (Int×Int×List Int)):Prop :=
 ∃ rows,own M B 53 3 ov ms.length rows.flatten∧zaf (zr7 M B) 3 rows ms
section
variable {B nb lg pd:Nat} {v:Value} {bs:List Int} {lasts room:Int} {p g mb:Nat} {hv dv:Value} {rows:List (List Value)} {l:List Dm} {h:List En} {bt:Bts} {tk me:Int} {ov:Value}
theorem zao.out {ov':Value} (H:zao F M B nb lg pd v bs lasts room p g mb hv dv rows l h bt tk me ov) (hm:za6 M N) (hn:M' nb=some (.cells 126 [.pointer (some ⟨lg,0,none⟩),.pointer (some ⟨p,0,none⟩),.int .i64 me,ov'] 4))
  (hM:∀ q,q≠nb -> (∀ c t,M q≠some (.cells 53 c t)) -> q<N -> M' q=M q):zao F M' B nb lg pd v bs lasts room p g mb hv dv rows l h bt tk me ov':=by
 have kp:∀ {q e c t},M q=some (.cells e c t) -> e≠126 -> e≠53 -> M' q=M q:=λ{q e c t} hq h1 h2=>
  hM q (zec hq H.nn h1) (λc' t' hq'=>by rw [hq] at hq'; simp only [Option.some.injEq,zah.cells.injEq] at hq'; exact h2 hq'.1) (hm.lt hq)
 obtain ⟨lr,hp⟩:=H.dk.pp;refine ⟨hn,(kp H.ll (by decide) (by decide)).trans H.ll,⟨⟨lr,(kp hp (by decide) (by decide)).trans hp⟩,H.dk.ow.keep (λq hq=>?_) (Nat.le_refl _),H.dk.ne,H.dk.bl⟩,H.pt.keep (za9.refl _) (λq hq=>?_)⟩
 ·obtain ⟨c,t,h1⟩:=zc6 H.dk.ow _ hq;exact kp h1 (by decide) (by decide)
 ·rcases hq with rfl | rfl | rfl | hq
  ·exact kp H.pt.pp (by decide) (by decide)
  ·obtain ⟨es,h1,_⟩:=H.pt.mm;refine hM _ (λe=>?_) (λc t e=>?_) (hm.lt h1)
   ·subst e; rw [H.nn] at h1; cases h1
   ·rw [h1] at e; cases e
  ·exact kp H.pt.cc.gg (by decide) (by decide)
  ·obtain ⟨c,t,h1⟩:=zc6 H.pt.cc.oo _ hq;exact kp h1 (by decide) (by decide)
theorem zpw {C:Nat} {to:Int} {cs:List Value} {m:zaj} {ms:List (Int×Int×List Int)} (H:zao F M B nb lg pd v bs lasts room p g mb hv dv rows l h bt tk me ov) (hB:C≤N) (O:zjm M C ov ms) (hms:ms.length≤1000000) (hr:zfq F cs m) (hL:m.lens) (ht:m.typ) (hE:(zag (zb7 m)).length≤2097152)
  (k0:¬ (zbz m=true∧(zag (zb7 m)).length≤60000) -> ∀ M' N',zao F M' B nb lg pd v bs lasts room p g mb hv dv rows l h bt tk me ov -> zjm M' C ov ms -> (∀ q,q<N -> M' q=M q) -> N≤N' -> za6 M' N' -> (Hp.mk F M' N').wf -> K (.tuple #[]) ⟨F,M',N'⟩)
  (k1:zbz m=true -> (zag (zb7 m)).length≤60000 -> ∀ ov' M' N',zao F M' B nb lg pd v bs lasts room p g mb hv dv rows l h bt tk me ov' -> zjm M' C ov' (ms++[(me,to,zbw m)]) -> (∀ q,q≠nb -> ov.ownBlock≠some q -> q<N -> M' q=M q∧ov'.ownBlock≠some q) -> N≤N' -> za6 M' N' -> (Hp.mk F M' N').wf -> K (.tuple #[]) ⟨F,M',N'⟩) :
  cF 44 #[.pointer (some ⟨nb,0,none⟩),.int .i64 to,.agg cs.toArray] K E ⟨F,M,N⟩:=by
 refine za5 mixed Tryz.func44 (by kernel_rfl) (t44 _ E _ _ _) (λhw=>?_);have hm:za6 M N:=hw.m;have hc1:=hr.one
 have okeep:∀ {M1 N1},za6 M N -> (∀ q,q<N -> M1 q=M q) -> N≤N1 -> zjm M1 C ov ms:=λhm hM _=>
  let ⟨rs,h1,h2⟩:=O; ⟨rs,h1.keep (λq hq=>hM q (h1.lt hm q hq)) (Nat.le_refl _),h2.mono λ_ _ hu=>hu.keep (λq c t h'=>hM q (hm.lt h'))⟩
 refine zar (cs:=cs) (λb hb=>?_) (by simp [Value.cells]);have hx:=za2 M b (some (.cells 49 cs cs.length));have hM1:∀ q,q<N -> upd M b (some (.cells 49 cs cs.length)) q=M q:=λq hq=>za4 _ _ (by omega);have hm1:=hm.new hb (some (.cells 49 cs cs.length));generalize upd M b _=M1 at *;refine zbd (vs:=cs) ?_ hx (by exact (show (List.drop 0 cs).take 8=cs by rw [List.drop_zero,← hc1.1,List.take_length])) (by exact (show 0+8≤cs.length by omega))
 have no:¬ (zbz m=true∧(zag (zb7 m)).length≤60000) -> ∀ N2,b+1≤N2 -> (Hp.mk F M1 N2).wf -> ∃ h',(Hp.mk F M1 N2).wk h'∧(h'.wf -> K (.tuple #[]) h'):=λhno N2 hN2 hc=>
  ⟨_,za0 hc,λhw'=>k0 hno M1 N2 (H.up hm (za9.refl _) hM1) (okeep hm hM1 (by omega)) hM1 (by omega) (hm1.up hN2) hw'⟩
 refine yip hr hL ht hE (λhs N2 hN2 hw2=>?_) (λhs hbig N2 hN2 hw2=>?_) (λhs hle w M2 N2 hw2 hM2 hN2 hm2 hwf2=>?_)
 ·try simp only [sS]
  refine zbo (by decide) ?_;try simp only [sS]
  exact no (λh=>by rw [hs] at h; cases h.1) N2 hN2
 ·try simp only [sS]
  refine zbo (by decide) ?_;try simp only [sS]
  exact no (λh=>by omega) N2 hN2
 try simp only [sS]
 refine zcj rfl ?_;try simp only [sS]
 have hM2':∀ q,q<N -> M2 q=M q:=λq hq=>(hM2 q (by omega)).trans (hM1 q hq);have H2:=H.up hm (za9.refl _) hM2';have O2:=okeep hm hM2' (by omega);obtain ⟨wa,wc,rfl,_⟩:=hw2.form;obtain ⟨rs,ho,hrs⟩:=O2;obtain ⟨oa,oc,rfl,_⟩:=ho.form;refine ldM (v:=.slice oa ms.length oc) ?_ H2.nn;try simp only [sS]
 refine ldM (v:=.int .i64 me) ?_ H2.nn;refine zab (v:=.agg #[.int .i64 me,.int .i64 to,.slice wa (zbw m).length wc]) (by kernel_rfl) ?_;refine zd7 (cs:=[.int .i64 me,.int .i64 to,.slice wa (zbw m).length wc]) (by kernel_rfl) (λb3 hb3=>?_);have hM3:∀ q,q<N2 -> upd M2 b3 (some (.cells 53 [.int .i64 me,.int .i64 to,.slice wa (zbw m).length wc] 3)) q=M2 q:=λq hq=>za4 _ _ (by omega);have hm3:=hm2.new hb3 (some (.cells 53 [.int .i64 me,.int .i64 to,.slice wa (zbw m).length wc] 3));have hsr:sR F (upd M2 b3 (some (.cells 53 [.int .i64 me,.int .i64 to,.slice wa (zbw m).length wc] 3))) 3 (.slice (some ⟨b3,0,none⟩) 1 1) 1 [.int .i64 me,.int .i64 to,.slice wa (zbw m).length wc]:=⟨rfl,.inr ⟨b3,0,1,_,rfl,Nat.le_refl _,.inr ⟨_,_,za2 _ _ _⟩,rfl⟩⟩;simp only [List.length_cons,List.length_nil,Nat.zero_add];generalize upd M2 b3 _=M3 at *;have H3:=H2.up hm2 (za9.refl _) hM3;refine ⟨zb6 (zbe H3.nn) rfl,?_⟩;have ho3:own M3 C 53 3 (.slice oa ms.length oc) ms.length rs.flatten:=ho.keep (λq hq=>hM3 q (ho.lt hm2 q hq)) (Nat.le_refl _);have hw3:=hw2.keep (M':=M3) (B':=C) (λq hq=>hM3 q (hw2.lt hm2 q hq)) (by omega);have hrs3:zaf (zr7 M3 C) 3 rs ms:=hrs.mono λ_ _ hu=>hu.keep (λq c t h'=>hM3 q (hm2.lt h'));refine ho3.app hm3 (by omega) hsr (List.all_eq_true.1 rfl) (by omega) (by unfold maxLen; omega) (λov' M4 N4 h4 hf4 hN4 hm4=>?_);obtain ⟨oa',oc',rfl,_⟩:=h4.form
 have oty:∀ {q e c t},M3 q=some (.cells e c t) -> e≠53 -> q<b3+1∧(Value.slice oa ms.length oc).ownBlock≠some q:=λ{q e c t} hq he=>⟨hm3.lt hq,λe'=>by
  obtain ⟨c',t',h'⟩:=zc6 ho3 _ e';exact zec hq h' he rfl⟩
 have hnb:=oty H3.nn (by decide);try simp only [sS]
 refine stM (cs':=[.pointer (some ⟨lg,0,none⟩),.pointer (some ⟨p,0,none⟩),.int .i64 me,.slice oa' (ms.length+1) oc']) ?_ ((hf4 nb hnb.2 hnb.1).1.trans H3.nn) rfl;have hn5:=za2 M4 nb (some (.cells 126 [.pointer (some ⟨lg,0,none⟩),.pointer (some ⟨p,0,none⟩),.int .i64 me,.slice oa' (ms.length+1) oc'] 4));have h5:∀ q,q≠nb -> upd M4 nb (some (.cells 126 [.pointer (some ⟨lg,0,none⟩),.pointer (some ⟨p,0,none⟩),.int .i64 me,.slice oa' (ms.length+1) oc'] 4)) q=M4 q:=λq hq=>za4 _ _ hq;have hm5:za6 (upd M4 nb (some (.cells 126 [.pointer (some ⟨lg,0,none⟩),.pointer (some ⟨p,0,none⟩),.int .i64 me,.slice oa' (ms.length+1) oc'] 4))) N4:=hm4.set (by omega) _;generalize upd M4 nb _=M5 at *
 have H5:zao F M5 B nb lg pd v bs lasts room p g mb hv dv rows l h bt tk me (.slice oa' (ms.length+1) oc'):=H3.out hm3 hn5 λq q1 q2 q3=>(h5 q q1).trans (hf4 q (λe'=>by
  obtain ⟨c',t',h'⟩:=zc6 ho3 _ e';exact q2 _ _ h') q3).1
 have k8:∀ q c t,M3 q=some (.cells 5 c t) -> M5 q=M3 q:=λq c t h'=>by
  have g:=oty h' (by decide);exact (h5 q (zec h' H3.nn (by decide))).trans (hf4 q g.2 g.1).1
 have O5:zjm M5 C (.slice oa' (ms.length+1) oc') (ms++[(me,to,zbw m)]):=by
  refine ⟨rs++[[.int .i64 me,.int .i64 to,.slice wa (zbw m).length wc]],?_,?_⟩
  ·rw [List.length_append,List.flatten_append];simp only [List.length_cons,List.length_nil,Nat.zero_add,List.flatten_cons,List.flatten_nil,List.append_nil]
   exact h4.keep (λq hq=>h5 q (λe=>by
    obtain ⟨c',t',h'⟩:=zc6 h4 _ hq;rw [e,(hf4 nb hnb.2 hnb.1).1] at h';exact zec h' H3.nn (by decide) rfl)) (Nat.le_refl _)
  ·exact (hrs3.mono λ_ _ hu=>hu.keep k8).snoc rfl (List.all_eq_true.1 rfl) (zr7.keep (m:=(me,to,zbw m)) ⟨_,rfl,hw3⟩ k8)
 refine λhc=>⟨_,za0 hc,λhw'=>k1 hs hle _ M5 N4 H5 O5 (λq q1 q2 q3=>?_) (by omega) hm5 hw'⟩;have g:=hf4 q q2 (by omega);exact ⟨(h5 q q1).trans (g.1.trans ((hM3 q (by omega)).trans (hM2' q q3))),g.2⟩
end
section
variable {B nb lg pd:Nat} {v:Value} {bs:List Int} {lasts room:Int} {p g mb:Nat} {hv dv:Value} {rows:List (List Value)} {l:List Dm} {h:List En} {bt:Bts} {tk me:Int} {ov:Value}
theorem zao.ptn (H:zao F M B nb lg pd v bs lasts room p g mb hv dv rows l h bt tk me ov) {q:Nat} {e:TypeId} {c:List Value} {t:Nat} (hq:M q=some (.cells e c t)) (he:e≠58∧e≠141∧e≠143):¬ (q=p∨q=mb∨q=g∨hv.ownBlock=some q):=λhh=>by
 have := H.ptne hq he
 rcases hh with rfl | rfl | rfl | hh
 ·exact this.2.2.2 rfl
 ·exact this.2.2.1 rfl
 ·exact this.2.1 rfl
 ·exact this.1 hh
theorem zao.disk {v':Value} {bs':List Int} {lasts':Int} (H:zao F M B nb lg pd v bs lasts room p g mb hv dv rows l h bt tk me ov) (hm:za6 M N) (P':zc5 M' B pd v' bs' lasts' room (-1)) (hf:bfr M M' N pd v v'):zao F M' B nb lg pd v' bs' lasts' room p g mb hv dv rows l h bt tk me ov:=by
 obtain ⟨lr,hp⟩:=H.dk.pp
 have vne:∀ {q e c t},M q=some (.cells e c t) -> e≠5 -> v.ownBlock≠some q:=λhq he hv=>by
  obtain ⟨c',t',h'⟩:=zc6 H.dk.ow _ hv;exact zec hq h' he rfl
 refine ⟨(hf nb (zec H.nn hp (by decide)) (vne H.nn (by decide)) (hm.lt H.nn)).1.trans H.nn,(hf lg (zec H.ll hp (by decide)) (vne H.ll (by decide)) (hm.lt H.ll)).1.trans H.ll,P',H.pt.keep (za9.refl _) λq hq=>(hf q (λe=>?_) (λe=>?_) (H.pt.lt hm q hq).2).1⟩
 ·subst e; exact H.ptn hp ⟨by decide,by decide,by decide⟩ hq
 ·obtain ⟨c',t',h'⟩:=zc6 H.dk.ow _ e;exact H.ptn h' ⟨by decide,by decide,by decide⟩ hq
theorem zao.part {hv':Value} {rows':List (List Value)} {h':List En} {bt':Bts} {tk':Int} (H:zao F M B nb lg pd v bs lasts room p g mb hv dv rows l h bt tk me ov) (hm:za6 M N) (P':zb9 F' M' B p g mb hv' dv rows' l h' bt' tk') (hf:pfr M M' N p g mb hv hv'):zao F' M' B nb lg pd v bs lasts room p g mb hv' dv rows' l h' bt' tk' me ov:=by
 have kp:∀ {q e c t},M q=some (.cells e c t) -> (e≠58∧e≠141∧e≠143) -> M' q=M q:=λ{q e c t} hq he=>by
  have := H.ptne hq he;exact (hf q this.1 this.2.1 this.2.2.1 this.2.2.2 (hm.lt hq)).1
 obtain ⟨lr,hp⟩:=H.dk.pp;refine ⟨(kp H.nn ⟨by decide,by decide,by decide⟩).trans H.nn,(kp H.ll ⟨by decide,by decide,by decide⟩).trans H.ll,⟨⟨lr,(kp hp ⟨by decide,by decide,by decide⟩).trans hp⟩,H.dk.ow.keep (λq hq=>?_) (Nat.le_refl _),H.dk.ne,H.dk.bl⟩,P'⟩;obtain ⟨c',t',h''⟩:=zc6 H.dk.ow _ hq;exact kp h'' ⟨by decide,by decide,by decide⟩
theorem yl0 {v' hv':Value} {M'':Nat -> Option zah} {N1:Nat} (h1:bfr M M' N pd v v') (h2:pfr M' M'' N1 p g mb hv hv') (hN:N≤N1):∀ q,¬ nft nb lg pd p g mb v hv q -> q<N -> M'' q=M q∧¬ nft nb lg pd p g mb v' hv' q:=λq q1 q2=>by
 have g1:=h1 q (λe=>q1 (.inr (.inr (.inl e)))) (λe=>q1 (.inr (.inr (.inr (.inl e))))) q2;have g2:=h2 q (λe=>q1 (.inr (.inr (.inr (.inr (.inr (.inr (.inr e)))))))) (λe=>q1 (.inr (.inr (.inr (.inr (.inr (.inr (.inl e)))))))) (λe=>q1 (.inr (.inr (.inr (.inr (.inr (.inl e))))))) (λe=>q1 (.inr (.inr (.inr (.inr (.inl e)))))) (by omega);refine ⟨g2.1.trans g1.1,λhh=>?_⟩
 rcases hh with hh | hh | hh | hh | hh | hh | hh | hh
 ·exact q1 (.inl hh)
 ·exact q1 (.inr (.inl hh))
 ·exact q1 (.inr (.inr (.inl hh)))
 ·exact g1.2 hh
 ·exact q1 (.inr (.inr (.inr (.inr (.inl hh)))))
 ·exact q1 (.inr (.inr (.inr (.inr (.inr (.inl hh))))))
 ·exact q1 (.inr (.inr (.inr (.inr (.inr (.inr (.inl hh)))))))
 ·exact g2.2 hh
def rAb (id:Int):zaj:=⟨3,id,0,[],[],0,0,[]⟩
def zos (id:Int):List Value:=[.int .u8 3,.int .u32 id,.int .u32 0,.slice none 0 0,.slice none 0 0,.int .u32 0,.slice none 0 0,.int .i64 0,.int .i64 0,.slice none 0 0]
theorem ykg (id:Int):zef F (zos id) (rAb id):=⟨none,0,.slice none 0 0,none,0,.slice none 0 0,rfl,sF.nil _ _ _,⟨[],sF.nil _ _ _,zaf.nil _ _⟩,zcb.nil⟩
theorem ya4 (id:Int):(rAb id).lens:=⟨by simp [rAb],by simp [rAb],by simp [rAb],λx hx=>absurd hx List.not_mem_nil⟩
theorem ye3 {id:Int} (h:0≤id∧id<4294967296):(rAb id).typ:=⟨h,⟨Int.le_refl _,by simp [rAb]⟩,λx hx=>absurd hx List.not_mem_nil,λx hx=>absurd hx List.not_mem_nil⟩
theorem yi5 {id:Int} (h:0≤id∧id<4294967296):(rAb id).ok:=⟨h,Int.le_refl _,by simp [rAb],by simp [rAb],by simp [rAb],λx hx=>absurd hx List.not_mem_nil⟩
theorem yok (id:Int):zbv (rAb id)=true:=by simp [zbv,rAb]
theorem znr (id:Int):(zag (rAb id)).length=5:=by rw [zfh]; simp [rAb]
theorem yk2 {id st:Int} (H:zao F M B nb lg pd v bs lasts room p g mb hv dv rows l h bt tk me ov) (hB:B≤N) (hr0:0≤room) (hroom:room≤2000000) (o:okH l 5000 200 h) (hdl:l.length≤1000) (hid:0≤id∧id<4294967296) (hfb:(zal bt id).fs.length≤140737488351232)
  (k0:(st>1∨¬ (bs.length:Int)+12≤room) -> ∀ M' N',zao F M' B nb lg pd v bs lasts room p g mb hv dv rows l h bt tk me ov -> (∀ q,¬ nft nb lg pd p g mb v hv q -> q<N -> M' q=M q) -> N≤N' -> za6 M' N' -> (Hp.mk F M' N').wf -> K (.tuple #[]) ⟨F,M',N'⟩)
  (k1:¬ st>1 -> (bs.length:Int)+12≤room -> ∀ v' hv' F' M' N' rows',za9 F F' -> zao F' M' B nb lg pd v' (bs++zbg (zag (rAb id))) lasts room p g mb hv' dv rows' l (apH l h bt tk (rAb id)) (apS l h bt (rAb id)) (apT l h tk (rAb id)) me ov ->
   (∀ q,¬ nft nb lg pd p g mb v hv q -> q<N -> M' q=M q∧¬ nft nb lg pd p g mb v' hv' q) -> N≤N' -> za6 M' N' -> (Hp.mk F' M' N').wf -> K (.tuple #[]) ⟨F',M',N'⟩) :
  cF 47 #[.pointer (some ⟨nb,0,none⟩),.int .u32 id,.int .u8 st] K E ⟨F,M,N⟩:=by
 refine za5 mixed Tryz.func47 (by kernel_rfl) (t47 _ E _ _ _) (λhw=>?_);have hm:za6 M N:=hw.m;refine zby (λhg=>zav ?_) (λhg=>zan ?_)
 ·exact λhc=>⟨_,za0 hc,λhw'=>k0 (.inl hg) M N H (λ_ _ _=>rfl) (Nat.le_refl _) hm hw'⟩
 refine zab (v:=.agg (zos id).toArray) (by kernel_rfl) ?_;refine zar (cs:=zak) (λb hb=>?_);refine stM (cs':=zos id) ?_ (za2 _ _ _) rfl rfl (List.all_eq_true.1 rfl);rw [zas];have hel:zak.length=10:=rfl;try simp only [hel]
 have hx:=za2 M b (some (.cells 77 (zos id) 10));have hM1:∀ q,q<N -> upd M b (some (.cells 77 (zos id) 10)) q=M q:=λq hq=>za4 _ _ (by omega);have hm1:=hm.new hb (some (.cells 77 (zos id) 10));generalize upd M b _=M1 at *;have H1:=H.up hm (za9.refl _) hM1;obtain ⟨lr,hdp⟩:=H1.dk.pp
 have vne:∀ {q e c t},M1 q=some (.cells e c t) -> e≠5 -> v.ownBlock≠some q:=λhq he hv=>by
  obtain ⟨c',t',h'⟩:=zc6 H1.dk.ow _ hv;exact zec hq h' he rfl
 try simp only [sS]
 refine ldM (v:=.pointer (some ⟨lg,0,none⟩)) ?_ H1.nn;refine zbd (vs:=zos id) ?_ hx rfl (by exact (show 0+10≤10 by omega))
 refine ydy H1.dk (by omega) H1.ll (vne H1.ll (by decide)) (zec H1.ll hdp (by decide)) hr0 hroom (ykg id) (ya4 id) (ye3 hid) (by simp [rAb]) (by rw [znr]; omega) (λh0=>by rw [yok] at h0; cases h0) (λh0 hbig=>by rw [znr] at hbig; omega)
  (λh0 hle hno M2 N2 P2 hf2 hN2 hm2 hw2=>?_) (λh0 hle hyes v2 M2 N2 P2 hf2 hN2 hm2 hw2=>?_)
 ·rw [znr] at hno;refine zbo (by decide) ?_;try simp only [sS]
  refine λhc=>⟨_,za0 hc,λhw'=>k0 (.inr (by omega)) M2 N2 (H1.disk hm1 P2 hf2) (λq q1 q2=>?_) (by omega) hm2 hw'⟩;exact (hf2 q (λe=>q1 (.inr (.inr (.inl e)))) (λe=>q1 (.inr (.inr (.inr (.inl e))))) (by omega)).1.trans (hM1 q q2)
 ·rw [znr] at hyes;have H2:=H1.disk hm1 P2 hf2;refine zcj rfl ?_;try simp only [sS]
  refine ldM (v:=.pointer (some ⟨p,0,none⟩)) ?_ H2.nn;refine zbd (vs:=zos id) ?_ ((hf2 b (zec hx hdp (by decide)) (vne hx (by decide)) (by omega)).1.trans hx) rfl (by exact (show 0+10≤10 by omega));refine zsd H2.pt (by omega) o hdl (ykg id).rec (yi5 hid) hfb (λhv3 F3 M3 N3 rows3 hF3 P3 hf3 hN3 hm3 hw3=>?_);have H3:=H2.part hm2 P3 hf3;have hst:=yl0 (nb:=nb) (lg:=lg) hf2 hf3 (by omega);refine λhc=>⟨_,za0 hc,λhw'=>k1 hg (by omega) v2 hv3 F3 M3 N3 rows3 hF3 H3 (λq q1 q2=>?_) (by omega) hm3 hw'⟩;exact ⟨(hst q q1 (by omega)).1.trans (hM1 q q2),(hst q q1 (by omega)).2⟩
end
section
variable {B nb lg pd:Nat} {v:Value} {bs:List Int} {lasts room:Int} {p g mb:Nat} {hv dv:Value} {rows:List (List Value)} {l:List Dm} {h:List En} {bt:Bts} {tk me:Int} {ov:Value}
def zke (bs:List Int) (room:Int) (r:zaj):Prop:=zbv r=true∧(zag r).length≤60000∧(bs.length:Int)+((zag r).length+7:Nat)≤room
def rCo (id at':Int):zaj:=⟨2,id,at',[],[],0,0,[]⟩
def yr5 (id at':Int):List Value:=[.int .u8 2,.int .u32 id,.int .u32 at',.slice none 0 0,.slice none 0 0,.int .u32 0,.slice none 0 0,.int .i64 0,.int .i64 0,.slice none 0 0]
theorem yui (id at':Int):zef F (yr5 id at') (rCo id at'):=⟨none,0,.slice none 0 0,none,0,.slice none 0 0,rfl,sF.nil _ _ _,⟨[],sF.nil _ _ _,zaf.nil _ _⟩,zcb.nil⟩
theorem yjy (id at':Int):(rCo id at').lens:=⟨by simp [rCo],by simp [rCo],by simp [rCo],λx hx=>absurd hx List.not_mem_nil⟩
theorem ynx {id at':Int} (h:0≤id∧id<4294967296) (h2:0≤at'∧at'<4294967296):(rCo id at').typ:=⟨h,h2,λx hx=>absurd hx List.not_mem_nil,λx hx=>absurd hx List.not_mem_nil⟩
theorem yrh {id at':Int} (h:0≤id∧id<4294967296) (h2:0≤at'∧at'<4294967296):(rCo id at').ok:=⟨h,h2.1,by simp [rCo],by simp [rCo],by simp [rCo],λx hx=>absurd hx List.not_mem_nil⟩
theorem ype (id at':Int):(zag (rCo id at')).length=10:=by rw [zfh]; simp [rCo,zcn,zaa]
theorem yjw {id st:Int} (H:zao F M B nb lg pd v bs lasts room p g mb hv dv rows l h bt tk me ov) (hB:B≤N) (hr0:0≤room) (hroom:room≤2000000) (o:okH l 5000 200 h) (hdl:l.length≤1000) (hid:0≤id∧id<4294967296) (hfb:(zal bt id).fs.length≤140737488351232)
  (kS:st≠0 -> (Hp.mk F M N).wf -> K (.bool (decide (st=3))) ⟨F,M,N⟩)
  (k0:st=0 -> ¬ zke bs room (rAb id) -> ∀ M' N',zao F M' B nb lg pd v bs lasts room p g mb hv dv rows l h bt tk me ov -> (∀ q,¬ nft nb lg pd p g mb v hv q -> q<N -> M' q=M q) -> N≤N' -> za6 M' N' -> (Hp.mk F M' N').wf -> K (.bool false) ⟨F,M',N'⟩)
  (k1:st=0 -> zke bs room (rAb id) -> ∀ v' hv' F' M' N' rows',za9 F F' -> zao F' M' B nb lg pd v' (bs++zbg (zag (rAb id))) ((bs++zbg (zag (rAb id))).length:Nat) room p g mb hv' dv rows' l (apH l h bt tk (rAb id)) (apS l h bt (rAb id)) (apT l h tk (rAb id)) me ov ->
   (∀ q,¬ nft nb lg pd p g mb v hv q -> q<N -> M' q=M q∧¬ nft nb lg pd p g mb v' hv' q) -> N≤N' -> za6 M' N' -> (Hp.mk F' M' N').wf -> K (.bool (decide (apE l h bt tk (rAb id)=0))) ⟨F',M',N'⟩) :
  cF 48 #[.pointer (some ⟨nb,0,none⟩),.int .u32 id,.int .u8 st] K E ⟨F,M,N⟩:=by
 refine za5 mixed Tryz.func48 (by kernel_rfl) (t48 _ E _ _ _) (λhw=>?_);have hm:za6 M N:=hw.m;refine zat (λh3=>?_) (λh3=>?_)
 ·try simp only [sS]
  exact λhc=>⟨_,za0 hc,λhw'=>by have := kS (by omega) hw'; rwa [decide_eq_true h3] at this⟩
 try simp only [sS]
 refine zat (λh0=>?_) (λh0=>?_)
 rotate_left
 ·try simp only [sS]
  exact λhc=>⟨_,za0 hc,λhw'=>by have := kS h0 hw'; rwa [decide_eq_false h3] at this⟩
 try simp only [sS]
 refine zab (v:=.agg (zos id).toArray) (by kernel_rfl) ?_;refine zo2 H hB hr0 hroom o hdl (ykg id) (ya4 id) (ye3 hid) (by simp [rAb]) (by rw [znr]; omega) (yi5 hid) hfb (λhno M' N' H' hf hN' hm' hw'=>?_) (λhs hle hyes v' hv' F' M' N' rows' hF' H' hf hN' hm' hw'=>?_)
 ·try simp only [sS]
  exact λhc=>⟨_,za0 hc,λhw'=>k0 h0 hno M' N' H' hf hN' hm' hw'⟩
 ·try simp only [sS]
  exact λhc=>⟨_,za0 hc,λhw'=>k1 h0 ⟨hs,hle,hyes⟩ v' hv' F' M' N' rows' hF' H' hf hN' hm' hw'⟩
theorem yht {st:Int} {cs:List Value} {m:zaj} (H:zao F M B nb lg pd v bs lasts room p g mb hv dv rows l h bt tk me ov) (hB:B≤N) (hr0:0≤room) (hroom:room≤2000000) (o:okH l 5000 200 h) (hdl:l.length≤1000) (hr:zfq F cs m) (ht:m.typ) (hfb:(zal bt m.id).fs.length≤140737488351232)
  (kS:st≠1 -> ∀ M' N',zao F M' B nb lg pd v bs lasts room p g mb hv dv rows l h bt tk me ov -> (∀ q,q<N -> M' q=M q) -> N≤N' -> za6 M' N' -> (Hp.mk F M' N').wf -> K (.bool (decide (st=2))) ⟨F,M',N'⟩)
  (k0:st=1 -> ¬ zke bs room (rCo m.id m.tm) -> ∀ M' N',zao F M' B nb lg pd v bs lasts room p g mb hv dv rows l h bt tk me ov -> (∀ q,¬ nft nb lg pd p g mb v hv q -> q<N -> M' q=M q) -> N≤N' -> za6 M' N' -> (Hp.mk F M' N').wf -> K (.bool false) ⟨F,M',N'⟩)
  (k1:st=1 -> zke bs room (rCo m.id m.tm) -> ∀ v' hv' F' M' N' rows',za9 F F' -> zao F' M' B nb lg pd v' (bs++zbg (zag (rCo m.id m.tm))) ((bs++zbg (zag (rCo m.id m.tm))).length:Nat) room p g mb hv' dv rows' l (apH l h bt tk (rCo m.id m.tm)) (apS l h bt (rCo m.id m.tm)) (apT l h tk (rCo m.id m.tm)) me ov ->
   (∀ q,¬ nft nb lg pd p g mb v hv q -> q<N -> M' q=M q∧¬ nft nb lg pd p g mb v' hv' q) -> N≤N' -> za6 M' N' -> (Hp.mk F' M' N').wf -> K (.bool (decide (apE l h bt tk (rCo m.id m.tm)=0))) ⟨F',M',N'⟩) :
  cF 46 #[.pointer (some ⟨nb,0,none⟩),.agg cs.toArray,.int .u8 st] K E ⟨F,M,N⟩:=by
 refine za5 mixed Tryz.func46 (by kernel_rfl) (t46 _ E _ _ _) (λhw=>?_);have hm:za6 M N:=hw.m;obtain ⟨na,nc,fv,ev,rfl,hn,hf,he⟩:=hr;obtain ⟨fa,fc,rfl⟩:=hf.form;obtain ⟨ea,ec,rfl⟩:=he.form;refine zar (cs:=[.int .u8 m.kind,.int .u32 m.id,.int .u32 m.tm,.slice na m.ns.length nc,.slice fa m.fs.length fc,.int .i64 m.lo,.int .i64 m.hi,.slice ea m.es.length ec]) (λb hb=>?_);have hx:=za2 M b (some (.cells 49 [.int .u8 m.kind,.int .u32 m.id,.int .u32 m.tm,.slice na m.ns.length nc,.slice fa m.fs.length fc,.int .i64 m.lo,.int .i64 m.hi,.slice ea m.es.length ec] 8));have hM1:∀ q,q<N -> upd M b (some (.cells 49 [.int .u8 m.kind,.int .u32 m.id,.int .u32 m.tm,.slice na m.ns.length nc,.slice fa m.fs.length fc,.int .i64 m.lo,.int .i64 m.hi,.slice ea m.es.length ec] 8)) q=M q:=λq hq=>za4 _ _ (by omega);have hm1:=hm.new hb (some (.cells 49 [.int .u8 m.kind,.int .u32 m.id,.int .u32 m.tm,.slice na m.ns.length nc,.slice fa m.fs.length fc,.int .i64 m.lo,.int .i64 m.hi,.slice ea m.es.length ec] 8));simp only [List.length_cons,List.length_nil,Nat.zero_add];generalize upd M b _=M1 at *;have H1:=H.up hm (za9.refl _) hM1;refine zat (λh2=>?_) (λh2=>?_)
 ·try simp only [sS]
  exact λhc=>⟨_,za0 hc,λhw'=>by have := kS (by omega) M1 _ H1 hM1 (by omega) hm1 hw'; rwa [decide_eq_true h2] at this⟩
 try simp only [sS]
 refine zat (λh1=>?_) (λh1=>?_)
 rotate_left
 ·try simp only [sS]
  exact λhc=>⟨_,za0 hc,λhw'=>by have := kS h1 M1 _ H1 hM1 (by omega) hm1 hw'; rwa [decide_eq_false h2] at this⟩
 try simp only [sS]
 refine ldM (v:=.int .u32 m.id) ?_ hx;try simp only [sS]
 refine ldM (v:=.int .u32 m.tm) ?_ hx;refine zab (v:=.agg (yr5 m.id m.tm).toArray) (by kernel_rfl) ?_;refine zo2 H1 (by omega) hr0 hroom o hdl (yui m.id m.tm) (yjy m.id m.tm) (ynx ht.i0 ht.t0) (by simp [rCo]) (by rw [ype]; omega) (yrh ht.i0 ht.t0) hfb (λhno M' N' H' hf hN' hm' hw'=>?_) (λhs hle hyes v' hv' F' M' N' rows' hF' H' hf hN' hm' hw'=>?_)
 ·try simp only [sS]
  exact λhc=>⟨_,za0 hc,λhw'=>k0 h1 hno M' N' H' (λq q1 q2=>(hf q q1 (by omega)).trans (hM1 q q2)) (by omega) hm' hw'⟩
 ·try simp only [sS]
  exact λhc=>⟨_,za0 hc,λhw'=>k1 h1 ⟨hs,hle,hyes⟩ v' hv' F' M' N' rows' hF' H' (λq q1 q2=>⟨(hf q q1 (by omega)).1.trans (hM1 q q2),(hf q q1 (by omega)).2⟩) (by omega) hm' hw'⟩
end
section
variable {B nb lg pd:Nat} {v:Value} {bs:List Int} {lasts room:Int} {p g mb:Nat} {hv dv:Value} {rows:List (List Value)} {l:List Dm} {h:List En} {bt:Bts} {tk me:Int} {ov:Value}
def rPr (m:zaj):zaj:=⟨1,m.id,0,m.ns,m.fs,0,0,[]⟩
def prS (st:Int):Int:=if st=1 then 2 else if st=2 then 6 else 3
theorem yoo {st:Int} {cs:List Value} {m:zaj} (H:zao F M B nb lg pd v bs lasts room p g mb hv dv rows l h bt tk me ov) (hB:B≤N) (hr0:0≤room) (hroom:room≤2000000) (o:okH l 5000 200 h) (hdl:l.length≤1000) (hr:zfq F cs m) (hL:m.lens) (ht:m.typ) (hE:(zag (rPr m)).length≤2000000) (hnl:m.ns.length≤17592186043904) (hfb:(zal bt m.id).fs.length≤140737488351232)
  (kS:(st=1∨st=2∨st=3) -> ∀ M' N',zao F M' B nb lg pd v bs lasts room p g mb hv dv rows l h bt tk me ov -> (∀ q,q<N -> M' q=M q) -> N≤N' -> za6 M' N' -> (Hp.mk F M' N').wf -> K (.int .u8 (prS st)) ⟨F,M',N'⟩)
  (k0:¬ (st=1∨st=2∨st=3) -> ¬ (zd1 l m.fs=true∧zke bs room (rPr m)) -> ∀ M' N',zao F M' B nb lg pd v bs lasts room p g mb hv dv rows l h bt tk me ov -> (∀ q,¬ nft nb lg pd p g mb v hv q -> q<N -> M' q=M q) -> N≤N' -> za6 M' N' -> (Hp.mk F M' N').wf -> K (.int .u8 3) ⟨F,M',N'⟩)
  (k1:¬ (st=1∨st=2∨st=3) -> zd1 l m.fs=true -> zke bs room (rPr m) -> ∀ v' hv' F' M' N' rows',za9 F F' -> zao F' M' B nb lg pd v' (bs++zbg (zag (rPr m))) ((bs++zbg (zag (rPr m))).length:Nat) room p g mb hv' dv rows' l (apH l h bt tk (rPr m)) (apS l h bt (rPr m)) (apT l h tk (rPr m)) me ov ->
   (∀ q,¬ nft nb lg pd p g mb v hv q -> q<N -> M' q=M q∧¬ nft nb lg pd p g mb v' hv' q) -> N≤N' -> za6 M' N' -> (Hp.mk F' M' N').wf -> K (.int .u8 (if apE l h bt tk (rPr m)=0 then 2 else 3)) ⟨F',M',N'⟩) :
  cF 45 #[.pointer (some ⟨nb,0,none⟩),.agg cs.toArray,.int .u8 st] K E ⟨F,M,N⟩:=by
 refine za5 mixed Tryz.func45 (by kernel_rfl) (t45 _ E _ _ _) (λhw=>?_);have hm:za6 M N:=hw.m;obtain ⟨na,nc,fv,ev,rfl,hn,hf,he⟩:=hr;obtain ⟨fa,fc,rfl⟩:=hf.form;obtain ⟨ea,ec,rfl⟩:=he.form;refine zar (cs:=[.int .u8 m.kind,.int .u32 m.id,.int .u32 m.tm,.slice na m.ns.length nc,.slice fa m.fs.length fc,.int .i64 m.lo,.int .i64 m.hi,.slice ea m.es.length ec]) (λb hb=>?_);have hx:=za2 M b (some (.cells 49 [.int .u8 m.kind,.int .u32 m.id,.int .u32 m.tm,.slice na m.ns.length nc,.slice fa m.fs.length fc,.int .i64 m.lo,.int .i64 m.hi,.slice ea m.es.length ec] 8));have hM1:∀ q,q<N -> upd M b (some (.cells 49 [.int .u8 m.kind,.int .u32 m.id,.int .u32 m.tm,.slice na m.ns.length nc,.slice fa m.fs.length fc,.int .i64 m.lo,.int .i64 m.hi,.slice ea m.es.length ec] 8)) q=M q:=λq hq=>za4 _ _ (by omega);have hm1:=hm.new hb (some (.cells 49 [.int .u8 m.kind,.int .u32 m.id,.int .u32 m.tm,.slice na m.ns.length nc,.slice fa m.fs.length fc,.int .i64 m.lo,.int .i64 m.hi,.slice ea m.es.length ec] 8));simp only [List.length_cons,List.length_nil,Nat.zero_add];generalize upd M b _=M1 at *;have H1:=H.up hm (za9.refl _) hM1
 have said:(st=1∨st=2∨st=3) -> ∀ y,prS st=y -> (Hp.mk F M1 (b+1)).wf -> ∃ h',(Hp.mk F M1 (b+1)).wk h'∧(h'.wf -> K (.int .u8 y) h'):=λhs y e hc=>by
  subst e;exact ⟨_,za0 hc,λhw'=>kS hs M1 _ H1 hM1 (by omega) hm1 hw'⟩
 refine zat (λh1=>zav ?_) (λh1=>zan ?_)
 ·exact said (.inl h1) 2 (by unfold prS; rw [if_pos h1])
 refine zat (λh2=>zav ?_) (λh2=>zan ?_)
 ·exact said (.inr (.inl h2)) 6 (by unfold prS; rw [if_neg h1,if_pos h2])
 refine zat (λh3=>zav ?_) (λh3=>zan ?_)
 ·exact said (.inr (.inr h3)) 3 (by unfold prS; rw [if_neg h1,if_neg h2])
 have hno:¬ (st=1∨st=2∨st=3):=by omega
 try simp only [sS]
 refine ldM (v:=.int .u32 m.id) ?_ hx;try simp only [sS]
 refine ldM (v:=.slice na m.ns.length nc) ?_ hx;try simp only [sS]
 refine ldM (v:=.slice fa m.fs.length fc) ?_ hx;refine zab (v:=.agg ([.int .u8 1,.int .u32 m.id,.int .u32 0,.slice na m.ns.length nc,.slice fa m.fs.length fc,.int .u32 0,.slice none 0 0,.int .i64 0,.int .i64 0,.slice none 0 0]:List Value).toArray) (by kernel_rfl) ?_;refine zar (cs:=zak) (λrb hrb=>?_);refine stM (cs':=[.int .u8 1,.int .u32 m.id,.int .u32 0,.slice na m.ns.length nc,.slice fa m.fs.length fc,.int .u32 0,.slice none 0 0,.int .i64 0,.int .i64 0,.slice none 0 0]) ?_ (za2 _ _ _) rfl rfl (List.all_eq_true.1 rfl);rw [zas];have hel:zak.length=10:=rfl;try simp only [hel]
 have hy:=za2 M1 rb (some (.cells 77 [.int .u8 1,.int .u32 m.id,.int .u32 0,.slice na m.ns.length nc,.slice fa m.fs.length fc,.int .u32 0,.slice none 0 0,.int .i64 0,.int .i64 0,.slice none 0 0] 10));have hM2:∀ q,q<b+1 -> upd M1 rb (some (.cells 77 [.int .u8 1,.int .u32 m.id,.int .u32 0,.slice na m.ns.length nc,.slice fa m.fs.length fc,.int .u32 0,.slice none 0 0,.int .i64 0,.int .i64 0,.slice none 0 0] 10)) q=M1 q:=λq hq=>za4 _ _ (by omega);have hm2:=hm1.new hrb (some (.cells 77 [.int .u8 1,.int .u32 m.id,.int .u32 0,.slice na m.ns.length nc,.slice fa m.fs.length fc,.int .u32 0,.slice none 0 0,.int .i64 0,.int .i64 0,.slice none 0 0] 10));generalize upd M1 rb _=M2 at *;have H2:=H1.up hm1 (za9.refl _) hM2;have hM2':∀ q,q<N -> M2 q=M q:=λq hq=>(hM2 q (by omega)).trans (hM1 q hq);try simp only [sS]
 refine ldM (v:=.pointer (some ⟨p,0,none⟩)) ?_ H2.nn;try simp only [sS]
 refine ldM (v:=.pointer (some ⟨g,0,none⟩)) ?_ H2.pt.pp;try simp only [sS]
 refine ldM (v:=.slice fa m.fs.length fc) ?_ ((hM2 b (by omega)).trans hx);refine zv2 H2.pt.cc.gg H2.pt.cc.dd (by omega) hf hL.fl (λN3 hN3 hw3=>?_);have hm3:=hm2.up hN3;cases hft:zd1 l m.fs
 ·try simp only [sS]
  exact λhc=>⟨_,za0 hc,λhw'=>k0 hno (λh=>by rw [hft] at h; cases h.1) M2 N3 H2 (λq _ q2=>hM2' q q2) (by omega) hm3 hw'⟩
 try simp only [sS]
 refine zbd (vs:=[.int .u8 1,.int .u32 m.id,.int .u32 0,.slice na m.ns.length nc,.slice fa m.fs.length fc,.int .u32 0,.slice none 0 0,.int .i64 0,.int .i64 0,.slice none 0 0]) ?_ hy;have hz:zef F [.int .u8 1,.int .u32 m.id,.int .u32 0,.slice na m.ns.length nc,.slice fa m.fs.length fc,.int .u32 0,.slice none 0 0,.int .i64 0,.int .i64 0,.slice none 0 0] (rPr m):=⟨na,nc,_,none,0,_,rfl,hn,hf,zcb.nil⟩
 refine zo2 H2 (by omega) hr0 hroom o hdl hz ⟨hL.nl,hL.fl,by simp [rPr],λx hx=>absurd hx List.not_mem_nil⟩ ⟨ht.i0,⟨Int.le_refl _,by simp [rPr]⟩,ht.fv,λx hx=>absurd hx List.not_mem_nil⟩ (by simp [rPr]) hE ⟨ht.i0,Int.le_refl _,hnl,hL.fl,by simp [rPr],λx hx=>absurd hx List.not_mem_nil⟩ hfb
  (λhno2 M' N' H' hf' hN' hm' hw'=>?_) (λhs hle hyes v' hv' F' M' N' rows' hF' H' hf' hN' hm' hw'=>?_)
 ·try simp only [sS]
  exact λhc=>⟨_,za0 hc,λhw'=>k0 hno (λh=>hno2 h.2) M' N' H' (λq q1 q2=>(hf' q q1 (by omega)).trans (hM2' q q2)) (by omega) hm' hw'⟩
 ·have last:=k1 hno hft ⟨hs,hle,hyes⟩ v' hv' F' M' N' rows' hF' H' (λq q1 q2=>⟨(hf' q q1 (by omega)).1.trans (hM2' q q2),(hf' q q1 (by omega)).2⟩) (by omega) hm'
  by_cases ha:apE l h bt tk (rPr m)=0
  ·rw [decide_eq_true ha];rw [if_pos ha] at last;try simp only [sS]
   exact λhc=>⟨_,za0 hc,last⟩
  ·rw [decide_eq_false ha];rw [if_neg ha] at last;try simp only [sS]
   exact λhc=>⟨_,za0 hc,last⟩
end
section
variable {B nb lg pd:Nat} {v:Value} {bs:List Int} {lasts room:Int} {p g mb:Nat} {hv dv:Value} {rows:List (List Value)} {l:List Dm} {h:List En} {bt:Bts} {tk me:Int} {ov:Value}
theorem zl9 (H:zao F M B nb lg pd v bs lasts room p g mb hv dv rows l h bt tk me ov) (k:(Hp.mk F M N).wf -> K (.pointer (some ⟨p,0,none⟩)) ⟨F,M,N⟩) :
  cF 13 #[.pointer (some ⟨nb,0,none⟩)] K E ⟨F,M,N⟩:=by
 refine za5 mixed Tryz.func13 (by kernel_rfl) (t13 _ E _) (λhw=>?_);try simp only [sS]
 refine ldM (v:=.pointer (some ⟨p,0,none⟩)) ?_ H.nn;exact λhc=>⟨_,za0 hc,k⟩
def zbn (kind id:Int):zaj:=⟨kind,id,0,[],[],0,0,[]⟩
def zh4 (kind id:Int):List Value:=[.int .u8 kind,.int .u32 id,.int .u32 0,.slice none 0 0,.slice none 0 0,.int .i64 0,.int .i64 0,.slice none 0 0]
theorem zuj (kind id:Int):zfq F (zh4 kind id) (zbn kind id):=⟨none,0,.slice none 0 0,.slice none 0 0,rfl,sF.nil _ _ _,⟨[],sF.nil _ _ _,zaf.nil _ _⟩,zcb.nil⟩
theorem zki (kind id:Int):(zbn kind id).lens:=⟨by simp [zbn],by simp [zbn],by simp [zbn],λx hx=>absurd hx List.not_mem_nil⟩
theorem zir {kind id:Int} (h:0≤id∧id<4294967296):(zbn kind id).typ:=⟨h,⟨Int.le_refl _,by simp [zbn]⟩,λx hx=>absurd hx List.not_mem_nil,λx hx=>absurd hx List.not_mem_nil⟩
theorem zm4 {kind id:Int} (h:kind=2∨kind=3∨kind=5∨kind=6∨kind=7∨kind=11):zbz (zbn kind id)=true∧(zag (zb7 (zbn kind id))).length=5:=by
 rcases h with rfl | rfl | rfl | rfl | rfl | rfl<;>exact ⟨by simp [zbz,zbn,zb7,zcf,zbv],by rw [zfh]; simp [zbn,zb7,zcf]⟩
theorem yqo {C:Nat} {kind id frm:Int} {t1 t2 t6:Nat} {cs:List Value} {ms:List (Int×Int×List Int)} (H:zao F M B nb lg pd v bs lasts room p g mb hv dv rows l h bt tk me ov) (hB:C≤N) (O:zjm M C ov ms) (hms:ms.length≤1000000) (hk:kind=2∨kind=3∨kind=5∨kind=6∨kind=7∨kind=11) (hid:0≤id∧id<4294967296)
  (h1:M t1=some (.cells 31 [.pointer (some ⟨nb,0,none⟩)] 1)) (h2:M t2=some (.cells 3 [.int .i64 frm] 1)) (h6:M t6=some (.cells 49 cs 8)) (hc:cs[1]?=some (.int .u32 id))
  (k:∀ ov' M' N',zao F M' B nb lg pd v bs lasts room p g mb hv dv rows l h bt tk me ov' -> zjm M' C ov' (ms++[(me,frm,zbw (zbn kind id))]) -> (∀ q,q≠nb -> ov.ownBlock≠some q -> q<N -> M' q=M q∧ov'.ownBlock≠some q) -> N≤N' -> za6 M' N' -> (Hp.mk F M' N').wf -> K (.tuple #[]) ⟨F,M',N'⟩) :
  zbq Tryz.prog (.func (.func 43) #[] #[.pointer (some ⟨t1,0,none⟩),.pointer (some ⟨t2,0,none⟩),.pointer (some ⟨t6,0,none⟩)]) #[.int .u8 kind] K E ⟨F,M,N⟩:=by
 refine za5 mixed Tryz.func43 (by kernel_rfl) (t43 _ E _ _ _ _) (λhw=>?_);refine ldM (v:=.pointer (some ⟨nb,0,none⟩)) ?_ h1;refine ldM (v:=.int .i64 frm) ?_ h2;try simp only [sS]
 refine ldM (v:=.int .u32 id) ?_ h6 hc;refine zab (v:=.agg (zh4 kind id).toArray) (by kernel_rfl) ?_;obtain ⟨g1,g2⟩:=zm4 (id:=id) hk;refine zpw H hB O hms (zuj kind id) (zki kind id) (zir hid) (by omega) (λhno=>absurd ⟨g1,by omega⟩ hno) (λ_ _ ov' M' N' H' O' hf hN hm' hw'=>?_);exact λhc=>⟨_,za0 hc,k ov' M' N' H' O' hf hN hm'⟩
end
def zcm (l:List Dm):List zaj -> (List En×Bts×Int) -> (List En×Bts×Int)
 | [],s=>s
 | r::rs,s=>zcm l rs (apH l s.1 s.2.1 s.2.2 r,apS l s.1 s.2.1 r,apT l s.1 s.2.2 r)
theorem zvw (l:List Dm) (r:zaj):∀ (rs:List zaj) (s:List En×Bts×Int),zcm l (rs++[r]) s=(apH l (zcm l rs s).1 (zcm l rs s).2.1 (zcm l rs s).2.2 r,apS l (zcm l rs s).1 (zcm l rs s).2.1 r,apT l (zcm l rs s).1 (zcm l rs s).2.2 r)
 | [],s=>rfl
 | x::rs,s=>by rw [List.cons_append,zcm,zvw l r rs]; rfl
section
variable {B p g mb:Nat} {hv dv:Value} {rows:List (List Value)} {l:List Dm} {h:List En} {bt:Bts} {tk:Int}
theorem yta (P:zb9 F M B p g mb hv dv rows l h bt tk) {q:Nat} {e:TypeId} {c:List Value} {t:Nat} (hq:M q=some (.cells e c t)) (he:e≠58∧e≠141∧e≠143):hv.ownBlock≠some q∧q≠g∧q≠mb∧q≠p:=by
 refine ⟨λe'=>?_,zec hq P.cc.gg he.2.1,λe'=>?_,zec hq P.pp he.1⟩
 ·obtain ⟨c',t',h'⟩:=zc6 P.cc.oo _ e';exact zec hq h' he.2.2 rfl
 ·obtain ⟨es,h1,_⟩:=P.mm;subst e'; rw [hq] at h1; cases h1
theorem yrw {B':Nat} (P:zb9 F M B p g mb hv dv rows l h bt tk) (hB:B'≤B):zb9 F M B' p g mb hv dv rows l h bt tk :=
 ⟨P.pp,by have := P.pB; omega,by have := P.mB; omega,P.mm,⟨P.cc.gg,by have := P.cc.gB; omega,P.cc.oo.keep (λ_ _=>rfl) hB,P.cc.rr,P.cc.vg,P.cc.dd,P.cc.rs⟩⟩
end
theorem ypm {B pd:Nat} {v dv:Value} {bs:List Int} {lasts room me:Int} {l:List Dm} {rs:List zaj} (P:zc5 M B pd v bs lasts room (-1)) (hB:B≤N) (hd:zeb F dv l) (hdl:l.length≤1000) (h8:zbi bs) (h6:∀ xs e,chain bs 0 xs e -> zck (bs.drop e)=none -> ∀ x∈xs,∀ k q,rd 1 x=some (k,q) -> k≠6)
  (hall:∀ xs e,chain bs 0 xs e -> zck (bs.drop e)=none -> zdk xs=rs∧flen (xs.take (zdk xs).length)=bs.length) (hrl:rs.length≤1000000)
  (hok:∀ i (hi:i<rs.length),okH l 5000 200 (zcm l (rs.take i) ([],[],0)).1∧(zal (zcm l (rs.take i) ([],[],0)).2.1 rs[i].id).fs.length≤140737488351232∧rs[i].ok)
  (k0:zca l=false -> ∀ N',N≤N' -> (Hp.mk F M N').wf -> K (.tuple #[.pointer none,.int .u16 30]) ⟨F,M,N'⟩)
  (k1:zca l=true -> ∀ nb lg p g mb hv dv' rows F' M' N',za9 F F' -> zao F' M' B nb lg pd v bs (bs.length:Nat) room p g mb hv dv' rows l (zcm l rs ([],[],0)).1 (zcm l rs ([],[],0)).2.1 (zcm l rs ([],[],0)).2.2 me (.slice none 0 0) ->
   (∀ q,q≠pd -> v.ownBlock≠some q -> q<N -> M' q=M q∧¬ nft nb lg pd p g mb v hv q) -> N≤N' -> za6 M' N' -> (Hp.mk F' M' N').wf -> K (.tuple #[.pointer (some ⟨nb,0,none⟩),.int .u16 0]) ⟨F',M',N'⟩) :
  cF 12 #[.int .i64 me,dv,.pointer (some ⟨pd,0,none⟩)] K E ⟨F,M,N⟩:=by
 refine za5 mixed Tryz.func12 (by kernel_rfl) (t12 _ E _ _ _) (λhw=>?_);have hm:za6 M N:=hw.m;obtain ⟨lr0,hp0⟩:=P.pp;have hpN:=hm.lt hp0;have hvl:=P.ow.lt hm;refine ys7 hd (by omega) (λhno N1 hN1 hw1=>?_) (λhyes p g mb dv' F1 M1 N1 hF1 PT1 hM1 hN1 hm1 hw1=>?_)
 ·refine zab (v:=.bool true) rfl ?_;try simp only [sS]
  exact λhc=>⟨_,za0 hc,k0 hno N1 hN1⟩
 refine zi5 ?_;try simp only [sS]
 have P1:=zbf.frame P hm hM1;refine ynr P1 (by omega) h8 h6 hall (λlg w F2 M2 N2 P2 hlg2 hlgN hwlg hrec hF2 hf2 hN2 hm2 hw2=>?_);have PT2:zb9 F2 M2 N p g mb (.slice none 0 0) dv' [] l [] [] 0:=PT1.keep hF2 λq hq=>(hf2 q (by have := (PT1.lt hm1 q hq).1; omega) (λe=>by have := (PT1.lt hm1 q hq).1; have := hvl q e; omega) (PT1.lt hm1 q hq).2).1;obtain ⟨rows,ho,hrows⟩:=hrec;obtain ⟨wa,wc,rfl,_⟩:=ho.form;have hout2:∀ q,q≠pd -> v.ownBlock≠some q -> q<N -> M2 q=M q:=λq q1 q2 q3=>((hf2 q q1 q2 (by omega)).1).trans (hM1 q q3);try simp only [sS]
 refine zcv rfl ?_;try simp only [sS]
 refine znk (σ:=Nat) (λi=>.int .i64 (i:Nat))
  (λi h=>∃ hv rows' F' M' N',h=⟨F',M',N'⟩∧za9 F2 F'∧N2≤N'∧za6 M' N'∧i≤rs.length∧zb9 F' M' N p g mb hv dv' rows' l (zcm l (rs.take i) ([],[],0)).1 (zcm l (rs.take i) ([],[],0)).2.1 (zcm l (rs.take i) ([],[],0)).2.2 ∧
   (∀ q,q<N2 -> ¬ (q=p∨q=mb∨q=g) -> (q<N∨∀ c t,M2 q≠some (.cells 143 c t)) -> M' q=M2 q)∧(∀ q,q<N2 -> (q<N∨∀ c t,M2 q≠some (.cells 143 c t)) -> hv.ownBlock≠some q)) (λi=>rs.length - i) 0 rfl
  (λhw3=>⟨_,za0 hw3,.slice none 0 0,[],F2,M2,N2,rfl,za9.refl _,Nat.le_refl _,hm2,Nat.zero_le _,PT2,λ_ _ _ _=>rfl,λq _ _=>by simp [Value.ownBlock]⟩) (λk1' i j h1 hI hw3 next=>?_)
 rw [zne];obtain ⟨hv,rows',F3,M3,N3,rfl,hF3,hN3,hm3,hi,PT3,hk3,hv3⟩:=hI
 have tyE:∀ {q e c t},M2 q=some (.cells e c t) -> e≠143 -> ∀ c' t',M2 q≠some (.cells 143 c' t'):=λ{q e c t} hq he c' t' hq'=>by
  rw [hq] at hq'; simp only [Option.some.injEq,zah.cells.injEq] at hq'; exact he hq'.1
 have kp:∀ {q e c t},M2 q=some (.cells e c t) -> (e≠58∧e≠141∧e≠143) -> M3 q=M2 q:=λ{q e c t} hq he=>by
  have := yta PT2 hq he;exact hk3 q (hm2.lt hq) (λhh=>by rcases hh with hh | hh | hh; exact this.2.2.2 hh; exact this.2.2.1 hh; exact this.2.1 hh) (.inr (tyE hq he.2.2))
 have ho3:own M3 N1 77 10 (.slice wa rs.length wc) rs.length rows.flatten:=ho.keep (λq hq=>by
  obtain ⟨c,t,h'⟩:=zc6 ho _ hq;exact kp h' ⟨by decide,by decide,by decide⟩) (Nat.le_refl _)
 refine zau (λhlt=>?_) (λhge=>?_)
 ·have h1:i<rs.length:=by omega
  try simp only [sS]
  refine zkm ho3 hrows (by decide) h1 (λpp r hri hR hrl1 hr1=>?_);obtain ⟨hz,hL,ht⟩:=hR;have hc1:=hz.keep;refine zar (cs:=zak) (λrb hrb=>?_);refine stM (cs':=r) ?_ (za2 _ _ _) (by show zb3 zak 0 r.toArray.toList=r; unfold zb3; rw [List.drop_eq_nil_of_le (by simp [zak]; omega)]; simp) (by simpa [Value.cells] using hc1.1) (by simpa [Value.cells] using hc1.2) (by simp [zak]);rw [zas];have hel:zak.length=10:=rfl;try simp only [hel]
  have hrb4:=za2 M3 rb (some (.cells 77 r 10));have hM4:∀ q,q<N3 -> upd M3 rb (some (.cells 77 r 10)) q=M3 q:=λq hq=>za4 _ _ (by omega);have hm4:=hm3.new hrb (some (.cells 77 r 10));generalize upd M3 rb _=M4 at *;refine zbd (vs:=r) ?_ hrb4 (by exact (show (List.drop 0 r).take 10=r by rw [List.drop_zero,← hc1.1,List.take_length])) (by exact (show 0+10≤r.length by omega));have PT4:=PT3.up hm3 (za9.refl _) hM4;obtain ⟨o1,o2,o3⟩:=hok i h1;refine zsd PT4 (by omega) o1 hdl ((hz.mono hF3).rec) o3 o2 (λhv5 F5 M5 N5 rows5 hF5 PT5 hf5 hN5 hm5 hw5=>?_);refine zaq (by omega) ?_;have et:rs.take (i+1)=rs.take i++[rs[i]]:=by rw [List.take_add_one,List.getElem?_eq_getElem h1,Option.toList_some]
  refine next (i+1) _ _ (by omega) (λhw6=>⟨_,za0 hw6,hv5,rows5,F5,M5,N5,rfl,hF3.trans hF5,by omega,hm5,h1,?_,λq q1 q2 q3=>?_,λq q1 q2=>?_⟩)
  ·rw [et,zvw]; exact PT5
  ·exact ((hf5 q (hv3 q q1 q3) (λe=>q2 (.inr (.inr e))) (λe=>q2 (.inr (.inl e))) (λe=>q2 (.inl e)) (by omega)).1).trans ((hM4 q (by omega)).trans (hk3 q q1 q2 q3))
  ·by_cases hh:q=p∨q=mb∨q=g
   ·have hpg:=PT5.pg
    rcases hh with rfl | rfl | rfl
    ·exact hpg.2.2.2.1
    ·exact hpg.2.2.2.2
    ·exact PT5.cc.vg
   ·exact (hf5 q (hv3 q q1 q2) (λe=>hh (.inr (.inr e))) (λe=>hh (.inr (.inl e))) (λe=>hh (.inl e)) (by omega)).2
 ·try simp only [sS]
  rw [List.take_of_length_le (by omega)] at PT3;refine zab (v:=.agg #[.pointer (some ⟨lg,0,none⟩),.pointer (some ⟨p,0,none⟩),.int .i64 me,.slice none 0 0]) (by kernel_rfl) ?_;refine zar (cs:=[.pointer (some ⟨lg,0,none⟩),.pointer (some ⟨p,0,none⟩),.int .i64 me,.slice none 0 0]) (λnb hnb=>?_);obtain ⟨lr2,hp2⟩:=P2.pp
  have P3:zc5 M3 B pd v bs (bs.length:Nat) room (-1):=⟨⟨lr2,(kp hp2 ⟨by decide,by decide,by decide⟩).trans hp2⟩,P2.ow.keep (λq hq=>by
   obtain ⟨c,t,h'⟩:=zc6 P2.ow _ hq;exact kp h' ⟨by decide,by decide,by decide⟩) (Nat.le_refl _),P2.ne,P2.bl⟩
  have hup:∀ q,q<N3 -> upd M3 nb (some (.cells 126 [.pointer (some ⟨lg,0,none⟩),.pointer (some ⟨p,0,none⟩),.int .i64 me,.slice none 0 0] 4)) q=M3 q:=λq hq=>za4 _ _ (by omega)
  have H:zao F3 (upd M3 nb (some (.cells 126 [.pointer (some ⟨lg,0,none⟩),.pointer (some ⟨p,0,none⟩),.int .i64 me,.slice none 0 0] 4))) B nb lg pd v bs (bs.length:Nat) room p g mb hv dv' rows' l (zcm l rs ([],[],0)).1 (zcm l rs ([],[],0)).2.1 (zcm l rs ([],[],0)).2.2 me (.slice none 0 0) :=
   ⟨za2 _ _ _,(hup lg (by have := hm2.lt hlg2; omega)).trans ((kp hlg2 ⟨by decide,by decide,by decide⟩).trans hlg2),zbf.frame P3 hm3 hup,(yrw PT3 (by omega)).up hm3 (za9.refl _) hup⟩
  have hpl:=PT3.lt hm3;refine λhc=>⟨_,za0 hc,λhw'=>k1 hyes nb lg p g mb hv dv' rows' F3 _ (nb+1) (hF1.trans (hF2.trans hF3)) H (λq q1 q2 q3=>⟨?_,λhh=>?_⟩) (by omega) (hm3.new hnb _) hw'⟩
  ·refine (hup q (by omega)).trans ((hk3 q (by omega) (λhh=>?_) (.inl q3)).trans (hout2 q q1 q2 q3));have := (hpl q (by rcases hh with hh | hh | hh; exact .inl hh; exact .inr (.inl hh); exact .inr (.inr (.inl hh)))).1;omega
  ·rcases hh with hh | hh | hh | hh | hh
   ·omega
   ·omega
   ·exact q1 hh
   ·exact q2 hh
   ·have := (hpl q hh).1; omega
section
variable {B nb lg pd:Nat} {v:Value} {bs:List Int} {lasts room:Int} {p g mb:Nat} {hv dv:Value} {rows:List (List Value)} {l:List Dm} {h:List En} {bt:Bts} {tk me:Int} {ov:Value}
def rTk (m:zaj):zaj:=⟨7,m.id,0,[],[],m.lo,m.hi,m.es⟩
theorem yo8 {cs:List Value} {m:zaj} (H:zao F M B nb lg pd v bs lasts room p g mb hv dv rows l h bt tk me ov) (hB:B≤N) (hr0:0≤room) (hroom:room≤2000000) (o:okH l 5000 200 h) (hdl:l.length≤1000) (hr:zfq F cs m) (hL:m.lens) (ht:m.typ) (hE:(zag (rTk m)).length≤2000000) (hfb:(zal bt m.id).fs.length≤140737488351232)
  (kS:m.id≤tk -> ∀ M' N',zao F M' B nb lg pd v bs lasts room p g mb hv dv rows l h bt tk me ov -> (∀ q,q<N -> M' q=M q) -> N≤N' -> za6 M' N' -> (Hp.mk F M' N').wf -> K (.bool true) ⟨F,M',N'⟩)
  (k0:¬ m.id≤tk -> ¬ zke bs room (rTk m) -> ∀ M' N',zao F M' B nb lg pd v bs lasts room p g mb hv dv rows l h bt tk me ov -> (∀ q,¬ nft nb lg pd p g mb v hv q -> q<N -> M' q=M q) -> N≤N' -> za6 M' N' -> (Hp.mk F M' N').wf -> K (.bool false) ⟨F,M',N'⟩)
  (k1:¬ m.id≤tk -> zke bs room (rTk m) -> ∀ v' hv' F' M' N' rows',za9 F F' -> zao F' M' B nb lg pd v' (bs++zbg (zag (rTk m))) ((bs++zbg (zag (rTk m))).length:Nat) room p g mb hv' dv rows' l (apH l h bt tk (rTk m)) (apS l h bt (rTk m)) (apT l h tk (rTk m)) me ov ->
   (∀ q,¬ nft nb lg pd p g mb v hv q -> q<N -> M' q=M q∧¬ nft nb lg pd p g mb v' hv' q) -> N≤N' -> za6 M' N' -> (Hp.mk F' M' N').wf -> K (.bool (decide (apE l h bt tk (rTk m)=0))) ⟨F',M',N'⟩) :
  cF 49 #[.pointer (some ⟨nb,0,none⟩),.agg cs.toArray] K E ⟨F,M,N⟩:=by
 refine za5 mixed Tryz.func49 (by kernel_rfl) (t49 _ E _ _) (λhw=>?_);have hm:za6 M N:=hw.m;obtain ⟨na,nc,fv,ev,rfl,hn,hf,he⟩:=hr;obtain ⟨fa,fc,rfl⟩:=hf.form;have he0:=he;obtain ⟨ea,ec,rfl⟩:=he.form;refine zar (cs:=[.int .u8 m.kind,.int .u32 m.id,.int .u32 m.tm,.slice na m.ns.length nc,.slice fa m.fs.length fc,.int .i64 m.lo,.int .i64 m.hi,.slice ea m.es.length ec]) (λb hb=>?_);have hx:=za2 M b (some (.cells 49 [.int .u8 m.kind,.int .u32 m.id,.int .u32 m.tm,.slice na m.ns.length nc,.slice fa m.fs.length fc,.int .i64 m.lo,.int .i64 m.hi,.slice ea m.es.length ec] 8));have hM1:∀ q,q<N -> upd M b (some (.cells 49 [.int .u8 m.kind,.int .u32 m.id,.int .u32 m.tm,.slice na m.ns.length nc,.slice fa m.fs.length fc,.int .i64 m.lo,.int .i64 m.hi,.slice ea m.es.length ec] 8)) q=M q:=λq hq=>za4 _ _ (by omega);have hm1:=hm.new hb (some (.cells 49 [.int .u8 m.kind,.int .u32 m.id,.int .u32 m.tm,.slice na m.ns.length nc,.slice fa m.fs.length fc,.int .i64 m.lo,.int .i64 m.hi,.slice ea m.es.length ec] 8));simp only [List.length_cons,List.length_nil,Nat.zero_add];generalize upd M b _=M1 at *;have H1:=H.up hm (za9.refl _) hM1;try simp only [sS]
 refine ldM (v:=.int .u32 m.id) ?_ hx;try simp only [sS]
 refine ldM (v:=.pointer (some ⟨p,0,none⟩)) ?_ H1.nn;refine ylh H1.pt (λhw1=>?_);refine ⟨zb6 (zbe hx) rfl,?_⟩;refine zdv (λh1=>?_) (λh1=>?_)
 ·try simp only [sS]
  exact λhc=>⟨_,za0 hc,λhw'=>kS h1 M1 _ H1 hM1 (by omega) hm1 hw'⟩
 try simp only [sS]
 refine ldM (v:=.int .u32 m.id) ?_ hx;try simp only [sS]
 refine ldM (v:=.int .i64 m.lo) ?_ hx;try simp only [sS]
 refine ldM (v:=.int .i64 m.hi) ?_ hx;try simp only [sS]
 refine ldM (v:=.slice ea m.es.length ec) ?_ hx;refine zab (v:=.agg ([.int .u8 7,.int .u32 m.id,.int .u32 0,.slice none 0 0,.slice none 0 0,.int .u32 0,.slice none 0 0,.int .i64 m.lo,.int .i64 m.hi,.slice ea m.es.length ec]:List Value).toArray) (by kernel_rfl) ?_;have hz:zef F [.int .u8 7,.int .u32 m.id,.int .u32 0,.slice none 0 0,.slice none 0 0,.int .u32 0,.slice none 0 0,.int .i64 m.lo,.int .i64 m.hi,.slice ea m.es.length ec] (rTk m):=⟨none,0,.slice none 0 0,none,0,_,rfl,sF.nil _ _ _,⟨[],sF.nil _ _ _,zaf.nil _ _⟩,he0⟩
 refine zo2 H1 (by omega) hr0 hroom o hdl hz ⟨by simp [rTk],by simp [rTk],hL.el,hL.et⟩ ⟨ht.i0,⟨Int.le_refl _,by simp [rTk]⟩,λx hx=>absurd hx List.not_mem_nil,ht.ev⟩ (by simp [rTk]) hE ⟨ht.i0,Int.le_refl _,by simp [rTk],by simp [rTk],hL.el,λx hx=>(ht.ev x hx).2.1⟩ hfb
  (λhno2 M' N' H' hf' hN' hm' hw'=>?_) (λhs hle hyes v' hv' F' M' N' rows' hF' H' hf' hN' hm' hw'=>?_)
 ·try simp only [sS]
  exact λhc=>⟨_,za0 hc,λhw'=>k0 h1 hno2 M' N' H' (λq q1 q2=>(hf' q q1 (by omega)).trans (hM1 q q2)) (by omega) hm' hw'⟩
 ·try simp only [sS]
  exact λhc=>⟨_,za0 hc,λhw'=>k1 h1 ⟨hs,hle,hyes⟩ v' hv' F' M' N' rows' hF' H' (λq q1 q2=>⟨(hf' q q1 (by omega)).1.trans (hM1 q q2),(hf' q q1 (by omega)).2⟩) (by omega) hm' hw'⟩
end
structure NS where
 bs:List Int
 ls:Int
 h:List En
 bt:Bts
 tk:Int
def NS.ap (l:List Dm) (s:NS) (r:zaj):NS:=⟨s.bs++zbg (zag r),((s.bs++zbg (zag r)).length:Nat),apH l s.h s.bt s.tk r,apS l s.h s.bt r,apT l s.h s.tk r⟩
def zm3 (bs:List Int) (room:Int) (r:zaj):Bool:=zbv r&&(decide ((zag r).length≤60000)&&decide ((bs.length:Int)+((zag r).length+7:Nat)≤room))
theorem zlm {bs:List Int} {room:Int} {r:zaj} (h:zke bs room r):zm3 bs room r=true:=by
 obtain ⟨h1,h2,h3⟩:=h;simp only [zm3,h1,decide_eq_true h2,decide_eq_true h3,Bool.and_true]
theorem zwh {bs:List Int} {room:Int} {r:zaj} (h:¬ zke bs room r):zm3 bs room r=false:=by
 cases hh:zm3 bs room r
 ·rfl
 ·simp only [zm3,Bool.and_eq_true,decide_eq_true_eq] at hh;exact absurd ⟨hh.1,hh.2.1,hh.2.2⟩ h
def zlu (bt:Bts):Bool:=bt.all λx=>!zwg bt x.1
theorem zyl {bt:Bts} {ws:List Int} (h:zw3 bt ws):ws=[]↔zlu bt=true:=by
 unfold zlu;rw [List.all_eq_true,List.eq_nil_iff_forall_not_mem]
 constructor
 ·intro hn x hx;cases ho:zwg bt x.1
  ·rfl
  ·exact absurd ((h.2 x.1).2 ⟨zev.2 ⟨x,hx,rfl⟩,ho⟩) (hn x.1)
 ·intro ha x hx;obtain ⟨h1,h2⟩:=(h.2 x).1 hx;obtain ⟨y,hy,e⟩:=zev.1 h1;have := ha y hy;rw [e,h2] at this;cases this
def mGv (m:zaj) (h:List En):zaj:=⟨9,m.id,0,[],[],0,0,zjp m.lo m.hi h⟩
def gvB (m:zaj) (h:List En):Bool:=zbz (mGv m h)&&decide ((zag (zb7 (mGv m h))).length≤60000)
def zbk (l:List Dm) (room:Int) (s:NS) (m:zaj):NS×List zaj :=
 if m.kind=1 then (if (zal s.bt m.id).st=1∨(zal s.bt m.id).st=2∨(zal s.bt m.id).st=3 then (s,[zbn (prS (zal s.bt m.id).st) m.id]) else if (zd1 l m.fs&&zm3 s.bs room (rPr m))=true then (s.ap l (rPr m),[zbn (if apE l s.h s.bt s.tk (rPr m)=0 then 2 else 3) m.id]) else (s,[zbn 3 m.id]))
 else if m.kind=4 then (if (zal s.bt m.id).st=1 then (if zm3 s.bs room (rCo m.id m.tm)=true then (s.ap l (rCo m.id m.tm),if apE l s.h s.bt s.tk (rCo m.id m.tm)=0 then [zbn 6 m.id] else []) else (s,[])) else if (zal s.bt m.id).st=2 then (s,[zbn 6 m.id]) else (s,[]))
 else if m.kind=5 then (if (zal s.bt m.id).st>1∨¬ (s.bs.length:Int)+12≤room then (s,[]) else ({ s.ap l (rAb m.id) with ls:=s.ls },[]))
 else if m.kind=7 then (if (zal s.bt m.id).st=2 then (s,[⟨4,m.id,(zal s.bt m.id).tm,[],[],0,0,[]⟩]) else if (zal s.bt m.id).st=0 then (if zm3 s.bs room (rAb m.id)=true then (s.ap l (rAb m.id),if apE l s.h s.bt s.tk (rAb m.id)=0 then [zbn 5 m.id] else []) else (s,[])) else if (zal s.bt m.id).st=3 then (s,[zbn 5 m.id]) else (s,[]))
 else if m.kind=8 then (if (zlu s.bt&&gvB m s.h)=true then (s,[mGv m s.h]) else (s,[]))
 else if m.kind=10 then (if m.id≤s.tk then (s,[zbn 11 m.id]) else if zm3 s.bs room (rTk m)=true then (s.ap l (rTk m),if apE l s.h s.bt s.tk (rTk m)=0 then [zbn 11 m.id] else []) else (s,[]))
 else (s,[])
section
variable {B nb lg pd:Nat} {v:Value} {bs:List Int} {lasts room:Int} {p g mb:Nat} {hv dv:Value} {rows:List (List Value)} {l:List Dm} {h:List En} {bt:Bts} {tk me:Int} {ov:Value}
theorem zao.keepN (H:zao F M B nb lg pd v bs lasts room p g mb hv dv rows l h bt tk me ov) (hF:za9 F F') (hM:∀ q,nft nb lg pd p g mb v hv q -> M' q=M q):zao F' M' B nb lg pd v bs lasts room p g mb hv dv rows l h bt tk me ov:=by
 obtain ⟨lr,hp⟩:=H.dk.pp;exact ⟨(hM nb (.inl rfl)).trans H.nn,(hM lg (.inr (.inl rfl))).trans H.ll,⟨⟨lr,(hM pd (.inr (.inr (.inl rfl)))).trans hp⟩,H.dk.ow.keep (λq hq=>hM q (.inr (.inr (.inr (.inl hq))))) (Nat.le_refl _),H.dk.ne,H.dk.bl⟩,H.pt.keep hF (λq hq=>hM q (.inr (.inr (.inr (.inr hq)))))⟩
def zle (F:Nat -> Option (List Value)) (ov:Value) (ms:List (Int×Int×List Int)):Prop :=
 ∃ rows,sF F 3 ov ms.length rows.flatten∧zaf (λcs (m:Int×Int×List Int)=>∃ u,cs=[.int .i64 m.1,.int .i64 m.2.1,u]∧sF F 1 u m.2.2.length (bts m.2.2)) 3 rows ms
theorem zle.mono {ms:List (Int×Int×List Int)} (O:zle F ov ms) (hF:za9 F F'):zle F' ov ms :=
 let ⟨rs,h1,h2⟩:=O; ⟨rs,h1.mono hF,h2.mono λ_ _ ⟨u,e,hu⟩=>⟨u,e,hu.mono hF⟩⟩
theorem ybm {C:Nat} {ms:List (Int×Int×List Int)} {P:Nat -> Prop} (O:zjm M C ov ms) (hp:∀ q,C≤q -> P q):zle (frzP F M P) ov ms :=
 let ⟨rs,h1,h2⟩:=O
 ⟨rs,h1.frzP (λq hq=>hp q (h1.ge q hq).1),h2.mono λ_ _ ⟨u,e,hu⟩=>⟨u,e,hu.frzP (λq hq=>hp q (hu.ge q hq).1)⟩⟩
theorem ytb {id:Int} {C1 C2 C3:Hp -> Prop} {X:Value -> Value -> Hp -> Prop} (P:zb9 F M B p g mb hv dv rows l h bt tk) (hm:za6 M N) (hC:∀ b c,N≤b -> C1 ⟨F,upd M b c,b+1⟩∧C2 ⟨F,upd M b c,b+1⟩∧C3 ⟨F,upd M b c,b+1⟩)
  (k:∀ b M' N',N≤b -> b<N' -> M' b=some (.cells 85 [.int .u8 (zal bt id).st,.int .u32 (zal bt id).tm] 2) -> (∀ q,q<N -> M' q=M q) -> za6 M' N' -> X (.agg #[.int .u8 (zal bt id).st,.int .u32 (zal bt id).tm]) (.pointer (some ⟨b,0,none⟩)) ⟨F,M',N'⟩) :
  bth (cF 28 #[.pointer (some ⟨p,0,none⟩),.int .u32 id] (λt17=>nw 85 [(.int .u8 0),(.int .u32 0)] λt18=>st 2 t18 t17 λ_=>X t17 t18) E)
   (nw 85 [(.int .u8 0),(.int .u32 0)] (λt18 h'=>C1 h'∧C2 h'∧C3 h'∧(cF 28 #[.pointer (some ⟨p,0,none⟩),.int .u32 id] (λt17=>st 2 t18 t17 λ_=>X t17 t18) E) h')) ⟨F,M,N⟩:=by
 constructor
 ·refine zpq P (λN1 hN1 hw1=>?_);refine zar (cs:=[.int .u8 0,.int .u32 0]) (λb hb=>?_);refine stM (cs':=[.int .u8 (zal bt id).st,.int .u32 (zal bt id).tm]) ?_ (za2 _ _ _) rfl;rw [zas];exact k b _ (b+1) (by omega) (by omega) (za2 _ _ _) (λq hq=>za4 _ _ (by omega)) (hm.new (by omega) _)
 ·refine zar (cs:=[.int .u8 0,.int .u32 0]) (λb hb=>?_);obtain ⟨c1,c2,c3⟩:=hC b (some (.cells 85 [.int .u8 0,.int .u32 0] 2)) hb;refine ⟨c1,c2,c3,?_⟩;refine zpq (P.up hm (za9.refl _) (λq hq=>za4 _ _ (by omega))) (λN1 hN1 hw1=>?_);refine stM (cs':=[.int .u8 (zal bt id).st,.int .u32 (zal bt id).tm]) ?_ (za2 _ _ _) rfl;rw [zas];exact k b _ N1 hb (by omega) (za2 _ _ _) (λq hq=>za4 _ _ (by omega)) ((hm.new hb _).up hN1)
theorem yiv {frm:Int} {bv:Value} {bl:List Int} {m:zaj} (H:zao F M B nb lg pd v bs lasts room p g mb hv dv rows l h bt tk me ov) (hB:B≤N) (hr0:0≤room) (hroom:room≤2000000) (o:okH l 5000 200 h) (hdl:l.length≤1000)
  (hv0:sR F M 1 bv bl.length (bts bl)) (ho:∀ q,bv.ownBlock=some q -> q<N) (hb8:zbi bl) (hln:bl.length≤60001) (h6:∀ x r,rd 1 (bl.drop 1)=some (x,r) -> x≠6) (hdec:zn2 bl=some m) (h8:m.kind=8 -> E [] zcy∧bt.length≤12∧(zag (zb7 (mGv m h))).length≤2097152∧(mGv m h).lens∧(mGv m h).typ)
  (hE1:(zag (rPr m)).length≤2000000) (hE2:(zag (rTk m)).length≤2000000) (hnl:m.ns.length≤17592186043904) (hfb:(zal bt m.id).fs.length≤140737488351232) (htm:0≤(zal bt m.id).tm∧(zal bt m.id).tm<4294967296)
  (k:∀ s' ans,zbk l room ⟨bs,lasts,h,bt,tk⟩ m=(s',ans) -> ∀ v' hv' F' M' N' rows' ov',za9 F F' -> zao F' M' B nb lg pd v' s'.bs s'.ls room p g mb hv' dv rows' l s'.h s'.bt s'.tk me ov' -> zle F' ov' (ans.map λa=>(me,frm,zbw a)) ->
   (∀ q,¬ nft nb lg pd p g mb v hv q -> q<N -> M' q=M q∧¬ nft nb lg pd p g mb v' hv' q) -> N≤N' -> za6 M' N' -> (Hp.mk F' M' N').wf -> K (.tuple #[ov',.int .u16 0]) ⟨F',M',N'⟩) :
  cF 16 #[.pointer (some ⟨nb,0,none⟩),.int .i64 frm,bv] K E ⟨F,M,N⟩:=by
 refine za5 mixed Tryz.func16 (by kernel_rfl) (t16 _ E _ _ _) (λhw=>?_);have hm:za6 M N:=hw.m;have hnlt:=H.lt hm;refine zar (cs:=[.pointer (some ⟨nb,0,none⟩)]) (λb1 hb1=>?_);refine zar (cs:=[.int .i64 frm]) (λb2 hb2=>?_);have hM1:∀ q,q<N -> upd (upd M b1 (some (.cells 31 [.pointer (some ⟨nb,0,none⟩)] 1))) b2 (some (.cells 3 [.int .i64 frm] 1)) q=M q:=λq hq=>(za4 _ _ (by omega)).trans (za4 _ _ (by omega));have h1:upd (upd M b1 (some (.cells 31 [.pointer (some ⟨nb,0,none⟩)] 1))) b2 (some (.cells 3 [.int .i64 frm] 1)) b1=_:=(za4 _ _ (by omega)).trans (za2 _ _ _);have h2:=za2 (upd M b1 (some (.cells 31 [.pointer (some ⟨nb,0,none⟩)] 1))) b2 (some (.cells 3 [.int .i64 frm] 1));have hm1:=(hm.new hb1 (some (.cells 31 [.pointer (some ⟨nb,0,none⟩)] 1))).new hb2 (some (.cells 3 [.int .i64 frm] 1));refine (show (_:Hp -> Prop) ⟨F,upd (upd M b1 (some (.cells 31 [.pointer (some ⟨nb,0,none⟩)] 1))) b2 (some (.cells 3 [.int .i64 frm] 1)),b2+1⟩ from ?_);generalize upd (upd M b1 _) b2 _=M1 at *;have H1:=H.up hm (za9.refl _) hM1;have hv1:sR F M1 1 bv bl.length (bts bl):=zfn hm hv0 hM1;refine yrg hv1 (λq hq=>by have := ho q hq; omega) hb8 hln h6 (λcs F2 M2 N2 m' hd hz hL ht hF2 hN2 hM2 hm2 hw2=>?_) (λhno=>by rw [hdec] at hno; exact absurd hno (by simp));have em:m'=m:=by rw [hdec] at hd; exact (Option.some.inj hd).symm
 subst em;have hz0:=hz;have hz1:=hz.one;obtain ⟨na,nc,fv,ev,ecs,hn,hf,he⟩:=hz0;obtain ⟨fa,fc,rfl⟩:=hf.form;obtain ⟨ea,ec,rfl⟩:=he.form;have hc1:cs[1]?=some (.int .u32 m'.id):=by rw [ecs]; rfl
 have hc0:cs[0]?=some (.int .u8 m'.kind):=by rw [ecs]; rfl
 have hcl:cs.length=8:=by rw [ecs]; rfl
 refine zab rfl (zab rfl ?_);refine zar (cs:=zcx) (λb6 hb6=>?_);refine stM (cs':=cs) ?_ (za2 _ _ _) (by show zb3 zcx 0 cs.toArray.toList=cs; unfold zb3; rw [List.drop_eq_nil_of_le (by simp [zcx]; omega)]; simp) (by simpa [Value.cells] using hz1.1) (by simpa [Value.cells] using hz1.2) (by simp [zcx,hcl]);rw [zas];refine (show (_:Hp -> Prop) ⟨F2,upd M2 b6 (some (.cells 49 cs 8)),b6+1⟩ from ?_);have hM3:∀ q,q<N2 -> upd M2 b6 (some (.cells 49 cs 8)) q=M2 q:=λq hq=>za4 _ _ (by omega);have h63:=za2 M2 b6 (some (.cells 49 cs 8));have hm3:=hm2.new hb6 (some (.cells 49 cs 8));generalize upd M2 b6 _=M3 at *;have hM13:∀ q,q<b2+1 -> M3 q=M1 q:=λq hq=>(hM3 q (by omega)).trans (hM2 q hq);have H3:=H1.up hm1 hF2 hM13;refine zcv rfl (zan ?_);refine ldM (v:=.pointer (some ⟨nb,0,none⟩)) ?_ ((hM13 b1 (by omega)).trans h1);refine zab rfl (zab rfl ?_);refine stM (cs':=[.pointer (some ⟨lg,0,none⟩),.pointer (some ⟨p,0,none⟩),.int .i64 me,.slice none 0 0]) ?_ H3.nn rfl;have H4:=H3.out hm3 (za2 M3 nb (some (.cells 126 [.pointer (some ⟨lg,0,none⟩),.pointer (some ⟨p,0,none⟩),.int .i64 me,.slice none 0 0] 4))) (λq q1 _ _=>za4 _ _ q1);have hnbN:=hnlt nb (.inl rfl);have hM34:∀ q,q≠nb -> upd M3 nb (some (.cells 126 [.pointer (some ⟨lg,0,none⟩),.pointer (some ⟨p,0,none⟩),.int .i64 me,.slice none 0 0] 4)) q=M3 q:=λq hq=>za4 _ _ hq;have hm4:=hm3.set (show nb<b6+1 by omega) (some (.cells 126 [.pointer (some ⟨lg,0,none⟩),.pointer (some ⟨p,0,none⟩),.int .i64 me,.slice none 0 0] 4));generalize upd M3 nb _=M4 at *;have h14:M4 b1=some (.cells 31 [.pointer (some ⟨nb,0,none⟩)] 1):=(hM34 b1 (by omega)).trans ((hM13 b1 (by omega)).trans h1);have h24:M4 b2=some (.cells 3 [.int .i64 frm] 1):=(hM34 b2 (by omega)).trans ((hM13 b2 (by omega)).trans h2);have h64:M4 b6=some (.cells 49 cs 8):=(hM34 b6 (by omega)).trans h63;refine ldM (v:=.pointer (some ⟨nb,0,none⟩)) ?_ h14;refine zab rfl (zab rfl ?_);refine ldM (v:=.pointer (some ⟨p,0,none⟩)) ?_ H4.nn;refine zab rfl ?_;refine ldM (v:=.int .u32 m'.id) ?_ h64 (by simpa using hc1);refine ytb H4.pt hm4 (λb c hb=>⟨zb6 (zbe ((za4 _ _ (by omega)).trans h64)) (by simpa using hc1),zb6 (zbe ((za4 _ _ (by omega)).trans H4.nn)) rfl,zb6 (zbe ((za4 _ _ (by omega)).trans h14)) rfl⟩) (λb8 M5 N5 hb8 hbN5 h85 hM45 hm5=>?_);unfold c16;have H5:=H4.up hm4 (za9.refl _) hM45;have h15:=(hM45 b1 (by omega)).trans h14;have h25:=(hM45 b2 (by omega)).trans h24;have h65:=(hM45 b6 (by omega)).trans h64;have low:∀ q,q<N -> q≠nb -> M5 q=M q:=λq q1 q2=>(hM45 q (by omega)).trans ((hM34 q q2).trans ((hM13 q (by omega)).trans (hM1 q q1)));have O5:zjm M5 N5 (.slice none 0 0) []:=⟨[],own.nil,zaf.nil _ _⟩
 have fin:∀ s' ans,zbk l room ⟨bs,lasts,h,bt,tk⟩ m'=(s',ans) -> ∀ C v' hv' F' M' N' rows' ov',za9 F2 F' -> zao F' M' B nb lg pd v' s'.bs s'.ls room p g mb hv' dv rows' l s'.h s'.bt s'.tk me ov' -> zjm M' C ov' (ans.map λa=>(me,frm,zbw a)) -> (N≤C∧∀ q,nft nb lg pd p g mb v' hv' q -> q<C) ->
   (∀ q,¬ nft nb lg pd p g mb v hv q -> q<N5 -> M' q=M5 q∧¬ nft nb lg pd p g mb v' hv' q) -> N5≤N' -> za6 M' N' ->
   (ld false 1 (.pointer (some ⟨b1,0,none⟩)) (λa=>pv (zai a) (λb=>pv (faV 3 b) (λc=>ld false 1 c (λd h=>h.wf -> ∃ h',h.wk h'∧(h'.wf -> K (.tuple #[d,.int .u16 0]) h')))))) ⟨F',M',N'⟩:=by
  intro s' ans es C v' hv' F' M' N' rows' ov' hF' H' O' hC fr hN' hm';have n1:¬ nft nb lg pd p g mb v hv b1:=λe=>by have := hnlt _ e; omega
  refine ldM (v:=.pointer (some ⟨nb,0,none⟩)) ?_ ((fr b1 n1 (by omega)).1.trans h15);try simp only [sS]
  refine ldM (v:=ov') ?_ H'.nn;refine λhc=>⟨_,zxn (p:=λq=>N≤q∧¬ nft nb lg pd p g mb v' hv' q) hc,λhw'=>k s' ans es v' hv' _ _ N' rows' ov' ((hF2.trans hF').trans (zeh hc)) (H'.keepN (zeh hc) (λq hq=>zfi (λe=>e.2 hq))) (ybm O' (λq hq=>⟨by have := hC.1; omega,λe=>by have := hC.2 q e; omega⟩)) (λq q1 q2=>?_) (by omega) (zgx hm') hw'⟩;have hq:=fr q q1 (by omega);exact ⟨(zfi (λe=>by have := e.1; omega)).trans (hq.1.trans (low q q2 (λe=>q1 (.inl e)))),hq.2⟩
 have ans:∀ (kind:Int) (s':NS),(kind=2∨kind=3∨kind=5∨kind=6∨kind=7∨kind=11) -> zbk l room ⟨bs,lasts,h,bt,tk⟩ m'=(s',[zbn kind m'.id]) -> ∀ v' hv' F' M' N' rows',za9 F2 F' -> zao F' M' B nb lg pd v' s'.bs s'.ls room p g mb hv' dv rows' l s'.h s'.bt s'.tk me (.slice none 0 0) ->
   (∀ q,¬ nft nb lg pd p g mb v hv q -> q<N5 -> M' q=M5 q∧¬ nft nb lg pd p g mb v' hv' q) -> N5≤N' -> za6 M' N' -> ∀ X:zae,(∀ t F'' M'' N'',(ld false 1 (.pointer (some ⟨b1,0,none⟩)) (λa=>pv (zai a) (λb=>pv (faV 3 b) (λc=>ld false 1 c (λd h=>h.wf -> ∃ h',h.wk h'∧(h'.wf -> K (.tuple #[d,.int .u16 0]) h')))))) ⟨F'',M'',N''⟩ -> X t ⟨F'',M'',N''⟩) ->
   zbq Tryz.prog (.func (.func 43) #[] #[.pointer (some ⟨b1,0,none⟩),.pointer (some ⟨b2,0,none⟩),.pointer (some ⟨b6,0,none⟩)]) #[.int .u8 kind] X E ⟨F',M',N'⟩:=by
  intro kind s' hk es v' hv' F' M' N' rows' hF' H' fr hN' hm' X hX;have nn:∀ q,N≤q -> ¬ nft nb lg pd p g mb v hv q:=λq hq e=>by have := hnlt _ e; omega
  refine yqo (C:=N') H' (Nat.le_refl _) ⟨[],own.nil,zaf.nil _ _⟩ (by simp) hk ht.i0 ((fr b1 (nn _ (by omega)) (by omega)).1.trans h15) ((fr b2 (nn _ (by omega)) (by omega)).1.trans h25) ((fr b6 (nn _ (by omega)) (by omega)).1.trans h65) hc1 (λov'' M'' N'' H'' O'' f'' hN'' hm'' hw''=>hX _ _ _ _ ?_);refine fin s' _ es N' v' hv' F' M'' N'' rows' ov'' hF' H'' O'' ⟨by omega,H'.lt hm'⟩ (λq q1 q2=>?_) (by omega) hm'';have g1:=fr q q1 q2;have g2:=f'' q (λe=>q1 (.inl e)) (by simp [Value.ownBlock]) (by omega);exact ⟨g2.1.trans g1.1,g1.2⟩
 have hcs8:(cs.drop 0).take 8=cs:=by rw [List.drop_zero,← hcl,List.take_length]
 try simp only [sS]
 refine ldM (v:=.int .u8 m'.kind) ?_ h65 (by simpa using hc0);refine zat (λg1=>?_) (λg1=>?_)
 ·try simp only [sS]
  refine ldM (v:=.pointer (some ⟨nb,0,none⟩)) ?_ h15;refine zbd (vs:=cs) ?_ h65 hcs8 (by omega);refine ldM (v:=.int .u8 (zal bt m'.id).st) ?_ h85;refine yoo H5 (by omega) hr0 hroom o hdl hz hL ht hE1 hnl hfb (λhst M6 N6 H6 f6 hN6 hm6 hw6=>?_) (λhst hno M6 N6 H6 f6 hN6 hm6 hw6=>?_) (λhst hfit hlay v6 hv6 F6 M6 N6 rows6 hF6 H6 f6 hN6 hm6 hw6=>?_)
  ·refine ans (prS (zal bt m'.id).st) ⟨bs,lasts,h,bt,tk⟩ (by unfold prS; rcases hst with e | e | e<;>rw [e]<;>simp) (by unfold zbk; rw [if_pos g1,if_pos hst]) v hv F2 M6 N6 rows (za9.refl _) H6 (λq q1 q2=>⟨f6 q q2,q1⟩) hN6 hm6 _ (λt F'' M'' N'' hx=>?_);rw [zap];exact hx
  ·refine ans 3 ⟨bs,lasts,h,bt,tk⟩ (by simp) (by unfold zbk; rw [if_pos g1,if_neg hst,if_neg (λe=>hno (by rw [Bool.and_eq_true] at e; exact ⟨e.1,Classical.byContradiction λe'=>by rw [zwh e'] at e; exact absurd e.2 (by simp)⟩))]) v hv F2 M6 N6 rows (za9.refl _) H6 (λq q1 q2=>⟨f6 q q1 q2,q1⟩) hN6 hm6 _ (λt F'' M'' N'' hx=>?_);rw [zap];exact hx
  ·refine ans (if apE l h bt tk (rPr m')=0 then 2 else 3) (NS.ap l ⟨bs,lasts,h,bt,tk⟩ (rPr m')) (by split<;>simp) (by unfold zbk; rw [if_pos g1,if_neg hst,if_pos (by rw [hfit,zlm hlay]; rfl)]) v6 hv6 F6 M6 N6 rows6 hF6 H6 f6 hN6 hm6 _ (λt F'' M'' N'' hx=>?_);rw [zap];exact hx
 try simp only [sS]
 refine ldM (v:=.int .u8 m'.kind) ?_ h65 (by simpa using hc0);refine zat (λg4=>?_) (λg4=>?_)
 ·try simp only [sS]
  refine ldM (v:=.pointer (some ⟨nb,0,none⟩)) ?_ h15;try simp only [sS]
  refine zbd (vs:=cs) ?_ h65 hcs8 (by omega);try simp only [sS]
  refine ldM (v:=.int .u8 (zal bt m'.id).st) ?_ h85;try simp only [sS]
  refine yht H5 (by omega) hr0 hroom o hdl hz ht hfb (λhst M6 N6 H6 f6 hN6 hm6 hw6=>?_) (λhst hno M6 N6 H6 f6 hN6 hm6 hw6=>?_) (λhst hlay v6 hv6 F6 M6 N6 rows6 hF6 H6 f6 hN6 hm6 hw6=>?_)
  ·by_cases h2:(zal bt m'.id).st=2
   ·rw [decide_eq_true h2];try simp only [sS]
    refine ans 6 ⟨bs,lasts,h,bt,tk⟩ (by simp) (by unfold zbk; rw [if_neg g1,if_pos g4,if_neg hst,if_pos h2]) v hv F2 M6 N6 rows (za9.refl _) H6 (λq q1 q2=>⟨f6 q q2,q1⟩) hN6 hm6 _ (λt F'' M'' N'' hx=>?_);rw [zap];exact hx
   ·rw [decide_eq_false h2];try simp only [sS]
    refine ldM (v:=.int .u8 m'.kind) ?_ ((f6 b6 (by omega)).trans h65) (by simpa using hc0);refine zbo (by omega) ?_;try simp only [sS]
    refine ldM (v:=.int .u8 m'.kind) ?_ ((f6 b6 (by omega)).trans h65) (by simpa using hc0);refine zbo (by omega) ?_;try simp only [sS]
    refine ldM (v:=.int .u8 m'.kind) ?_ ((f6 b6 (by omega)).trans h65) (by simpa using hc0);refine zbo (by omega) ?_;try simp only [sS]
    refine ldM (v:=.int .u8 m'.kind) ?_ ((f6 b6 (by omega)).trans h65) (by simpa using hc0);refine zbo (by omega) ?_;try simp only [sS]
    refine ldM (v:=.int .u8 m'.kind) ?_ ((f6 b6 (by omega)).trans h65) (by simpa using hc0);refine zbo (by omega) ?_;try simp only [sS]
    rw [zap];exact fin ⟨bs,lasts,h,bt,tk⟩ [] (by unfold zbk; rw [if_neg g1,if_pos g4,if_neg hst,if_neg h2]) N6 v hv F2 M6 N6 rows _ (za9.refl _) H6 ⟨[],own.nil,zaf.nil _ _⟩ ⟨by omega,H6.lt hm6⟩ (λq q1 q2=>⟨f6 q q2,q1⟩) hN6 hm6
  ·try simp only [sS]
   refine ldM (v:=.int .u8 m'.kind) ?_ ((f6 b6 (λe=>by have := hnlt _ e; omega) (by omega)).trans h65) (by simpa using hc0);refine zbo (by omega) ?_;try simp only [sS]
   refine ldM (v:=.int .u8 m'.kind) ?_ ((f6 b6 (λe=>by have := hnlt _ e; omega) (by omega)).trans h65) (by simpa using hc0);refine zbo (by omega) ?_;try simp only [sS]
   refine ldM (v:=.int .u8 m'.kind) ?_ ((f6 b6 (λe=>by have := hnlt _ e; omega) (by omega)).trans h65) (by simpa using hc0);refine zbo (by omega) ?_;try simp only [sS]
   refine ldM (v:=.int .u8 m'.kind) ?_ ((f6 b6 (λe=>by have := hnlt _ e; omega) (by omega)).trans h65) (by simpa using hc0);refine zbo (by omega) ?_;try simp only [sS]
   refine ldM (v:=.int .u8 m'.kind) ?_ ((f6 b6 (λe=>by have := hnlt _ e; omega) (by omega)).trans h65) (by simpa using hc0);refine zbo (by omega) ?_;try simp only [sS]
   rw [zap];exact fin ⟨bs,lasts,h,bt,tk⟩ [] (by unfold zbk; rw [if_neg g1,if_pos g4,if_pos hst,if_neg (by rw [zwh hno]; simp)]) N6 v hv F2 M6 N6 rows _ (za9.refl _) H6 ⟨[],own.nil,zaf.nil _ _⟩ ⟨by omega,H6.lt hm6⟩ (λq q1 q2=>⟨f6 q q1 q2,q1⟩) hN6 hm6
  ·try simp only [sS]
   by_cases hz:apE l h bt tk (rCo m'.id m'.tm)=0
   ·rw [decide_eq_true hz];try simp only [sS]
    refine ans 6 (NS.ap l ⟨bs,lasts,h,bt,tk⟩ (rCo m'.id m'.tm)) (by simp) (by unfold zbk; rw [if_neg g1,if_pos g4,if_pos hst,if_pos (zlm hlay)]; simp only [hz,if_true]) v6 hv6 F6 M6 N6 rows6 hF6 H6 f6 hN6 hm6 _ (λt F'' M'' N'' hx=>?_);rw [zap];exact hx
   ·rw [decide_eq_false hz];try simp only [sS]
    refine ldM (v:=.int .u8 m'.kind) ?_ ((f6 b6 (λe=>by have := hnlt _ e; omega) (by omega)).1.trans h65) (by simpa using hc0);refine zbo (by omega) ?_;try simp only [sS]
    refine ldM (v:=.int .u8 m'.kind) ?_ ((f6 b6 (λe=>by have := hnlt _ e; omega) (by omega)).1.trans h65) (by simpa using hc0);refine zbo (by omega) ?_;try simp only [sS]
    refine ldM (v:=.int .u8 m'.kind) ?_ ((f6 b6 (λe=>by have := hnlt _ e; omega) (by omega)).1.trans h65) (by simpa using hc0);refine zbo (by omega) ?_;try simp only [sS]
    refine ldM (v:=.int .u8 m'.kind) ?_ ((f6 b6 (λe=>by have := hnlt _ e; omega) (by omega)).1.trans h65) (by simpa using hc0);refine zbo (by omega) ?_;try simp only [sS]
    refine ldM (v:=.int .u8 m'.kind) ?_ ((f6 b6 (λe=>by have := hnlt _ e; omega) (by omega)).1.trans h65) (by simpa using hc0);refine zbo (by omega) ?_;try simp only [sS]
    rw [zap];exact fin (NS.ap l ⟨bs,lasts,h,bt,tk⟩ (rCo m'.id m'.tm)) [] (by unfold zbk; rw [if_neg g1,if_pos g4,if_pos hst,if_pos (zlm hlay)]; simp only [hz,if_false]) N6 v6 hv6 F6 M6 N6 rows6 _ hF6 H6 ⟨[],own.nil,zaf.nil _ _⟩ ⟨by omega,H6.lt hm6⟩ (λq q1 q2=>f6 q q1 q2) hN6 hm6
 try simp only [sS]
 refine ldM (v:=.int .u8 m'.kind) ?_ h65 (by simpa using hc0);refine zat (λg5=>?_) (λg5=>?_)
 ·try simp only [sS]
  refine ldM (v:=.pointer (some ⟨nb,0,none⟩)) ?_ h15;try simp only [sS]
  refine ldM (v:=.int .u32 m'.id) ?_ h65 (by simpa using hc1);try simp only [sS]
  refine ldM (v:=.int .u8 (zal bt m'.id).st) ?_ h85;refine yk2 H5 (by omega) hr0 hroom o hdl ht.i0 hfb (λhst M6 N6 H6 f6 hN6 hm6 hw6=>?_) (λhst hlay v6 hv6 F6 M6 N6 rows6 hF6 H6 f6 hN6 hm6 hw6=>?_)
  ·rw [zap];exact fin ⟨bs,lasts,h,bt,tk⟩ [] (by unfold zbk; rw [if_neg g1,if_neg g4,if_pos g5,if_pos hst]) N6 v hv F2 M6 N6 rows _ (za9.refl _) H6 ⟨[],own.nil,zaf.nil _ _⟩ ⟨by omega,H6.lt hm6⟩ (λq q1 q2=>⟨f6 q q1 q2,q1⟩) hN6 hm6
  ·rw [zap];exact fin { NS.ap l ⟨bs,lasts,h,bt,tk⟩ (rAb m'.id) with ls:=lasts } [] (by unfold zbk; rw [if_neg g1,if_neg g4,if_pos g5,if_neg (λe=>e.elim hst (λe=>e hlay))]) N6 v6 hv6 F6 M6 N6 rows6 _ hF6 H6 ⟨[],own.nil,zaf.nil _ _⟩ ⟨by omega,H6.lt hm6⟩ (λq q1 q2=>f6 q q1 q2) hN6 hm6
 try simp only [sS]
 refine ldM (v:=.int .u8 m'.kind) ?_ h65 (by simpa using hc0);refine zat (λg7=>?_) (λg7=>?_)
 ·try simp only [sS]
  refine ldM (v:=.int .u8 (zal bt m'.id).st) ?_ h85;refine zat (λs2=>?_) (λs2=>?_)
  ·try simp only [sS]
   refine ldM (v:=.pointer (some ⟨nb,0,none⟩)) ?_ h15;refine ldM (v:=.int .i64 frm) ?_ h25;try simp only [sS]
   refine ldM (v:=.int .u32 m'.id) ?_ h65 (by simpa using hc1);try simp only [sS]
   refine ldM (v:=.int .u32 (zal bt m'.id).tm) ?_ h85;refine zab (v:=.agg #[.int .u8 4,.int .u32 m'.id,.int .u32 (zal bt m'.id).tm,.slice none 0 0,.slice none 0 0,.int .i64 0,.int .i64 0,.slice none 0 0]) (by kernel_rfl) ?_;refine zpw (C:=N5) (m:=⟨4,m'.id,(zal bt m'.id).tm,[],[],0,0,[]⟩) (cs:=[.int .u8 4,.int .u32 m'.id,.int .u32 (zal bt m'.id).tm,.slice none 0 0,.slice none 0 0,.int .i64 0,.int .i64 0,.slice none 0 0]) H5 (Nat.le_refl _) O5 (by simp) ⟨none,0,.slice none 0 0,.slice none 0 0,rfl,sF.nil _ _ _,⟨[],sF.nil _ _ _,zaf.nil _ _⟩,zcb.nil⟩ ⟨by simp,by simp,by simp,λx hx=>absurd hx List.not_mem_nil⟩ ⟨ht.i0,htm,λx hx=>absurd hx List.not_mem_nil,λx hx=>absurd hx List.not_mem_nil⟩ (by rw [zfh]; simp [zb7,zcf,zcn,zaa]) (λhno=>absurd ⟨by simp [zbz,zb7,zcf,zbv,zet],by rw [zfh]; simp [zb7,zcf,zcn,zaa]⟩ hno) (λ_ _ ov6 M6 N6 H6 O6 f6 hN6 hm6 hw6=>?_);rw [zap];exact fin ⟨bs,lasts,h,bt,tk⟩ [⟨4,m'.id,(zal bt m'.id).tm,[],[],0,0,[]⟩] (by unfold zbk; rw [if_neg g1,if_neg g4,if_neg g5,if_pos g7,if_pos s2]) N5 v hv F2 M6 N6 rows ov6 (za9.refl _) H6 O6 ⟨by omega,H5.lt hm5⟩ (λq q1 q2=>⟨(f6 q (λe=>q1 (.inl e)) (by simp [Value.ownBlock]) q2).1,q1⟩) hN6 hm6
  ·try simp only [sS]
   refine ldM (v:=.int .u8 m'.kind) ?_ h65 (by simpa using hc0);refine zcj g7 ?_;try simp only [sS]
   refine ldM (v:=.pointer (some ⟨nb,0,none⟩)) ?_ h15;try simp only [sS]
   refine ldM (v:=.int .u32 m'.id) ?_ h65 (by simpa using hc1);try simp only [sS]
   refine ldM (v:=.int .u8 (zal bt m'.id).st) ?_ h85;try simp only [sS]
   refine yjw H5 (by omega) hr0 hroom o hdl ht.i0 hfb (λhst hw6=>?_) (λhst hno M6 N6 H6 f6 hN6 hm6 hw6=>?_) (λhst hlay v6 hv6 F6 M6 N6 rows6 hF6 H6 f6 hN6 hm6 hw6=>?_)
   ·by_cases h3:(zal bt m'.id).st=3
    ·rw [decide_eq_true h3];try simp only [sS]
     refine ans 5 ⟨bs,lasts,h,bt,tk⟩ (by simp) (by unfold zbk; rw [if_neg g1,if_neg g4,if_neg g5,if_pos g7,if_neg s2,if_neg hst,if_pos h3]) v hv F2 M5 N5 rows (za9.refl _) H5 (λq q1 q2=>⟨rfl,q1⟩) (Nat.le_refl _) hm5 _ (λt F'' M'' N'' hx=>?_);rw [zap];exact hx
    ·rw [decide_eq_false h3];try simp only [sS]
     refine ldM (v:=.int .u8 m'.kind) ?_ (h65) (by simpa using hc0);refine zbo (by omega) ?_;try simp only [sS]
     refine ldM (v:=.int .u8 m'.kind) ?_ (h65) (by simpa using hc0);refine zbo (by omega) ?_;try simp only [sS]
     rw [zap];exact fin ⟨bs,lasts,h,bt,tk⟩ [] (by unfold zbk; rw [if_neg g1,if_neg g4,if_neg g5,if_pos g7,if_neg s2,if_neg hst,if_neg h3]) N5 v hv F2 M5 N5 rows _ (za9.refl _) H5 ⟨[],own.nil,zaf.nil _ _⟩ ⟨by omega,H5.lt hm5⟩ (λq q1 q2=>⟨rfl,q1⟩) (Nat.le_refl _) hm5
   ·try simp only [sS]
    refine ldM (v:=.int .u8 m'.kind) ?_ ((f6 b6 (λe=>by have := hnlt _ e; omega) (by omega)).trans h65) (by simpa using hc0);refine zbo (by omega) ?_;try simp only [sS]
    refine ldM (v:=.int .u8 m'.kind) ?_ ((f6 b6 (λe=>by have := hnlt _ e; omega) (by omega)).trans h65) (by simpa using hc0);refine zbo (by omega) ?_;try simp only [sS]
    rw [zap];exact fin ⟨bs,lasts,h,bt,tk⟩ [] (by unfold zbk; rw [if_neg g1,if_neg g4,if_neg g5,if_pos g7,if_neg s2,if_pos hst,if_neg (by rw [zwh hno]; simp)]) N6 v hv F2 M6 N6 rows _ (za9.refl _) H6 ⟨[],own.nil,zaf.nil _ _⟩ ⟨by omega,H6.lt hm6⟩ (λq q1 q2=>⟨f6 q q1 q2,q1⟩) hN6 hm6
   ·try simp only [sS]
    by_cases hz:apE l h bt tk (rAb m'.id)=0
    ·rw [decide_eq_true hz];try simp only [sS]
     refine ans 5 (NS.ap l ⟨bs,lasts,h,bt,tk⟩ (rAb m'.id)) (by simp) (by unfold zbk; rw [if_neg g1,if_neg g4,if_neg g5,if_pos g7,if_neg s2,if_pos hst,if_pos (zlm hlay)]; simp only [hz,if_true]) v6 hv6 F6 M6 N6 rows6 hF6 H6 f6 hN6 hm6 _ (λt F'' M'' N'' hx=>?_);rw [zap];exact hx
    ·rw [decide_eq_false hz];try simp only [sS]
     refine ldM (v:=.int .u8 m'.kind) ?_ ((f6 b6 (λe=>by have := hnlt _ e; omega) (by omega)).1.trans h65) (by simpa using hc0);refine zbo (by omega) ?_;try simp only [sS]
     refine ldM (v:=.int .u8 m'.kind) ?_ ((f6 b6 (λe=>by have := hnlt _ e; omega) (by omega)).1.trans h65) (by simpa using hc0);refine zbo (by omega) ?_;try simp only [sS]
     rw [zap];exact fin (NS.ap l ⟨bs,lasts,h,bt,tk⟩ (rAb m'.id)) [] (by unfold zbk; rw [if_neg g1,if_neg g4,if_neg g5,if_pos g7,if_neg s2,if_pos hst,if_pos (zlm hlay)]; simp only [hz,if_false]) N6 v6 hv6 F6 M6 N6 rows6 _ hF6 H6 ⟨[],own.nil,zaf.nil _ _⟩ ⟨by omega,H6.lt hm6⟩ (λq q1 q2=>f6 q q1 q2) hN6 hm6
 try simp only [sS]
 refine ldM (v:=.int .u8 m'.kind) ?_ h65 (by simpa using hc0);refine zbo g7 ?_;try simp only [sS]
 refine ldM (v:=.int .u8 m'.kind) ?_ h65 (by simpa using hc0);refine zat (λg8=>?_) (λg8=>?_)
 ·obtain ⟨hE,h12,hGe,hGl,hGt⟩:=h8 g8;try simp only [sS]
  refine ldM (v:=.pointer (some ⟨nb,0,none⟩)) ?_ h15;try simp only [sS]
  refine ldM (v:=.pointer (some ⟨p,0,none⟩)) ?_ H5.nn;try simp only [sS]
  refine zwj hE H5.pt h12 (λwv ws F6 N6 hw6 hF6 hN6 hws hwv=>?_);have H6:=H5.keepN (M':=M5) hF6 (λ_ _=>rfl);refine zb1 hwv ?_;have hst:zbk l room ⟨bs,lasts,h,bt,tk⟩ m'=if (zlu bt&&gvB m' h)=true then (⟨bs,lasts,h,bt,tk⟩,[mGv m' h]) else (⟨bs,lasts,h,bt,tk⟩,[]):=by unfold zbk; rw [if_neg g1,if_neg g4,if_neg g5,if_neg g7,if_pos g8]
  have nogv:(zlu bt&&gvB m' h)=false -> ∀ F' M' N' ov',za9 F2 F' -> zao F' M' B nb lg pd v bs lasts room p g mb hv dv rows l h bt tk me ov' -> zjm M' N' ov' [] -> (∀ q,¬ nft nb lg pd p g mb v hv q -> q<N5 -> M' q=M5 q) -> N5≤N' -> za6 M' N' ->
    (ld false 1 (.pointer (some ⟨b1,0,none⟩)) (λa=>pv (zai a) (λb=>pv (faV 3 b) (λc=>ld false 1 c (λd h=>h.wf -> ∃ h',h.wk h'∧(h'.wf -> K (.tuple #[d,.int .u16 0]) h')))))) ⟨F',M',N'⟩:=λhno F' M' N' ov' hF' H' O' fr hN' hm'=>
   fin ⟨bs,lasts,h,bt,tk⟩ [] (by rw [hst,hno,if_neg (by simp)]) N' v hv F' M' N' rows ov' hF' H' O' ⟨by omega,H'.lt hm'⟩ (λq q1 q2=>⟨fr q q1 q2,q1⟩) hN' hm'
  refine zat (λhz=>?_) (λhz=>?_)
  ·have hno:zlu bt=true:=(zyl hws).1 (List.eq_nil_of_length_eq_zero (by omega));try simp only [sS]
   refine ldM (v:=.pointer (some ⟨nb,0,none⟩)) ?_ h15;refine ldM (v:=.int .i64 frm) ?_ h25;try simp only [sS]
   refine ldM (v:=.int .u32 m'.id) ?_ h65 (by simpa using hc1);refine ldM (v:=.pointer (some ⟨nb,0,none⟩)) ?_ h15;try simp only [sS]
   refine ldM (v:=.pointer (some ⟨p,0,none⟩)) ?_ H6.nn;try simp only [sS]
   refine ldM (v:=.pointer (some ⟨g,0,none⟩)) ?_ H6.pt.pp;try simp only [sS]
   refine ldM (v:=.int .i64 m'.lo) ?_ h65 (by rw [ecs]; rfl);try simp only [sS]
   refine ldM (v:=.int .i64 m'.hi) ?_ h65 (by rw [ecs]; rfl);refine ztu H6.pt.cc o hdl (λev7 F7 N7 hw7 hF7 hN7 he7=>?_);have H7:=H6.keepN (M':=M5) hF7 (λ_ _=>rfl);refine ⟨zb6 (zbe h15) rfl,zb6 (zbe h65) (by simpa using hc1),zb6 (zbe h25) rfl,zb6 (zbe h15) rfl,?_⟩;have he70:=he7;obtain ⟨ea7,ec7,rfl⟩:=he7.form;refine zab (v:=.agg #[.int .u8 9,.int .u32 m'.id,.int .u32 0,.slice none 0 0,.slice none 0 0,.int .i64 0,.int .i64 0,.slice ea7 (zjp m'.lo m'.hi h).length ec7]) (by kernel_rfl) ?_;refine zpw (C:=N7) (m:=mGv m' h) (cs:=[.int .u8 9,.int .u32 m'.id,.int .u32 0,.slice none 0 0,.slice none 0 0,.int .i64 0,.int .i64 0,.slice ea7 (zjp m'.lo m'.hi h).length ec7]) H7 (Nat.le_refl _) ⟨[],own.nil,zaf.nil _ _⟩ (by simp) ⟨none,0,.slice none 0 0,_,rfl,sF.nil _ _ _,⟨[],sF.nil _ _ _,zaf.nil _ _⟩,he70⟩ hGl hGt hGe (λhno2 M8 N8 H8 O8 f8 hN8 hm8 hw8=>?_) (λhs8 hle8 ov8 M8 N8 H8 O8 f8 hN8 hm8 hw8=>?_)
   ·refine ⟨zb6 (zbe ((f8 b1 (by omega)).trans h15)) rfl,?_⟩;rw [zap];refine nogv (by rw [hno,Bool.true_and]; cases hh:gvB m' h; rfl; exact absurd (by unfold gvB at hh; rw [Bool.and_eq_true,decide_eq_true_eq] at hh; exact hh) hno2) F7 M8 N8 _ (hF6.trans hF7) H8 ⟨[],own.nil,zaf.nil _ _⟩ (λq q1 q2=>f8 q (by omega)) (by omega) hm8
   ·refine ⟨zb6 (zbe ((f8 b1 (by omega) (by simp [Value.ownBlock]) (by omega)).1.trans h15)) rfl,?_⟩;rw [zap];exact fin ⟨bs,lasts,h,bt,tk⟩ [mGv m' h] (by rw [hst,if_pos (by rw [hno,Bool.true_and]; unfold gvB; rw [hs8,decide_eq_true hle8]; rfl)]) N7 v hv F7 M8 N8 rows ov8 (hF6.trans hF7) H8 O8 ⟨by omega,H7.lt (hm5.up (by omega))⟩ (λq q1 q2=>⟨(f8 q (λe=>q1 (.inl e)) (by simp [Value.ownBlock]) (by omega)).1,q1⟩) (by omega) hm8
  ·try simp only [sS]
   refine ldM (v:=.int .u8 m'.kind) ?_ h65 (by simpa using hc0);refine zbo (by omega) ?_;try simp only [sS]
   rw [zap];refine nogv ?_ F6 M5 N6 _ hF6 H6 ⟨[],own.nil,zaf.nil _ _⟩ (λ_ _ _=>rfl) (by omega) (hm5.up (by omega));cases hh:zlu bt
   ·rfl
   ·have := (zyl hws).2 hh;rw [this] at hz;exact absurd rfl hz
 try simp only [sS]
 refine ldM (v:=.int .u8 m'.kind) ?_ h65 (by simpa using hc0);refine zat (λg10=>?_) (λg10=>?_)
 ·try simp only [sS]
  refine ldM (v:=.pointer (some ⟨nb,0,none⟩)) ?_ h15;try simp only [sS]
  refine zbd (vs:=cs) ?_ h65 hcs8 (by omega);try simp only [sS]
  refine yo8 H5 (by omega) hr0 hroom o hdl hz hL ht hE2 hfb (λhst M6 N6 H6 f6 hN6 hm6 hw6=>?_) (λhst hno M6 N6 H6 f6 hN6 hm6 hw6=>?_) (λhst hlay v6 hv6 F6 M6 N6 rows6 hF6 H6 f6 hN6 hm6 hw6=>?_)
  ·try simp only [sS]
   refine ans 11 ⟨bs,lasts,h,bt,tk⟩ (by simp) (by unfold zbk; rw [if_neg g1,if_neg g4,if_neg g5,if_neg g7,if_neg g8,if_pos g10,if_pos hst]) v hv F2 M6 N6 rows (za9.refl _) H6 (λq q1 q2=>⟨f6 q q2,q1⟩) hN6 hm6 _ (λt F'' M'' N'' hx=>?_);rw [zap];exact hx
  ·try simp only [sS]
   rw [zap];exact fin ⟨bs,lasts,h,bt,tk⟩ [] (by unfold zbk; rw [if_neg g1,if_neg g4,if_neg g5,if_neg g7,if_neg g8,if_pos g10,if_neg hst,if_neg (by rw [zwh hno]; simp)]) N6 v hv F2 M6 N6 rows _ (za9.refl _) H6 ⟨[],own.nil,zaf.nil _ _⟩ ⟨by omega,H6.lt hm6⟩ (λq q1 q2=>⟨f6 q q1 q2,q1⟩) hN6 hm6
  ·try simp only [sS]
   by_cases hz:apE l h bt tk (rTk m')=0
   ·rw [decide_eq_true hz];try simp only [sS]
    refine ans 11 (NS.ap l ⟨bs,lasts,h,bt,tk⟩ (rTk m')) (by simp) (by unfold zbk; rw [if_neg g1,if_neg g4,if_neg g5,if_neg g7,if_neg g8,if_pos g10,if_neg hst,if_pos (zlm hlay)]; simp only [hz,if_true]) v6 hv6 F6 M6 N6 rows6 hF6 H6 f6 hN6 hm6 _ (λt F'' M'' N'' hx=>?_);rw [zap];exact hx
   ·rw [decide_eq_false hz];try simp only [sS]
    rw [zap];exact fin (NS.ap l ⟨bs,lasts,h,bt,tk⟩ (rTk m')) [] (by unfold zbk; rw [if_neg g1,if_neg g4,if_neg g5,if_neg g7,if_neg g8,if_pos g10,if_neg hst,if_pos (zlm hlay)]; simp only [hz,if_false]) N6 v6 hv6 F6 M6 N6 rows6 _ hF6 H6 ⟨[],own.nil,zaf.nil _ _⟩ ⟨by omega,H6.lt hm6⟩ (λq q1 q2=>f6 q q1 q2) hN6 hm6
 ·try simp only [sS]
  rw [zap];exact fin ⟨bs,lasts,h,bt,tk⟩ [] (by unfold zbk; rw [if_neg g1,if_neg g4,if_neg g5,if_neg g7,if_neg g8,if_neg g10]) N5 v hv F2 M5 N5 rows _ (za9.refl _) H5 O5 ⟨by omega,H5.lt hm5⟩ (λq q1 q2=>⟨rfl,q1⟩) (Nat.le_refl _) hm5
end
def zmk (rs:List zaj):List Int:=(rs.map zag).flatMap zbg
structure zaj.laid (r:zaj):Prop where
 snd:zbv r=true
 typ:r.typ
 k6:r.kind≠6
 k8:0≤r.kind∧r.kind<256
 len:(zag r).length≤60000
theorem ymk (rs:List zaj):zbi (zmk rs):=znb λa ha=>by
 obtain ⟨r,_,rfl⟩:=List.mem_map.1 ha;exact ykr (znm r)
theorem yay:∀ {rs:List zaj},(∀ r∈rs,r.laid) -> zdk (rs.map zag)=rs
 | [],_=>rfl
 | r::rs,h=>by
  have h1:=h r (List.mem_cons_self ..);simp only [List.map_cons,zdk,yb5 h1.snd h1.typ];rw [yay (λx hx=>h x (List.mem_cons_of_mem _ hx))]
theorem yh7 (rs:List zaj):(zmk rs).length=flen (rs.map zag):=by
 unfold zmk flen
 induction rs with
 | nil=>rfl
 | cons r rs ih=>simp only [List.map_cons,List.flatMap_cons,List.length_append,zei,List.sum_cons,ih]
theorem zs7 {B pd:Nat} {v dv:Value} {lasts room me:Int} {l:List Dm} {rs:List zaj} (P:zc5 M B pd v (zmk rs) lasts room (-1)) (hB:B≤N) (hd:zeb F dv l) (hdl:l.length≤1000) (hrs:∀ r∈rs,r.laid) (hrl:rs.length≤1000000)
  (hok:∀ i (hi:i<rs.length),okH l 5000 200 (zcm l (rs.take i) ([],[],0)).1∧(zal (zcm l (rs.take i) ([],[],0)).2.1 rs[i].id).fs.length≤140737488351232∧rs[i].ok)
  (k0:zca l=false -> ∀ N',N≤N' -> (Hp.mk F M N').wf -> K (.tuple #[.pointer none,.int .u16 30]) ⟨F,M,N'⟩)
  (k1:zca l=true -> ∀ nb lg p g mb hv dv' rows F' M' N',za9 F F' -> zao F' M' B nb lg pd v (zmk rs) ((zmk rs).length:Nat) room p g mb hv dv' rows l (zcm l rs ([],[],0)).1 (zcm l rs ([],[],0)).2.1 (zcm l rs ([],[],0)).2.2 me (.slice none 0 0) ->
   (∀ q,q≠pd -> v.ownBlock≠some q -> q<N -> M' q=M q∧¬ nft nb lg pd p g mb v hv q) -> N≤N' -> za6 M' N' -> (Hp.mk F' M' N').wf -> K (.tuple #[.pointer (some ⟨nb,0,none⟩),.int .u16 0]) ⟨F',M',N'⟩) :
  cF 12 #[.int .i64 me,dv,.pointer (some ⟨pd,0,none⟩)] K E ⟨F,M,N⟩:=by
 have hl:∀ t∈rs.map zag,t.length≤60000:=λt ht=>by
  obtain ⟨r,hr,rfl⟩:=List.mem_map.1 ht;exact (hrs r hr).len
 refine ypm P hB hd hdl (ymk rs) (λxs e hc hn x hx k q hk=>?_) (λxs e hc hn=>?_) hrl hok k0 k1
 ·obtain ⟨e1,_⟩:=ybt hl hc hn;rw [e1] at hx;obtain ⟨r,hr,rfl⟩:=List.mem_map.1 hx;obtain ⟨q',hq'⟩:=ydk (r:=r) (hrs r hr).k8.1 (hrs r hr).k8.2;rw [hq'] at hk;simp only [Option.some.injEq,Prod.mk.injEq] at hk;rw [← hk.1];exact (hrs r hr).k6
 ·obtain ⟨e1,e2⟩:=ybt hl hc hn;subst e1;rw [yay hrs];refine ⟨rfl,?_⟩;rw [List.take_of_length_le (by simp),← yh7]
def zlf (me:Int) (bt:Bts) (id:Int):List (Int×Int×List Int):=(me,-1,zbw (zbn 7 id))::((zal bt id).ns.filter λx=>decide (x≠me)).map λx=>(me,x,zbw (zbn 7 id))
theorem yjz (me:Int) (bt:Bts) (id:Int):(zlf me bt id).length≤(zal bt id).ns.length+1:=by
 simp only [zlf,List.length_cons,List.length_map];have := List.length_filter_le (λx=>decide (x≠me)) (zal bt id).ns;omega
theorem zy4 {α β:Type} (f:α -> List β) (n:Nat):∀ l:List α,(∀ x∈l,(f x).length≤n) -> (l.flatMap f).length≤l.length*n
 | [],_=>by simp
 | x::l,h=>by
  have h1:=h x (List.mem_cons_self ..);have h2:=zy4 f n l (λy hy=>h y (List.mem_cons_of_mem _ hy));rw [List.flatMap_cons,List.length_append,List.length_cons,Nat.add_mul];omega
theorem yaa {l:List Int} {p:Int -> Bool} {i:Nat} (h:i<l.length):(l.take (i+1)).filter p=(l.take i).filter p++if p l[i]=true then [l[i]] else []:=by
 rw [List.take_add_one,List.getElem?_eq_getElem h,Option.toList_some,List.filter_append,List.filter_cons,List.filter_nil]
section
variable {B nb lg pd:Nat} {v:Value} {bs:List Int} {lasts room:Int} {p g mb:Nat} {hv dv:Value} {rows:List (List Value)} {l:List Dm} {h:List En} {bt:Bts} {tk me:Int} {ov:Value}
theorem yo6 (hE:E [] zcy) (H:zao F M B nb lg pd v bs lasts room p g mb hv dv rows l h bt tk me ov) (h12:bt.length≤12) (hid:∀ x∈bt,0≤x.1∧x.1<4294967296) (hns:∀ id,(zal bt id).ns.length≤1000)
  (k:∀ ws,zw3 bt ws -> ∀ F' M' N' ov',za9 F F' -> zao F' M' B nb lg pd v bs lasts room p g mb hv dv rows l h bt tk me ov' -> zle F' ov' (ws.flatMap (zlf me bt)) ->
   (∀ q,¬ nft nb lg pd p g mb v hv q -> q<N -> M' q=M q) -> N≤N' -> za6 M' N' -> (Hp.mk F' M' N').wf -> K ov' ⟨F',M',N'⟩) :
  cF 36 #[.pointer (some ⟨nb,0,none⟩)] K E ⟨F,M,N⟩:=by
 refine za5 mixed Tryz.func36 (by kernel_rfl) (t36 _ E _) (λhw=>?_);have hm:za6 M N:=hw.m;have hnlt:=H.lt hm;have hnb:=hnlt nb (.inl rfl);try simp only [sS]
 refine stM (cs':=[.pointer (some ⟨lg,0,none⟩),.pointer (some ⟨p,0,none⟩),.int .i64 me,.slice none 0 0]) ?_ H.nn rfl;have H1:=H.out hm (za2 M nb (some (.cells 126 [.pointer (some ⟨lg,0,none⟩),.pointer (some ⟨p,0,none⟩),.int .i64 me,.slice none 0 0] 4))) (λq q1 _ _=>za4 _ _ q1);have hM1:∀ q,q≠nb -> upd M nb (some (.cells 126 [.pointer (some ⟨lg,0,none⟩),.pointer (some ⟨p,0,none⟩),.int .i64 me,.slice none 0 0] 4)) q=M q:=λq hq=>za4 _ _ hq;have hm1:za6 (upd M nb (some (.cells 126 [.pointer (some ⟨lg,0,none⟩),.pointer (some ⟨p,0,none⟩),.int .i64 me,.slice none 0 0] 4))) N:=hm.set hnb _;generalize upd M nb _=M1 at *;try simp only [sS]
 refine ldM (v:=.pointer (some ⟨p,0,none⟩)) ?_ H1.nn;refine zwj hE H1.pt h12 (λwv ws F2 N2 hw2 hF2 hN2 hws hwv=>?_)
 have hwl:ws.length≤12:=by
  have n3:ws.Nodup:=hws.1.imp (λ{x y} h=>by omega)
  have := zo9 (b:=bt.map (·.1)) n3 (λx hx=>by
   obtain ⟨y,hy,e⟩:=zev.1 ((hws.2 x).1 hx).1;exact List.mem_map.2 ⟨y,hy,e⟩)
  rw [List.length_map] at this; omega
 have hwid:∀ x∈ws,0≤x∧x<4294967296:=λx hx=>by
  obtain ⟨y,hy,e⟩:=zev.1 ((hws.2 x).1 hx).1;rw [← e]; exact hid y hy
 refine zb1 hwv ?_
 refine zun (σ:=Nat) (λi=>.int .i64 (i:Nat))
  (λi h'=>∃ F' M' N' ov',h'=⟨F',M',N'⟩∧i≤ws.length∧za9 F2 F'∧N2≤N'∧za6 M' N'∧zao F' M' B nb lg pd v bs lasts room p g mb hv dv rows l h bt tk me ov'∧zjm M' N ov' ((ws.take i).flatMap (zlf me bt))∧(∀ q,¬ nft nb lg pd p g mb v hv q -> q<N -> M' q=M1 q)) (λi=>ws.length - i) 0 rfl
  (λhw3=>⟨_,za0 hw3,F2,M1,N2,.slice none 0 0,rfl,Nat.zero_le _,za9.refl _,Nat.le_refl _,hm1.up hN2,H1.keepN hF2 (λ_ _=>rfl),⟨[],own.nil,zaf.nil _ _⟩,λq _ _=>rfl⟩) (λk1 i j h1 hI hw3 next=>?_)
 rw [zw8];obtain ⟨F3,M3,N3,ov3,rfl,hi,hF3,hN3,hm3,H3,O3,fr3⟩:=hI;refine zau (λhlt=>?_) (λhge=>?_)
 rotate_left
 ·try simp only [sS]
  rw [List.take_of_length_le (show ws.length≤i by omega)] at O3;refine ldM (v:=ov3) ?_ H3.nn;refine λhc=>⟨_,zxn (p:=λq=>N≤q∧¬ nft nb lg pd p g mb v hv q) hc,λhw'=>k ws hws _ _ N3 ov3 ((hF2.trans hF3).trans (zeh hc)) (H3.keepN (zeh hc) (λq hq=>zfi (λe=>e.2 hq))) (ybm O3 (λq hq=>⟨hq,λe=>by have := hnlt q e; omega⟩)) (λq q1 q2=>?_) (by omega) (zgx hm3) hw'⟩;exact (zfi (λe=>by have := e.1; omega)).trans ((fr3 q q1 q2).trans (hM1 q (λe=>q1 (.inl e))))
 have i1:i<ws.length:=by omega
 have hidi:=hwid _ (List.getElem_mem i1)
 have hol:((ws.take i).flatMap (zlf me bt)).length≤12*1001:=by
  have h1:=zy4 (zlf me bt) 1001 (ws.take i) (λx _=>by have := yjz me bt x; have := hns x; omega);have h2:(ws.take i).length≤12:=by rw [List.length_take]; omega
  have h3:=Nat.mul_le_mul_right 1001 h2;omega
 try simp only [sS]
 refine zzn (hwv.mono hF3) i1 (λpp=>?_);refine zab (v:=.agg (zh4 7 ws[i]).toArray) (by kernel_rfl) ?_;refine zar (cs:=zh4 0 0) (λb5 hb5=>?_);refine stM (cs':=zh4 7 ws[i]) ?_ (za2 _ _ _) rfl;rw [zas];refine (show (_:Hp -> Prop) ⟨F3,upd M3 b5 (some (.cells 49 (zh4 7 ws[i]) 8)),b5+1⟩ from ?_);have hb4:=za2 M3 b5 (some (.cells 49 (zh4 7 ws[i]) 8));have hM4:∀ q,q<N3 -> upd M3 b5 (some (.cells 49 (zh4 7 ws[i]) 8)) q=M3 q:=λq hq=>za4 _ _ (by omega);have hm4:=hm3.new hb5 (some (.cells 49 (zh4 7 ws[i]) 8));generalize upd M3 b5 _=M4 at *;have H4:=H3.up hm3 (za9.refl _) hM4;have O4:zjm M4 N ov3 ((ws.take i).flatMap (zlf me bt)):=let ⟨rs,h1,h2⟩:=O3; ⟨rs,h1.keep (λq hq=>hM4 q (h1.lt hm3 q hq)) (Nat.le_refl _),h2.mono λ_ _ hu=>hu.keep (λq c t h'=>hM4 q (hm3.lt h'))⟩
 refine zbd (vs:=zh4 7 ws[i]) ?_ hb4;obtain ⟨g1,g2⟩:=zm4 (kind:=7) (id:=ws[i]) (by simp);refine zpw (C:=N) H4 (by omega) O4 (by omega) (zuj 7 ws[i]) (zki 7 ws[i]) (zir hidi) (by omega) (λhno=>absurd ⟨g1,by omega⟩ hno) (λ_ _ ov5 M5 N5 H5 O5 f5 hN5 hm5 hw5=>?_);have nb4:∀ {q},q<N -> ¬ nft nb lg pd p g mb v hv q -> q≠nb∧ov3.ownBlock≠some q:=λ{q} hq q1=>⟨λe=>q1 (.inl e),λe=>by obtain ⟨rs,h1,_⟩:=O4; have := (h1.ge q e).1; omega⟩;have nb5:b5≠nb∧ov3.ownBlock≠some b5:=⟨by omega,λe=>by obtain ⟨rs,h1,_⟩:=O3; have := h1.lt hm3 b5 e; omega⟩;try simp only [sS]
 refine ldM (v:=.pointer (some ⟨p,0,none⟩)) ?_ H5.nn;refine yj9 H5.pt (by have := hns ws[i]; omega) (λnv F6 N6 hw6 hF6 hN6 hnv=>?_);have hnl:=hns ws[i];refine zb1 hnv ?_
 refine zhn (σ:=Nat) (λi=>.int .i64 (i:Nat))
  (λi2 h'=>∃ M' N' ov',h'=⟨F6,M',N'⟩∧i2≤(zal bt ws[i]).ns.length∧N6≤N'∧za6 M' N'∧zao F6 M' B nb lg pd v bs lasts room p g mb hv dv rows l h bt tk me ov'∧zjm M' N ov' (((ws.take i).flatMap (zlf me bt)++[(me,-1,zbw (zbn 7 ws[i]))])++(((zal bt ws[i]).ns.take i2).filter λx=>decide (x≠me)).map λx=>(me,x,zbw (zbn 7 ws[i])))∧(∀ q,¬ nft nb lg pd p g mb v hv q -> q<N -> M' q=M1 q)∧M' b5=some (.cells 49 (zh4 7 ws[i]) 8)) (λi2=>(zal bt ws[i]).ns.length - i2) 0 rfl
  (λhw7=>⟨_,za0 hw7,M5,N6,ov5,rfl,Nat.zero_le _,Nat.le_refl _,hm5.up hN6,H5.keepN hF6 (λ_ _=>rfl),by simpa using O5,λq q1 q2=>((f5 q (nb4 q2 q1).1 (nb4 q2 q1).2 (by omega)).1).trans ((hM4 q (by omega)).trans (fr3 q q1 q2)),((f5 b5 nb5.1 nb5.2 (by omega)).1).trans hb4⟩) (λk2 i2 j2 h2 hI2 hw7 next2=>?_)
 rw [zhq];obtain ⟨M7,N7,ov7,rfl,hi2,hN7,hm7,H7,O7,fr7,hb7⟩:=hI2;refine zau (λhlt2=>?_) (λhge2=>?_)
 ·have i3:i2<(zal bt ws[i]).ns.length:=by omega
  have ef:=yaa (p:=λx=>decide (x≠me)) i3;try simp only [sS]
  refine zes hnv i3 (λpp2=>?_);try simp only [sS]
  refine ldM (v:=.int .i64 me) ?_ H7.nn
  have hol7:(((ws.take i).flatMap (zlf me bt)++[(me,-1,zbw (zbn 7 ws[i]))])++(((zal bt ws[i]).ns.take i2).filter λx=>decide (x≠me)).map λx=>(me,x,zbw (zbn 7 ws[i]))).length≤1000000:=by
   have h1:=List.length_filter_le (λx=>decide (x≠me)) ((zal bt ws[i]).ns.take i2);rw [List.length_take] at h1;simp only [List.length_append,List.length_cons,List.length_nil,List.length_map];omega
  refine zht (λhne=>?_) (λhne=>?_)
  ·try simp only [sS]
   refine zbd (vs:=zh4 7 ws[i]) ?_ hb7;refine zpw (C:=N) H7 (by omega) O7 hol7 (zuj 7 ws[i]) (zki 7 ws[i]) (zir hidi) (by omega) (λhno=>absurd ⟨g1,by omega⟩ hno) (λ_ _ ov8 M8 N8 H8 O8 f8 hN8 hm8 hw8=>?_);rw [zdl];refine zaq (by omega) ?_;have nb8:∀ {q},q<N -> ¬ nft nb lg pd p g mb v hv q -> q≠nb∧ov7.ownBlock≠some q:=λ{q} hq q1=>⟨λe=>q1 (.inl e),λe=>by obtain ⟨rs,h1,_⟩:=O7; have := (h1.ge q e).1; omega⟩
   have nb9:b5≠nb∧ov7.ownBlock≠some b5:=⟨by omega,λe=>by
    obtain ⟨rs,h1,_⟩:=O7;obtain ⟨c,t,h'⟩:=zc6 h1 _ e;exact zec h' hb7 (by decide) rfl⟩
   refine next2 (i2+1) _ _ (by omega) (λhw9=>⟨_,za0 hw9,M8,N8,ov8,rfl,i3,by omega,hm8,H8,?_,λq q1 q2=>((f8 q (nb8 q2 q1).1 (nb8 q2 q1).2 (by omega)).1).trans (fr7 q q1 q2),((f8 b5 nb9.1 nb9.2 (by omega)).1).trans hb7⟩);rw [ef,if_pos (decide_eq_true hne),List.map_append,← List.append_assoc];exact O8
  ·try simp only [sS]
   rw [zdl];refine zaq (by omega) ?_;refine next2 (i2+1) _ _ (by omega) (λhw9=>⟨_,za0 hw9,M7,N7,ov7,rfl,i3,by omega,hm7,H7,?_,fr7,hb7⟩);rw [ef,if_neg (by simpa using hne),List.append_nil];exact O7
 ·try simp only [sS]
  rw [List.take_of_length_le (show (zal bt ws[i]).ns.length≤i2 by omega)] at O7;refine zaq (by omega) ?_;refine next (i+1) _ _ (by omega) (λhw8=>⟨_,za0 hw8,F6,M7,N7,ov7,rfl,i1,hF3.trans hF6,by omega,hm7,H7,?_,fr7⟩);rw [List.take_add_one,List.getElem?_eq_getElem i1,Option.toList_some,List.flatMap_append,List.flatMap_cons,List.flatMap_nil,List.append_nil]
  simpa [zlf] using O7
end
theorem ydg (l:List Int):(l.flatMap λx=>zam (zaz x) 1).length=l.length:=by
 induction l with
 | nil=>rfl
 | cons x l ih=>rw [List.flatMap_cons,List.length_append,ih,zaa,List.length_cons]; omega
theorem yde {B n:Nat} {v nv:Value} {cs:List Value} {l:List Int} (h:own M B 5 1 v n cs) (hB:B≤N) (hf:sF F 1 nv l.length (ic l)) (hl:l.length≤1000000) (hn:n≤100000000000) (k:yez F M N B n v cs (zcn l) K) :
  cF 114 #[v,nv] K E ⟨F,M,N⟩:=by
 refine za5 mixed Tryz.func114 (by kernel_rfl) (t114 _ E _ _) (λhw=>?_);have hm:za6 M N:=hw.m;refine zb1 hf (zex ?_);refine zig (size:=1) h hB (by omega) (by omega) (λv1 M1 N1 ho1 hfr1 hN1 hm1 hw1=>?_);rw [zaa] at ho1
 refine ztm (σ:=Nat×Value) (λs=>s.2) (λs=>.int .i64 (s.1:Nat))
  (λs h'=>∃ M' N',h'=⟨F,M',N'⟩∧N≤N'∧za6 M' N'∧s.1≤l.length∧own M' B 5 1 s.2 (n+(zam (zaz (l.length:Nat)) 1++(l.take s.1).flatMap λx=>zam (zaz x) 1).length) (cs++bts (zam (zaz (l.length:Nat)) 1++(l.take s.1).flatMap λx=>zam (zaz x) 1))∧fr M M' N v s.2) (λs=>l.length - s.1) (0,v1) rfl rfl
  (λhw2=>⟨_,za0 hw2,M1,N1,rfl,hN1,hm1,Nat.zero_le _,by simpa [zaa] using ho1,hfr1⟩) (λkk s j h1 hI hw2 next=>?_)
 rw [ztk];obtain ⟨M2,N2,rfl,hN2,hm2,hi,ho,hfr⟩:=hI;refine zb1 hf ?_;refine zau (λhlt=>?_) (λhge=>?_)
 ·have i1:s.1<l.length:=by omega
  have et:=zeg (λx=>zam (zaz x) 1) l i1
  have hlen:(zam (zaz (l.length:Nat)) 1++(l.take s.1).flatMap λx=>zam (zaz x) 1).length≤1+l.length:=by
   rw [List.length_append,zaa,ydg,List.length_take]; omega
  try simp only [sS]
  refine zes hf i1 λp=>zex ?_;refine zig (size:=1) ho (by omega) (by omega) (by omega) (λv3 M3 N3 ho3 hfr3 hN3 hm3 hw3=>?_);rw [zaa] at ho3;refine zaq (by omega) ?_;refine next (s.1+1,v3) _ _ (by simp only; omega) (λhw6=>⟨_,za0 hw6,M3,N3,rfl,by omega,hm3,i1,?_,hfr.trans hfr3 hN2⟩);simp only;rw [et,← List.append_assoc];exact zjy ho3 (by rw [zaa])
 ·try simp only [sS]
  rw [List.take_of_length_le (show l.length≤s.1 by omega)] at ho;exact λhc=>⟨_,za0 hc,λhw'=>k s.2 M2 N2 ho hfr hN2 hm2 hw'⟩
def rkR (k:Int):Int:=if k=1 then 1 else if k=4 then 2 else if k=8∨k=9∨k=10 then 7 else 4
def yj6 (m:zaj):zaj:=⟨rkR m.kind,m.id,m.tm,m.ns,m.fs,m.lo,m.hi,m.es⟩
theorem yid {cs:List Value} {m:zaj} (hr:zfq F cs m) (k:∀ cs' N',zef F cs' (yj6 m) -> N≤N' -> (Hp.mk F M N').wf -> K (.agg cs'.toArray) ⟨F,M,N'⟩) :
  cF 63 #[.agg cs.toArray] K E ⟨F,M,N⟩:=by
 refine za5 mixed Tryz.func63 (by kernel_rfl) (t63 _ E _) (λhw=>?_);have hm:za6 M N:=hw.m;obtain ⟨na,nc,fv,ev,rfl,hn,hf,he⟩:=hr;obtain ⟨fa,fc,rfl⟩:=hf.form;have he0:=he;obtain ⟨ea,ec,rfl⟩:=he.form;refine zar (cs:=[.int .u8 m.kind,.int .u32 m.id,.int .u32 m.tm,.slice na m.ns.length nc,.slice fa m.fs.length fc,.int .i64 m.lo,.int .i64 m.hi,.slice ea m.es.length ec]) (λb1 hb1=>?_);refine zar (cs:=zak) (λb2 hb2=>?_);have hb1':=(za4 (upd M b1 (some (.cells 49 [.int .u8 m.kind,.int .u32 m.id,.int .u32 m.tm,.slice na m.ns.length nc,.slice fa m.fs.length fc,.int .i64 m.lo,.int .i64 m.hi,.slice ea m.es.length ec] 8))) (b:=b2) (v:=some (.cells 77 zak 10)) (by omega:b1≠b2)).trans (za2 _ _ _);have hb2':=za2 (upd M b1 (some (.cells 49 [.int .u8 m.kind,.int .u32 m.id,.int .u32 m.tm,.slice na m.ns.length nc,.slice fa m.fs.length fc,.int .i64 m.lo,.int .i64 m.hi,.slice ea m.es.length ec] 8))) b2 (some (.cells 77 zak 10));have hs2:zf1 M (upd (upd M b1 (some (.cells 49 [.int .u8 m.kind,.int .u32 m.id,.int .u32 m.tm,.slice na m.ns.length nc,.slice fa m.fs.length fc,.int .i64 m.lo,.int .i64 m.hi,.slice ea m.es.length ec] 8))) b2 (some (.cells 77 zak 10))):=zb4 (zb4 (zbc _) (hm _ hb1)) (hm _ (by omega));have hm2:=(hm.new hb1 (some (.cells 49 [.int .u8 m.kind,.int .u32 m.id,.int .u32 m.tm,.slice na m.ns.length nc,.slice fa m.fs.length fc,.int .i64 m.lo,.int .i64 m.hi,.slice ea m.es.length ec] 8))).new hb2 (some (.cells 77 zak 10));have hel:zak.length=10:=rfl;simp only [hel,List.length_cons,List.length_nil,Nat.zero_add];generalize upd (upd M b1 _) b2 _=M2 at *;try simp only [sS]
 refine ldM (v:=.int .u32 m.id) ?_ hb1';try simp only [sS]
 refine ldM (v:=.int .u32 m.tm) ?_ hb1';try simp only [sS]
 refine ldM (v:=.slice na m.ns.length nc) ?_ hb1';try simp only [sS]
 refine ldM (v:=.slice fa m.fs.length fc) ?_ hb1';try simp only [sS]
 refine ldM (v:=.int .i64 m.lo) ?_ hb1';try simp only [sS]
 refine ldM (v:=.int .i64 m.hi) ?_ hb1';try simp only [sS]
 refine ldM (v:=.slice ea m.es.length ec) ?_ hb1';refine zab (v:=.agg ([.int .u8 (4),.int .u32 m.id,.int .u32 m.tm,.slice na m.ns.length nc,.slice fa m.fs.length fc,.int .u32 0,.slice none 0 0,.int .i64 m.lo,.int .i64 m.hi,.slice ea m.es.length ec]:List Value).toArray) (by kernel_rfl) ?_;refine zar (cs:=zak) (λb3 hb3=>?_);refine stM (cs':=[.int .u8 (4),.int .u32 m.id,.int .u32 m.tm,.slice na m.ns.length nc,.slice fa m.fs.length fc,.int .u32 0,.slice none 0 0,.int .i64 m.lo,.int .i64 m.hi,.slice ea m.es.length ec]) ?_ (za2 _ _ _) rfl rfl (List.all_eq_true.1 rfl);rw [zas];have hb3':=za2 M2 b3 (some (.cells 77 [.int .u8 (4),.int .u32 m.id,.int .u32 m.tm,.slice na m.ns.length nc,.slice fa m.fs.length fc,.int .u32 0,.slice none 0 0,.int .i64 m.lo,.int .i64 m.hi,.slice ea m.es.length ec] 10));have hb1'':=(za4 M2 (some (.cells 77 [.int .u8 (4),.int .u32 m.id,.int .u32 m.tm,.slice na m.ns.length nc,.slice fa m.fs.length fc,.int .u32 0,.slice none 0 0,.int .i64 m.lo,.int .i64 m.hi,.slice ea m.es.length ec] 10)) (show b1≠b3 by omega)).trans hb1';have hb2'':=(za4 M2 (some (.cells 77 [.int .u8 (4),.int .u32 m.id,.int .u32 m.tm,.slice na m.ns.length nc,.slice fa m.fs.length fc,.int .u32 0,.slice none 0 0,.int .i64 m.lo,.int .i64 m.hi,.slice ea m.es.length ec] 10)) (show b2≠b3 by omega)).trans hb2';have hs3:zf1 M (upd M2 b3 (some (.cells 77 [.int .u8 (4),.int .u32 m.id,.int .u32 m.tm,.slice na m.ns.length nc,.slice fa m.fs.length fc,.int .u32 0,.slice none 0 0,.int .i64 m.lo,.int .i64 m.hi,.slice ea m.es.length ec] 10))):=zb4 hs2 (hm _ (by omega));have hel:zak.length=10:=rfl;try simp only [hel]
 generalize upd M2 b3 _=M3 at *
 have tail:∀ x M4,rkR m.kind=x -> M4 b3=some (.cells 77 [.int .u8 (x),.int .u32 m.id,.int .u32 m.tm,.slice na m.ns.length nc,.slice fa m.fs.length fc,.int .u32 0,.slice none 0 0,.int .i64 m.lo,.int .i64 m.hi,.slice ea m.es.length ec] 10) -> M4 b2=some (.cells 77 zak 10) -> zf1 M M4 ->
   (ld true 10 (.pointer (some ⟨b3,0,none⟩)) λt1=>st 10 (.pointer (some ⟨b2,0,none⟩)) t1 λ_=>ld true 10 (.pointer (some ⟨b2,0,none⟩)) λt2 h=>h.wf -> ∃ h',h.wk h'∧(h'.wf -> K t2 h')) ⟨F,M4,b3+1⟩:=by
  intro x M4 hx h3 h2 hs;subst hx;refine zbd (vs:=[.int .u8 (rkR m.kind),.int .u32 m.id,.int .u32 m.tm,.slice na m.ns.length nc,.slice fa m.fs.length fc,.int .u32 0,.slice none 0 0,.int .i64 m.lo,.int .i64 m.hi,.slice ea m.es.length ec]) ?_ h3;refine stM (cs':=[.int .u8 (rkR m.kind),.int .u32 m.id,.int .u32 m.tm,.slice na m.ns.length nc,.slice fa m.fs.length fc,.int .u32 0,.slice none 0 0,.int .i64 m.lo,.int .i64 m.hi,.slice ea m.es.length ec]) ?_ h2 rfl rfl (List.all_eq_true.1 rfl);refine zbd (vs:=[.int .u8 (rkR m.kind),.int .u32 m.id,.int .u32 m.tm,.slice na m.ns.length nc,.slice fa m.fs.length fc,.int .u32 0,.slice none 0 0,.int .i64 m.lo,.int .i64 m.hi,.slice ea m.es.length ec]) ?_ (za2 _ _ _);refine λhc=>⟨⟨F,M,b3+1⟩,zbm hc (zb4 hs (hm _ (by omega))),λhw'=>k _ _ ⟨na,nc,_,none,0,_,rfl,hn,hf,he0⟩ (by omega) hw'⟩
 have set:∀ x,rkR m.kind=x -> M3 b3=some (.cells 77 [.int .u8 (4),.int .u32 m.id,.int .u32 m.tm,.slice na m.ns.length nc,.slice fa m.fs.length fc,.int .u32 0,.slice none 0 0,.int .i64 m.lo,.int .i64 m.hi,.slice ea m.es.length ec] 10) ->
   (st 1 (.pointer (some ⟨b3,0,none⟩)) (.int .u8 x) λ_=>ld true 10 (.pointer (some ⟨b3,0,none⟩)) λt1=>st 10 (.pointer (some ⟨b2,0,none⟩)) t1 λ_=>ld true 10 (.pointer (some ⟨b2,0,none⟩)) λt2 h=>h.wf -> ∃ h',h.wk h'∧(h'.wf -> K t2 h')) ⟨F,M3,b3+1⟩:=by
  intro x hx h3;refine stM (cs':=[.int .u8 (x),.int .u32 m.id,.int .u32 m.tm,.slice na m.ns.length nc,.slice fa m.fs.length fc,.int .u32 0,.slice none 0 0,.int .i64 m.lo,.int .i64 m.hi,.slice ea m.es.length ec]) ?_ h3 rfl;exact tail x _ hx (za2 _ _ _) ((za4 _ _ (by omega)).trans hb2'') (zb4 hs3 (hm _ (by omega)))
 try simp only [sS]
 refine ldM (v:=.int .u8 m.kind) ?_ hb1'';refine zat (λh1=>zav ?_) (λh1=>zan ?_)
 ·have := set 1 (by unfold rkR; rw [if_pos h1]) hb3';simp only [ziy];exact this
 refine zat (λh4=>zav ?_) (λh4=>zan ?_)
 ·have := set 2 (by unfold rkR; rw [if_neg h1,if_pos h4]) hb3';simp only [ziy];exact this
 have t7:(m.kind=8∨m.kind=9∨m.kind=10) -> rkR m.kind=7:=λh=>by unfold rkR; rw [if_neg h1,if_neg h4,if_pos h]
 refine zat (λh8=>zav ?_) (λh8=>zan ?_)
 ·have := set 7 (t7 (.inl h8)) hb3';rw [zdu];simp only [ziy];exact zav (zab rfl this)
 refine zat (λh9=>zav ?_) (λh9=>zan ?_)
 ·have := set 7 (t7 (.inr (.inl h9))) hb3';rw [zdu];simp only [ziy];exact zav (zab rfl this)
 refine zat (λh10=>?_) (λh10=>?_)
 ·have := set 7 (t7 (.inr (.inr h10))) hb3';rw [zdu];simp only [ziy];exact zav (zab rfl this)
 ·have := tail 4 M3 (by unfold rkR; rw [if_neg h1,if_neg h4,if_neg (by omega)]) hb3' hb2'' hs3;rw [zdu];simp only [ziy];exact zan this
def zlx (l:List Int) (i:Nat):Int:=if i=0 then -1 else l.getD (i - 1) 0
theorem ygj {l:List Int} {i:Nat} (h:i<l.length):zlx l (i+1)=l[i]:=by simp [zlx,List.getD,h]
theorem ykp {l:List Int} {i:Nat} (h0:0<i) (h:i - 1<l.length):zlx l i=l[i - 1]:=by
 unfold zlx; rw [if_neg (by omega)]; simp [List.getD,h]
theorem yhs {l:List Int} {i:Nat} (h:i<l.length) (p:Int):zet p (l.drop i)=(decide (p<l[i]∧l[i]<6)&&zet l[i] (l.drop (i+1))):=by
 rw [List.drop_eq_getElem_cons h]; rfl
theorem ye2 {nv:Value} {l:List Int} (hf:sF F 1 nv l.length (ic l)) (hl:l.length≤1000000000) (k:(Hp.mk F M N).wf -> K (.bool (zet (-1) l)) ⟨F,M,N⟩) :
  cF 157 #[nv] K E ⟨F,M,N⟩:=by
 refine za5 mixed Tryz.func157 (by kernel_rfl) (ywn _ E _) (λhw=>?_)
 refine zwz (σ:=Nat) (λi=>.int .i64 (i:Nat)) (λi h=>h=⟨F,M,N⟩∧i≤l.length∧zet (-1) l=zet (zlx l i) (l.drop i) ∧ -1≤zlx l i) (λi=>l.length - i) 0 rfl
  (λhw1=>⟨_,za0 hw1,rfl,Nat.zero_le _,rfl,Int.le_refl _⟩) (λk1 i j h1 hI hw1 next=>?_)
 rw [zy0];obtain ⟨rfl,hi,hs,hp⟩:=hI;refine zb1 hf ?_;refine zau (λhlt=>?_) (λhge=>?_)
 rotate_left
 ·try simp only [sS]
  rw [List.drop_eq_nil_of_le (by omega)] at hs;refine λhc=>⟨_,za0 hc,λhw'=>?_⟩;have := k hw'
  rwa [hs] at this
 have i1:i<l.length:=by omega
 rw [yhs i1] at hs
 have bad:¬ (zlx l i<l[i]∧l[i]<6) -> (Hp.mk F M N).wf -> ∃ h',(Hp.mk F M N).wk h'∧(h'.wf -> K (.bool false) h'):=λhb hc=>⟨_,za0 hc,λhw'=>by
  have := k hw'
  rwa [hs,decide_eq_false hb] at this⟩
 have good:(zlx l i<l[i]∧l[i]<6) -> zet (-1) l=zet (zlx l (i+1)) (l.drop (i+1)) ∧ -1≤zlx l (i+1):=λhb=>by
  rw [hs,decide_eq_true hb,ygj i1]; exact ⟨rfl,by omega⟩
 try simp only [sS]
 refine zes hf i1 λp=>?_;refine zau (λh0=>?_) (λh0=>?_)
 ·try simp only [sS]
  exact bad (by omega)
 try simp only [sS]
 refine zes hf i1 λp=>?_;refine zby (λh5=>?_) (λh5=>?_)
 ·try simp only [sS]
  exact bad (by omega)
 try simp only [sS]
 refine zby (λhz=>?_) (λhz=>?_)
 ·have i2:i - 1<l.length:=by omega
  have hpv:=ykp (l:=l) (i:=i) (by omega) i2;try simp only [sS]
  refine zes hf i1 λp=>?_;refine zcz (by omega) (by omega) ?_;rw [show (i:Int) - 1=((i - 1:Nat):Int) by omega];refine zes hf i2 λp=>?_;refine zdv (λhle=>?_) (λhle=>?_)
  ·try simp only [sS]
   exact bad (by omega)
  ·try simp only [sS]
   refine zaq (by omega) ?_;have g:=good (by omega);exact next (i+1) _ _ (by omega) (λhw2=>⟨_,za0 hw2,rfl,i1,g.1,g.2⟩)
 ·try simp only [sS]
  refine zaq (by omega) ?_;have e0:i=0:=by omega
  have g:=good (by subst e0; unfold zlx; rw [if_pos rfl]; omega);exact next (i+1) _ _ (by omega) (λhw2=>⟨_,za0 hw2,rfl,i1,g.1,g.2⟩)
theorem zkv {α:Type} {f:α -> Bool} {l:List α} {i:Nat} (h:i<l.length) (hf:f l[i]=false):l.all f=false:=by
 rw [List.all_eq_false]; exact ⟨l[i],List.getElem_mem h,by simp [hf]⟩
theorem ybr {α:Type} {f:α -> Bool} {l:List α} {i:Nat} (h:i<l.length) (h0:(l.take i).all f=true) (h1:f l[i]=true):(l.take (i+1)).all f=true:=by
 rw [List.take_add_one,List.getElem?_eq_getElem h,Option.toList_some,List.all_append,h0]; simp [h1]
theorem ya3 {fv:Value} {l:List Fc} (hf:zbp F fv l) (hl:l.length≤1000000000) (k:(Hp.mk F M N).wf -> K (.bool (zf0 l)) ⟨F,M,N⟩) :
  cF 158 #[fv] K E ⟨F,M,N⟩:=by
 refine za5 mixed Tryz.func158 (by kernel_rfl) (yux _ E _) (λhw=>?_);obtain ⟨rows,hf1,hf2⟩:=hf
 have bad:l.all zh1=false -> (Hp.mk F M N).wf -> ∃ h',(Hp.mk F M N).wk h'∧(h'.wf -> K (.bool false) h'):=λhb hc=>⟨_,za0 hc,λhw'=>by
  have := k hw'
  rwa [zf0,hb,Bool.and_false] at this⟩
 refine zxh (σ:=Nat) (λi=>.int .i64 (i:Nat)) (λi h=>h=⟨F,M,N⟩∧i≤l.length∧(l.take i).all zh1=true) (λi=>l.length - i) 0 rfl
  (λhw1=>⟨_,za0 hw1,rfl,Nat.zero_le _,rfl⟩) (λk1 i j h1 hI hw1 next=>?_)
 rw [zxf];obtain ⟨rfl,hi,ha⟩:=hI;refine zb1 hf1 ?_;refine zau (λhlt=>?_) (λhge=>?_)
 rotate_left
 ·try simp only [sS]
  rw [List.take_of_length_le (by omega)] at ha;refine zb1 hf1 ?_;refine zdv (λh2=>?_) (λh2=>?_)
  ·refine λhc=>⟨_,za0 hc,λhw'=>?_⟩;have := k hw'
   rwa [zf0,ha,Bool.and_true,decide_eq_true (by omega)] at this
  ·refine λhc=>⟨_,za0 hc,λhw'=>?_⟩;have := k hw'
   rwa [zf0,ha,Bool.and_true,decide_eq_false (by omega)] at this
 have i1:i<l.length:=by omega
 try simp only [sS]
 refine zjz (σ:=Nat) (λt=>.int .i64 (t:Nat)) (λt h=>h=⟨F,M,N⟩∧t≤l[i].1.length∧(l[i].1.take t).all (λx=>decide (0≤x∧x≤9999))=true) (λt=>l[i].1.length - t) 0 rfl
  (λhw2=>⟨_,za0 hw2,rfl,Nat.zero_le _,rfl⟩) (λk2 t j2 h2 hI2 hw2 next2=>?_)
 rw [zjv];obtain ⟨rfl,ht,hb⟩:=hI2;have badk:∀ (hx:t<l[i].1.length),¬ (0≤l[i].1[t]∧l[i].1[t]≤9999) -> l.all zh1=false:=λhx hn=>zkv i1 (by unfold zh1; rw [zkv hx (decide_eq_false hn),Bool.and_false]);try simp only [sS]
 refine zeo hf1 hf2 (by decide) i1 (off:=0) (by decide) λp q r x hR _ hx=>?_;obtain ⟨kv,rfl,hkv,hkl⟩:=hR;have hx':x=kv:=by simpa using hx.symm
 subst hx';refine zb1 hkv ?_;refine zau (λhlt2=>?_) (λhge2=>?_)
 ·have t1:t<l[i].1.length:=by omega
  try simp only [sS]
  refine zeo hf1 hf2 (by decide) i1 (off:=0) (by decide) λp q r y hR _ hy=>?_;obtain ⟨kv,rfl,hkv,hkl⟩:=hR;have hy':y=kv:=by simpa using hy.symm
  subst hy';refine zes hkv t1 λp=>?_;refine zau (λh0=>?_) (λh0=>?_)
  ·try simp only [sS]
   exact bad (badk t1 (by omega))
  try simp only [sS]
  refine zeo hf1 hf2 (by decide) i1 (off:=0) (by decide) λp q r z hR _ hz=>?_;obtain ⟨kv,rfl,hkv,hkl⟩:=hR;have hz':z=kv:=by simpa using hz.symm
  subst hz';refine zes hkv t1 λp=>?_;refine zby (λh9=>?_) (λh9=>?_)
  ·try simp only [sS]
   exact bad (badk t1 (by omega))
  ·try simp only [sS]
   refine zaq (by omega) ?_;exact next2 (t+1) _ _ (by omega) (λhw3=>⟨_,za0 hw3,rfl,t1,ybr t1 hb (decide_eq_true (by omega))⟩)
 ·try simp only [sS]
  rw [List.take_of_length_le (show l[i].1.length≤t by omega)] at hb;refine zeo hf1 hf2 (by decide) i1 (off:=0) (by decide) λp q r y hR _ hy=>?_;obtain ⟨kv,rfl,hkv,hkl⟩:=hR;have hy':y=kv:=by simpa using hy.symm
  subst hy';refine zb1 hkv ?_;refine zby (λh4=>?_) (λh4=>?_)
  ·try simp only [sS]
   exact bad (zkv i1 (by unfold zh1; rw [decide_eq_false (by omega),Bool.false_and]))
  ·try simp only [sS]
   refine zaq (by omega) ?_;exact next (i+1) _ _ (by omega) (λhw3=>⟨_,za0 hw3,rfl,i1,ybr i1 ha (by unfold zh1; rw [decide_eq_true (by omega),hb]; rfl)⟩)
def zp6 (l:List En) (i:Nat):Int:=if i=0 then -1 else (l.getD (i - 1) (0,[])).1
theorem yhh {l:List En} {i:Nat} (h:i<l.length):zp6 l (i+1)=l[i].1:=by simp [zp6,List.getD,h]
theorem yky {l:List En} {i:Nat} (h0:0<i) (h:i - 1<l.length):zp6 l i=l[i - 1].1:=by
 unfold zp6; rw [if_neg (by omega)]; simp [List.getD,h]
theorem yhq {l:List En} {i:Nat} (h:i<l.length) (p:Int):zgs p (l.drop i)=(zf0 l[i].2&&decide (p<l[i].1)&&zgs l[i].1 (l.drop (i+1))):=by
 rw [List.drop_eq_getElem_cons h]; rfl
theorem ykh {ev:Value} {l:List En} (hf:zcb F ev l) (hl:l.length≤1000000000) (h0:∀ e∈l,0≤e.1) (hfl:∀ e∈l,e.2.length≤1000000000) (k:(Hp.mk F M N).wf -> K (.bool (zho l)) ⟨F,M,N⟩) :
  cF 160 #[ev] K E ⟨F,M,N⟩:=by
 refine za5 mixed Tryz.func160 (by kernel_rfl) (yy1 _ E _) (λhw=>?_);obtain ⟨rows,hf1,hf2⟩:=hf
 have bad:zgs (-1) l=false -> (Hp.mk F M N).wf -> ∃ h',(Hp.mk F M N).wk h'∧(h'.wf -> K (.bool false) h'):=λhb hc=>⟨_,za0 hc,λhw'=>by
  have := k hw'
  rwa [zho,hb,Bool.and_false] at this⟩
 refine zya (σ:=Nat) (λi=>.int .i64 (i:Nat)) (λi h=>h=⟨F,M,N⟩∧i≤l.length∧zgs (-1) l=zgs (zp6 l i) (l.drop i)) (λi=>l.length - i) 0 rfl
  (λhw1=>⟨_,za0 hw1,rfl,Nat.zero_le _,rfl⟩) (λk1 i j h1 hI hw1 next=>?_)
 rw [zx1];obtain ⟨rfl,hi,hs⟩:=hI;refine zb1 hf1 ?_;refine zau (λhlt=>?_) (λhge=>?_)
 rotate_left
 ·try simp only [sS]
  rw [List.drop_eq_nil_of_le (by omega)] at hs;refine zb1 hf1 ?_;refine zdv (λh2=>?_) (λh2=>?_)
  ·refine λhc=>⟨_,za0 hc,λhw'=>?_⟩;have := k hw'
   rwa [zho,hs,zgs,Bool.and_true,decide_eq_true (by omega)] at this
  ·refine λhc=>⟨_,za0 hc,λhw'=>?_⟩;have := k hw'
   rwa [zho,hs,zgs,Bool.and_true,decide_eq_false (by omega)] at this
 have i1:i<l.length:=by omega
 have hp0:=h0 _ (List.getElem_mem i1);rw [yhq i1] at hs;try simp only [sS]
 refine zeo hf1 hf2 (by decide) i1 (off:=1) (by decide) λp q r x hR _ hx=>?_;obtain ⟨fv,rfl,hfv,hfvl⟩:=hR;have hx':x=fv:=by simpa using hx.symm
 subst hx';refine ya3 hfv (hfl _ (List.getElem_mem i1)) (λhw2=>?_);cases hsf:zf0 l[i].2
 ·try simp only [sS]
  exact bad (by rw [hs,hsf]; rfl)
 rw [hsf,Bool.true_and] at hs;have badT:¬ zp6 l i<l[i].1 -> zgs (-1) l=false:=λh=>by rw [hs,decide_eq_false h]; rfl
 have good:zp6 l i<l[i].1 -> zgs (-1) l=zgs (zp6 l (i+1)) (l.drop (i+1)):=λh=>by rw [hs,decide_eq_true h,yhh i1]; rfl
 try simp only [sS]
 refine zby (λhz=>?_) (λhz=>?_)
 ·have i2:i - 1<l.length:=by omega
  have hpv:=yky (l:=l) (i:=i) (by omega) i2;try simp only [sS]
  refine zeo hf1 hf2 (by decide) i1 (off:=0) (by decide) λp q r y hR _ hy=>?_;obtain ⟨fv,rfl,_,_⟩:=hR;have hy':y=.int .u32 l[i].1:=by simpa using hy.symm
  subst hy';refine zcz (by omega) (by omega) ?_;rw [show (i:Int) - 1=((i - 1:Nat):Int) by omega];refine zeo hf1 hf2 (by decide) i2 (off:=0) (by decide) λp q r y hR _ hy=>?_;obtain ⟨fv,rfl,_,_⟩:=hR;have hy':y=.int .u32 l[i - 1].1:=by simpa using hy.symm
  subst hy';refine zdv (λhle=>?_) (λhle=>?_)
  ·try simp only [sS]
   exact bad (badT (by omega))
  ·try simp only [sS]
   refine zaq (by omega) ?_;exact next (i+1) _ _ (by omega) (λhw2=>⟨_,za0 hw2,rfl,i1,good (by omega)⟩)
 ·try simp only [sS]
  refine zaq (by omega) ?_;have e0:i=0:=by omega
  exact next (i+1) _ _ (by omega) (λhw2=>⟨_,za0 hw2,rfl,i1,good (by subst e0; unfold zp6; rw [if_pos rfl]; omega)⟩)
theorem zm1 {P:Program} {c a b:Code} {Q:QD} {env:Env} {h:Hp} (e:c=.seq a b) (k:den P a (za8 (den P b Q) Q) env h):den P c Q env h:=by subst e; exact k
theorem yr6 {P:Program} {c a:Code} {id:Nat} {Q:QD} {env:Env} {h:Hp} (e:c=.block id a) (k:den P a (blk id Q) env h):den P c Q env h:=by subst e; exact k
theorem yuz {X:Env -> Hp -> Prop} {a:Env} {h:Hp} (mk:Env -> Env) (e:a=mk a) (k:∀ b,b=a -> X (mk b) h):X a h:=by rw [e]; exact k a rfl
theorem yvi {X:Env -> Hp -> Prop} {a b:Env} {h:Hp} (k:X a h) (e:a=b):X b h:=e ▸ k
theorem zja {X:Env -> Hp -> Prop} {a:Env} {h:Hp} (mk:(Nat -> Value) -> Env) (e:a=mk (jf a)) (k:∀ j,X (mk j) h):X a h:=e ▸ k _
def zb0 (l:List UInt8) (c:Int) (i:Nat):Bool:=(l.take i).any λb=>decide ((b.toNat:Int)=c)
theorem zix {l:List UInt8} {c:Int} {i:Nat} {b:UInt8} (h:l[i]?=some b):zb0 l c (i+1)=(zb0 l c i||decide ((b.toNat:Int)=c)):=by
 unfold zb0;rw [List.take_add_one,h,List.any_append]
 simp
theorem zwb {a b:Bool} {f:Value -> Value -> Hp -> Prop} {h:Hp} (k:∀ t,f t (.bool (a&&b)) h):gdK (.bool a) true (λk=>k (.bool b)) (λt1=>pv (zad (.bool a) t1 (.bool false)) (λt2=>f t1 t2)) h:=by
 cases a
 ·exact yn3 ⟨_,rfl,by simpa using k undef⟩
 ·exact yn1 ⟨_,rfl,by simpa using k (.bool b)⟩
theorem zgb {h:Hp} {e:EqK} {k:IntKind} {a b:Int} (hk:K (.bool (decide (a=b))) h):pv (za1 e .eql (.int k a) (.int k b)) K h:=zat (λe=>by rwa [decide_eq_true e] at hk) (λe=>by rwa [decide_eq_false e] at hk)
theorem znl {l:List UInt8} {i:Nat} {b:UInt8} (h:l[i]?=some b):ixV (.string ⟨l.toArray⟩) (.int .i64 (i:Nat))=some (.int .u8 b.toNat):=by
 show (if (0:Int)≤(i:Int) then ((⟨l.toArray⟩:ByteArray)[(i:Int).toNat]?).map (λb=>Value.int .u8 b.toNat) else none)=_
 rw [if_pos (by omega)];have e:((⟨l.toArray⟩:ByteArray))[(i:Int).toNat]?=some b:=(show ((⟨l.toArray⟩:ByteArray))[(i:Int).toNat]?=l.toArray[(i:Int).toNat]? from rfl).trans (by simpa using h);rw [e]
 rfl
def mE (x:Nat -> Value) (v5 v6 v7 v8 v9 v10 i:Value) (j:Nat -> Value):Env:=zax (x 0) (x 1) (x 2) (x 3) (x 4) (x 12) (x 13) (x 14) (x 15) (x 16) (x 17) (x 18) (x 19) (x 20) (x 21) (x 22) (x 23) (x 24) (x 25) (x 26) (x 27) (x 28) (x 29) (x 30) (x 31) (x 32) (x 33) (x 34) (x 35) (x 36) (x 37) (x 38) (x 39) (x 40) (x 41) (x 42) (x 43) (x 44) (x 45) (x 46) (x 47) (x 48) (x 49) (x 50) (x 99) (x 100) (x 101) (x 102) (x 103) (x 104) (x 105) (x 106) (x 107) (x 108) (x 109) (x 110) (x 111) (x 112) (x 113) (x 114) v5 v6 v7 v8 v9 v10 i j
theorem yo5 {Q:QD} {h:Hp} {b b':Bool} {i:Nat} {c:UInt8} {l:List UInt8} {v6 v7 v8 v9 v10:Value} {x j:Nat -> Value} (hx:x 1=.string ⟨l.toArray⟩) (hi:l[i]?=some c) (hb:b'=(b||decide ((c.toNat:Int)=73)))
  (k:∀ j',Q .normal (mE x (.bool b') v6 v7 v8 v9 v10 (.int .i64 (i:Nat)) j') h) :
  den Tryz.prog (sel (za3 Tryz.f156) [1,1,1,1,1,1,1,0,1,0,0,1,0,0,0]) Q (mE x (.bool b) v6 v7 v8 v9 v10 (.int .i64 (i:Nat)) j) h:=by
 subst hb;unfold mE zax;refine zh8 (zi1 ..) ?_;cases b
 ·refine zdf (zdf (zdf (zab ((congrArg (ixV · _) hx).trans (znl hi)) (zdf (zgb ?_)))));exact zab rfl (zja (X:=Q .normal) (λj'=>mE x (.bool (false||decide ((c.toNat:Int)=73))) v6 v7 v8 v9 v10 (.int .i64 (i:Nat)) j') (by kernel_rfl) k)
 ·refine zde (zde (zde (zde ?_)));exact zab rfl (zja (X:=Q .normal) (λj'=>mE x (.bool (true||decide ((c.toNat:Int)=73))) v6 v7 v8 v9 v10 (.int .i64 (i:Nat)) j') (by kernel_rfl) k)
theorem ypk {Q:QD} {h:Hp} {b b':Bool} {i:Nat} {c:UInt8} {l:List UInt8} {v5 v7 v8 v9 v10:Value} {x j:Nat -> Value} (hx:x 1=.string ⟨l.toArray⟩) (hi:l[i]?=some c) (hb:b'=(b||decide ((c.toNat:Int)=65)))
  (k:∀ j',Q .normal (mE x v5 (.bool b') v7 v8 v9 v10 (.int .i64 (i:Nat)) j') h) :
  den Tryz.prog (sel (za3 Tryz.f156) [1,1,1,1,1,1,1,0,1,0,0,1,0,0,1,0]) Q (mE x v5 (.bool b) v7 v8 v9 v10 (.int .i64 (i:Nat)) j) h:=by
 subst hb;unfold mE zax;refine zh8 (zhh ..) ?_;cases b
 ·refine zdf (zdf (zdf (zab ((congrArg (ixV · _) hx).trans (znl hi)) (zdf (zgb ?_)))));exact zab rfl (zja (X:=Q .normal) (λj'=>mE x v5 (.bool (false||decide ((c.toNat:Int)=65))) v7 v8 v9 v10 (.int .i64 (i:Nat)) j') (by kernel_rfl) k)
 ·refine zde (zde (zde (zde ?_)));exact zab rfl (zja (X:=Q .normal) (λj'=>mE x v5 (.bool (true||decide ((c.toNat:Int)=65))) v7 v8 v9 v10 (.int .i64 (i:Nat)) j') (by kernel_rfl) k)
theorem yot {Q:QD} {h:Hp} {b b':Bool} {i:Nat} {c:UInt8} {l:List UInt8} {v5 v6 v8 v9 v10:Value} {x j:Nat -> Value} (hx:x 1=.string ⟨l.toArray⟩) (hi:l[i]?=some c) (hb:b'=(b||decide ((c.toNat:Int)=78)))
  (k:∀ j',Q .normal (mE x v5 v6 (.bool b') v8 v9 v10 (.int .i64 (i:Nat)) j') h) :
  den Tryz.prog (sel (za3 Tryz.f156) [1,1,1,1,1,1,1,0,1,0,0,1,0,0,1,1,0]) Q (mE x v5 v6 (.bool b) v8 v9 v10 (.int .i64 (i:Nat)) j) h:=by
 subst hb;unfold mE zax;refine zh8 (zh2 ..) ?_;cases b
 ·refine zdf (zdf (zdf (zab ((congrArg (ixV · _) hx).trans (znl hi)) (zdf (zgb ?_)))));exact zab rfl (zja (X:=Q .normal) (λj'=>mE x v5 v6 (.bool (false||decide ((c.toNat:Int)=78))) v8 v9 v10 (.int .i64 (i:Nat)) j') (by kernel_rfl) k)
 ·refine zde (zde (zde (zde ?_)));exact zab rfl (zja (X:=Q .normal) (λj'=>mE x v5 v6 (.bool (true||decide ((c.toNat:Int)=78))) v8 v9 v10 (.int .i64 (i:Nat)) j') (by kernel_rfl) k)
theorem yp6 {Q:QD} {h:Hp} {b b':Bool} {i:Nat} {c:UInt8} {l:List UInt8} {v5 v6 v7 v9 v10:Value} {x j:Nat -> Value} (hx:x 1=.string ⟨l.toArray⟩) (hi:l[i]?=some c) (hb:b'=(b||decide ((c.toNat:Int)=70)))
  (k:∀ j',Q .normal (mE x v5 v6 v7 (.bool b') v9 v10 (.int .i64 (i:Nat)) j') h) :
  den Tryz.prog (sel (za3 Tryz.f156) [1,1,1,1,1,1,1,0,1,0,0,1,0,0,1,1,1,0]) Q (mE x v5 v6 v7 (.bool b) v9 v10 (.int .i64 (i:Nat)) j) h:=by
 subst hb;unfold mE zax;refine zh8 (zgo ..) ?_;cases b
 ·refine zdf (zdf (zdf (zab ((congrArg (ixV · _) hx).trans (znl hi)) (zdf (zgb ?_)))));exact zab rfl (zja (X:=Q .normal) (λj'=>mE x v5 v6 v7 (.bool (false||decide ((c.toNat:Int)=70))) v9 v10 (.int .i64 (i:Nat)) j') (by kernel_rfl) k)
 ·refine zde (zde (zde (zde ?_)));exact zab rfl (zja (X:=Q .normal) (λj'=>mE x v5 v6 v7 (.bool (true||decide ((c.toNat:Int)=70))) v9 v10 (.int .i64 (i:Nat)) j') (by kernel_rfl) k)
theorem ypt {Q:QD} {h:Hp} {b b':Bool} {i:Nat} {c:UInt8} {l:List UInt8} {v5 v6 v7 v8 v10:Value} {x j:Nat -> Value} (hx:x 1=.string ⟨l.toArray⟩) (hi:l[i]?=some c) (hb:b'=(b||decide ((c.toNat:Int)=77)))
  (k:∀ j',Q .normal (mE x v5 v6 v7 v8 (.bool b') v10 (.int .i64 (i:Nat)) j') h) :
  den Tryz.prog (sel (za3 Tryz.f156) [1,1,1,1,1,1,1,0,1,0,0,1,0,0,1,1,1,1,0]) Q (mE x v5 v6 v7 v8 (.bool b) v10 (.int .i64 (i:Nat)) j) h:=by
 subst hb;unfold mE zax;refine zh8 (zgk ..) ?_;cases b
 ·refine zdf (zdf (zdf (zab ((congrArg (ixV · _) hx).trans (znl hi)) (zdf (zgb ?_)))));exact zab rfl (zja (X:=Q .normal) (λj'=>mE x v5 v6 v7 v8 (.bool (false||decide ((c.toNat:Int)=77))) v10 (.int .i64 (i:Nat)) j') (by kernel_rfl) k)
 ·refine zde (zde (zde (zde ?_)));exact zab rfl (zja (X:=Q .normal) (λj'=>mE x v5 v6 v7 v8 (.bool (true||decide ((c.toNat:Int)=77))) v10 (.int .i64 (i:Nat)) j') (by kernel_rfl) k)
theorem ym4 {Q:QD} {h:Hp} {b b':Bool} {i:Nat} {c:UInt8} {l:List UInt8} {v5 v6 v7 v8 v9:Value} {x j:Nat -> Value} (hx:x 1=.string ⟨l.toArray⟩) (hi:l[i]?=some c) (hb:b'=(b||decide ((c.toNat:Int)=82)))
  (k:∀ j',Q .normal (mE x v5 v6 v7 v8 v9 (.bool b') (.int .i64 (i:Nat)) j') h) :
  den Tryz.prog (sel (za3 Tryz.f156) [1,1,1,1,1,1,1,0,1,0,0,1,0,0,1,1,1,1,1]) Q (mE x v5 v6 v7 v8 v9 (.bool b) (.int .i64 (i:Nat)) j) h:=by
 subst hb;unfold mE zax;refine zh8 (zgj ..) ?_;cases b
 ·refine zdf (zdf (zdf (zab ((congrArg (ixV · _) hx).trans (znl hi)) (zdf (zgb ?_)))));exact zab rfl (zja (X:=Q .normal) (λj'=>mE x v5 v6 v7 v8 v9 (.bool (false||decide ((c.toNat:Int)=82))) (.int .i64 (i:Nat)) j') (by kernel_rfl) k)
 ·refine zde (zde (zde (zde ?_)));exact zab rfl (zja (X:=Q .normal) (λj'=>mE x v5 v6 v7 v8 v9 (.bool (true||decide ((c.toNat:Int)=82))) (.int .i64 (i:Nat)) j') (by kernel_rfl) k)
theorem yf7 {l:List UInt8} {i:Nat} (hl:l.length≤1000) (hi:i≤l.length) {k1:Env -> Hp -> Prop} {h:Hp} (a5 a6 a7 a8 a9 a10:Bool) {x j:Nat -> Value} (hx:x 1=.string ⟨l.toArray⟩)
  (next:i<l.length -> ∀ j',k1 (mE x (.bool (a5||zb0 l 73 (i+1))) (.bool (a6||zb0 l 65 (i+1))) (.bool (a7||zb0 l 78 (i+1))) (.bool (a8||zb0 l 70 (i+1))) (.bool (a9||zb0 l 77 (i+1))) (.bool (a10||zb0 l 82 (i+1))) (.int .i64 ((i+1:Nat):Int)) j') h)
  (stop:¬ i<l.length -> K (.bool ((a5||zb0 l 73 i)&&(a6||zb0 l 65 i)&&(a7||zb0 l 78 i)&&(a8||zb0 l 70 i)&&(a9||zb0 l 77 i)&&(a10||zb0 l 82 i))) h) :
  den Tryz.prog (sel (za3 Tryz.f156) [1,1,1,1,1,1,1,0,1,0,0]) (za8 k1 (blk 0 (za8 (den Tryz.prog (sel (za3 Tryz.f156) [1,1,1,1,1,1,1,1]) (za7 Tryz.prog Tryz.f156.results.toList K E)) (za7 Tryz.prog Tryz.f156.results.toList K E)))) (mE x (.bool (a5||zb0 l 73 i)) (.bool (a6||zb0 l 65 i)) (.bool (a7||zb0 l 78 i)) (.bool (a8||zb0 l 70 i)) (.bool (a9||zb0 l 77 i)) (.bool (a10||zb0 l 82 i)) (.int .i64 (i:Nat)) j) h:=by
 refine zm1 (a:=sel (za3 Tryz.f156) [1,1,1,1,1,1,1,0,1,0,0,0]) (b:=sel (za3 Tryz.f156) [1,1,1,1,1,1,1,0,1,0,0,1]) (by kernel_rfl) ?_;unfold mE zax;refine zh8 (zjs ..) ?_;refine zab (v:=.int .i64 (l.length:Nat)) (by rw [hx]; rfl) ?_;refine zau (λhlt=>zav ?_) (λhge=>zan ?_)
 rotate_left
 ·refine zh8 (zou ..) ?_;refine zwb (λt1=>zwb (λt2=>zwb (λt3=>zwb (λt4=>zwb (λt5=>?_)))));exact stop (by omega)
 have i1:i<l.length:=by omega
 have hg:l[i]?=some l[i]:=List.getElem?_eq_getElem i1;refine zja (λj'=>mE x (.bool (a5||zb0 l 73 i)) (.bool (a6||zb0 l 65 i)) (.bool (a7||zb0 l 78 i)) (.bool (a8||zb0 l 70 i)) (.bool (a9||zb0 l 77 i)) (.bool (a10||zb0 l 82 i)) (.int .i64 (i:Nat)) j') (by kernel_rfl) (λj1=>?_);refine zm1 (a:=sel (za3 Tryz.f156) [1,1,1,1,1,1,1,0,1,0,0,1,0]) (b:=sel (za3 Tryz.f156) [1,1,1,1,1,1,1,0,1,0,0,1,1]) (by kernel_rfl) ?_;refine yr6 (id:=1) (a:=sel (za3 Tryz.f156) [1,1,1,1,1,1,1,0,1,0,0,1,0,0]) (by kernel_rfl) ?_;refine zm1 (a:=sel (za3 Tryz.f156) [1,1,1,1,1,1,1,0,1,0,0,1,0,0,0]) (b:=sel (za3 Tryz.f156) [1,1,1,1,1,1,1,0,1,0,0,1,0,0,1]) (by kernel_rfl) ?_;refine yo5 hx hg (b':=(a5||zb0 l 73 (i+1))) (by rw [zix hg,Bool.or_assoc]) (λj2=>?_);refine zm1 (a:=sel (za3 Tryz.f156) [1,1,1,1,1,1,1,0,1,0,0,1,0,0,1,0]) (b:=sel (za3 Tryz.f156) [1,1,1,1,1,1,1,0,1,0,0,1,0,0,1,1]) (by kernel_rfl) ?_;refine ypk hx hg (b':=(a6||zb0 l 65 (i+1))) (by rw [zix hg,Bool.or_assoc]) (λj3=>?_);refine zm1 (a:=sel (za3 Tryz.f156) [1,1,1,1,1,1,1,0,1,0,0,1,0,0,1,1,0]) (b:=sel (za3 Tryz.f156) [1,1,1,1,1,1,1,0,1,0,0,1,0,0,1,1,1]) (by kernel_rfl) ?_;refine yot hx hg (b':=(a7||zb0 l 78 (i+1))) (by rw [zix hg,Bool.or_assoc]) (λj4=>?_);refine zm1 (a:=sel (za3 Tryz.f156) [1,1,1,1,1,1,1,0,1,0,0,1,0,0,1,1,1,0]) (b:=sel (za3 Tryz.f156) [1,1,1,1,1,1,1,0,1,0,0,1,0,0,1,1,1,1]) (by kernel_rfl) ?_;refine yp6 hx hg (b':=(a8||zb0 l 70 (i+1))) (by rw [zix hg,Bool.or_assoc]) (λj5=>?_);refine zm1 (a:=sel (za3 Tryz.f156) [1,1,1,1,1,1,1,0,1,0,0,1,0,0,1,1,1,1,0]) (b:=sel (za3 Tryz.f156) [1,1,1,1,1,1,1,0,1,0,0,1,0,0,1,1,1,1,1]) (by kernel_rfl) ?_;refine ypt hx hg (b':=(a9||zb0 l 77 (i+1))) (by rw [zix hg,Bool.or_assoc]) (λj6=>?_);refine ym4 hx hg (b':=(a10||zb0 l 82 (i+1))) (by rw [zix hg,Bool.or_assoc]) (λj7=>?_);unfold mE zax;refine zh8 (zjl ..) ?_;refine zaq (by omega) ?_;exact zja (λj'=>mE x (.bool (a5||zb0 l 73 (i+1))) (.bool (a6||zb0 l 65 (i+1))) (.bool (a7||zb0 l 78 (i+1))) (.bool (a8||zb0 l 70 (i+1))) (.bool (a9||zb0 l 77 (i+1))) (.bool (a10||zb0 l 82 (i+1))) (.int .i64 ((i+1:Nat):Int)) j') (by kernel_rfl) (λj8=>next i1 j8)
theorem zox {h:Hp} {a:Bool} {A:zae -> Hp -> Prop} (x:Value) (hA:a=true -> ∀ K':zae,K' x h -> A K' h) (k:∀ t,(a=true -> t=x) -> K t h):gdK (.bool a) true A K h:=by
 cases a
 ·exact yn3 (k undef (by simp))
 ·exact yn1 (hA rfl _ (k x (λ_=>rfl)))
theorem yds {h:Hp} {a b:Bool} {t:Value} (e:a=true -> t=.bool b) (k:K (.bool (a&&b)) h):pv (zad (.bool a) t (.bool false)) K h:=by
 cases a
 ·exact zab rfl k
 ·exact zab (by rw [e rfl]; rfl) (by simpa using k)
def zk8 (l:List UInt8) (r:zaj):Bool:=((decide (r.id=0)||zb0 l 73 l.length))&&((decide (r.tm=0)||zb0 l 65 l.length))&&((decide ((r.ns.length:Int)=0)||zb0 l 78 l.length))&&((decide ((r.fs.length:Int)=0)||zb0 l 70 l.length))&&((true||zb0 l 77 l.length))&&(((decide (r.lo=0)&&decide (r.hi=0)&&decide ((r.es.length:Int)=0))||zb0 l 82 l.length))
theorem zn8 {l:List UInt8} (hl:l.length≤1000) {cs:List Value} {r:zaj} (hr:zef F cs r) (k:∀ N',N≤N' -> (Hp.mk F M N').wf -> K (.bool (zk8 l r)) ⟨F,M,N'⟩) :
  cF 156 #[.agg cs.toArray,.string ⟨l.toArray⟩] K E ⟨F,M,N⟩:=by
 refine za5 mixed Tryz.func156 (by kernel_rfl) (yxd _ E _ _) (λhw=>?_);have hm:za6 M N:=hw.m;obtain ⟨na,nc,fv,sa,sc,ev,rfl,hn,hf,he⟩:=hr;obtain ⟨fa,fc,rfl⟩:=hf.form;obtain ⟨ea,ec,rfl⟩:∃ ea ec,ev=.slice ea r.es.length ec:=by obtain ⟨rows,h1,_⟩:=he; obtain ⟨a,c,h2,_⟩:=h1.form; exact ⟨a,c,h2⟩
 refine zar (cs:=[.int .u8 r.kind,.int .u32 r.id,.int .u32 r.tm,.slice na r.ns.length nc,.slice fa r.fs.length fc,.int .u32 0,.slice sa 0 sc,.int .i64 r.lo,.int .i64 r.hi,.slice ea r.es.length ec]) (λb hb=>?_);have hx:=za2 M b (some (.cells 77 [.int .u8 r.kind,.int .u32 r.id,.int .u32 r.tm,.slice na r.ns.length nc,.slice fa r.fs.length fc,.int .u32 0,.slice sa 0 sc,.int .i64 r.lo,.int .i64 r.hi,.slice ea r.es.length ec] 10));have fin:(Hp.mk F (upd M b (some (.cells 77 [.int .u8 r.kind,.int .u32 r.id,.int .u32 r.tm,.slice na r.ns.length nc,.slice fa r.fs.length fc,.int .u32 0,.slice sa 0 sc,.int .i64 r.lo,.int .i64 r.hi,.slice ea r.es.length ec] 10))) (b+1)).wf -> ∃ h',(Hp.mk F (upd M b (some (.cells 77 [.int .u8 r.kind,.int .u32 r.id,.int .u32 r.tm,.slice na r.ns.length nc,.slice fa r.fs.length fc,.int .u32 0,.slice sa 0 sc,.int .i64 r.lo,.int .i64 r.hi,.slice ea r.es.length ec] 10))) (b+1)).wk h'∧(h'.wf -> K (.bool (zk8 l r)) h'):=λhc=>⟨⟨F,M,b+1⟩,zbm hc (zb4 (zbc _) (hm _ hb)),λhw'=>k _ (by omega) hw'⟩;simp only [show ([.int .u8 r.kind,.int .u32 r.id,.int .u32 r.tm,.slice na r.ns.length nc,.slice fa r.fs.length fc,.int .u32 0,.slice sa 0 sc,.int .i64 r.lo,.int .i64 r.hi,.slice ea r.es.length ec]:List Value).length=10 from rfl];generalize upd M b _=M1 at *;try simp only [sS]
 refine ldM (v:=.int .u32 r.id) ?_ hx;refine zgb ?_;try simp only [sS]
 refine ldM (v:=.int .u32 r.tm) ?_ hx;refine zgb ?_;try simp only [sS]
 refine ldM (v:=.slice na r.ns.length nc) ?_ hx;try simp only [sS]
 refine zgb ?_;try simp only [sS]
 refine ldM (v:=.slice fa r.fs.length fc) ?_ hx;try simp only [sS]
 refine zgb ?_;try simp only [sS]
 refine ldM (v:=.int .u32 0) ?_ hx;refine zcj rfl ?_;try simp only [sS]
 refine ldM (v:=.slice sa 0 sc) ?_ hx;try simp only [sS]
 refine zcj rfl ?_;try simp only [sS]
 refine ldM (v:=.int .i64 r.lo) ?_ hx;refine zgb ?_;refine zox (.pointer (some ⟨b,8,none⟩)) (λ_ K' hk=>hk) (λt29 e29=>?_);refine zox (.int .i64 r.hi) (λha K' hk=>by rw [e29 ha]; exact ldM (v:=.int .i64 r.hi) hk hx) (λt30 e30=>?_);refine zox (.bool (decide (r.hi=0))) (λha K' hk=>by rw [e30 ha]; exact zgb hk) (λt31 e31=>?_);refine yds e31 ?_;refine zox (.pointer (some ⟨b,9,none⟩)) (λ_ K' hk=>hk) (λt33 e33=>?_);refine zox (.slice ea r.es.length ec) (λha K' hk=>by rw [e33 ha]; exact ldM (v:=.slice ea r.es.length ec) hk hx) (λt34 e34=>?_);refine zox (.int .i64 (r.es.length:Nat)) (λha K' hk=>by rw [e34 ha]; exact zab rfl hk) (λt35 e35=>?_);refine zox (.bool (decide ((r.es.length:Int)=0))) (λha K' hk=>by rw [e35 ha]; exact zgb hk) (λt36 e36=>?_);refine yds e36 ?_
 refine (zkx (σ:=Nat) (λi=>.bool (decide (r.id=0)||zb0 l 73 i)) (λi=>.bool (decide (r.tm=0)||zb0 l 65 i)) (λi=>.bool (decide ((r.ns.length:Int)=0)||zb0 l 78 i)) (λi=>.bool (decide ((r.fs.length:Int)=0)||zb0 l 70 i)) (λi=>.bool (true||zb0 l 77 i)) (λi=>.bool ((decide (r.lo=0)&&decide (r.hi=0)&&decide ((r.es.length:Int)=0))||zb0 l 82 i)) (λi=>.int .i64 (i:Nat)) (λi h=>h=⟨F,M1,b+1⟩∧i≤l.length) (λi=>l.length - i) 0 (by simp [zb0]) (by simp [zb0]) (by simp [zb0]) (by simp [zb0]) (by simp [zb0]) (by simp [zb0]) rfl
  (λhw1=>⟨_,za0 hw1,rfl,Nat.zero_le _⟩) (λk1 i j h1 hI hw1 next=>?_))
 obtain ⟨rfl,hi⟩:=hI;refine yuz (λa=>mE (jf a) (.bool (decide (r.id=0)||zb0 l 73 i)) (.bool (decide (r.tm=0)||zb0 l 65 i)) (.bool (decide ((r.ns.length:Int)=0)||zb0 l 78 i)) (.bool (decide ((r.fs.length:Int)=0)||zb0 l 70 i)) (.bool (true||zb0 l 77 i)) (.bool ((decide (r.lo=0)&&decide (r.hi=0)&&decide ((r.es.length:Int)=0))||zb0 l 82 i)) (.int .i64 (i:Nat)) (jf a)) (by kernel_rfl) (λa ha=>?_);refine yf7 (x:=jf a) hl hi (decide (r.id=0)) (decide (r.tm=0)) (decide ((r.ns.length:Int)=0)) (decide ((r.fs.length:Int)=0)) true (decide (r.lo=0)&&decide (r.hi=0)&&decide ((r.es.length:Int)=0)) (by rw [ha]; kernel_rfl) (λi1 j'=>?_) (λhge=>?_)
 ·subst ha;exact yvi (next (i+1) j' _ (by omega) (λhw2=>⟨_,za0 hw2,rfl,i1⟩)) (by kernel_rfl)
 have e0:i=l.length:=by omega
 subst e0;exact fin
theorem yfx {α:Type} (l:List α):decide ((l.length:Int)=0)=decide (l=[]):=by cases l<;>simp<;>omega
theorem yos (r:zaj):zk8 [73,78,70] r=decide (r.tm=0∧r.lo=0∧r.hi=0∧r.es=[]):=by
 unfold zk8;simp only [yfx,show zb0 [73,78,70] 73 3=true from rfl,show zb0 [73,78,70] 65 3=false from rfl,show zb0 [73,78,70] 78 3=true from rfl,show zb0 [73,78,70] 70 3=true from rfl,show zb0 [73,78,70] 82 3=false from rfl,List.length_cons,List.length_nil,Nat.reduceAdd,Nat.zero_add,Bool.or_true,Bool.true_or,Bool.or_false,Bool.true_and,Bool.and_true]
 by_cases h1:r.tm=0<;>by_cases h2:r.lo=0<;>by_cases h3:r.hi=0<;>by_cases h4:r.es=[]<;>simp [h1,h2,h3,h4]
theorem yon (r:zaj):zk8 [73,65,78] r=decide (r.lo=0∧r.hi=0∧r.es=[]∧r.fs=[]):=by
 unfold zk8;simp only [yfx,show zb0 [73,65,78] 73 3=true from rfl,show zb0 [73,65,78] 65 3=true from rfl,show zb0 [73,65,78] 78 3=true from rfl,show zb0 [73,65,78] 70 3=false from rfl,show zb0 [73,65,78] 82 3=false from rfl,List.length_cons,List.length_nil,Nat.reduceAdd,Nat.zero_add,Bool.or_true,Bool.true_or,Bool.or_false,Bool.true_and,Bool.and_true]
 by_cases h1:r.fs=[]<;>by_cases h2:r.lo=0<;>by_cases h3:r.hi=0<;>by_cases h4:r.es=[]<;>simp [h1,h2,h3,h4]
theorem yfg (r:zaj):zk8 [73] r=decide (r.tm=0∧r.lo=0∧r.hi=0∧r.es=[]∧r.fs=[]∧r.ns=[]):=by
 unfold zk8;simp only [yfx,show zb0 [73] 73 1=true from rfl,show zb0 [73] 65 1=false from rfl,show zb0 [73] 78 1=false from rfl,show zb0 [73] 70 1=false from rfl,show zb0 [73] 82 1=false from rfl,List.length_cons,List.length_nil,Nat.reduceAdd,Nat.zero_add,Bool.or_true,Bool.true_or,Bool.or_false,Bool.true_and,Bool.and_true]
 by_cases h1:r.tm=0<;>by_cases h2:r.lo=0<;>by_cases h3:r.hi=0<;>by_cases h4:r.es=[]<;>by_cases h5:r.fs=[]<;>by_cases h6:r.ns=[]<;>simp [h1,h2,h3,h4,h5,h6]
theorem yqu (r:zaj):zk8 [73,82] r=decide (r.tm=0∧r.ns=[]∧r.fs=[]):=by
 unfold zk8;simp only [yfx,show zb0 [73,82] 73 2=true from rfl,show zb0 [73,82] 65 2=false from rfl,show zb0 [73,82] 78 2=false from rfl,show zb0 [73,82] 70 2=false from rfl,show zb0 [73,82] 82 2=true from rfl,List.length_cons,List.length_nil,Nat.reduceAdd,Nat.zero_add,Bool.or_true,Bool.true_or,Bool.or_false,Bool.true_and,Bool.and_true]
 by_cases h1:r.tm=0<;>by_cases h5:r.fs=[]<;>by_cases h6:r.ns=[]<;>simp [h1,h5,h6]
theorem yhp {cs:List Value} {r:zaj} (hr:zef F cs r) (hL:r.lens) (h6:r.kind≠6) (hnl:r.ns.length≤1000000000) (hfl:r.fs.length≤1000000000) (hel:r.es.length≤1000000000) (hee:∀ e∈r.es,e.2.length≤1000000000) (k:∀ N',N≤N' -> (Hp.mk F M N').wf -> K (.bool (zbv r)) ⟨F,M,N'⟩) :
  cF 113 #[.agg cs.toArray] K E ⟨F,M,N⟩:=by
 refine za5 mixed Tryz.func113 (by kernel_rfl) (ytu _ E _) (λhw=>?_);have hm:za6 M N:=hw.m;have hr0:=hr;obtain ⟨na,nc,fv,sa,sc,ev,rfl,hn,hf,he⟩:=hr;obtain ⟨fa,fc,rfl⟩:=hf.form;obtain ⟨ea,ec,rfl⟩:∃ ea ec,ev=.slice ea r.es.length ec:=by obtain ⟨rows,h1,_⟩:=he; obtain ⟨a,c,h2,_⟩:=h1.form; exact ⟨a,c,h2⟩
 refine zar (cs:=[.int .u8 r.kind,.int .u32 r.id,.int .u32 r.tm,.slice na r.ns.length nc,.slice fa r.fs.length fc,.int .u32 0,.slice sa 0 sc,.int .i64 r.lo,.int .i64 r.hi,.slice ea r.es.length ec]) (λb hb=>?_);have hx:=za2 M b (some (.cells 77 [.int .u8 r.kind,.int .u32 r.id,.int .u32 r.tm,.slice na r.ns.length nc,.slice fa r.fs.length fc,.int .u32 0,.slice sa 0 sc,.int .i64 r.lo,.int .i64 r.hi,.slice ea r.es.length ec] 10));have hd:zf1 M (upd M b (some (.cells 77 [.int .u8 r.kind,.int .u32 r.id,.int .u32 r.tm,.slice na r.ns.length nc,.slice fa r.fs.length fc,.int .u32 0,.slice sa 0 sc,.int .i64 r.lo,.int .i64 r.hi,.slice ea r.es.length ec] 10))):=zb4 (zbc _) (hm _ hb);simp only [show ([.int .u8 r.kind,.int .u32 r.id,.int .u32 r.tm,.slice na r.ns.length nc,.slice fa r.fs.length fc,.int .u32 0,.slice sa 0 sc,.int .i64 r.lo,.int .i64 r.hi,.slice ea r.es.length ec]:List Value).length=10 from rfl];generalize upd M b _=M1 at *
 have fin:∀ y,zbv r=y -> ∀ N',b+1≤N' -> ∀ h',h'=(⟨F,M1,N'⟩:Hp) -> h'.wf -> ∃ h'',h'.wk h''∧(h''.wf -> K (.bool y) h''):=λy e N' hN' h' e' hc=>by
  subst e; subst e';exact ⟨⟨F,M,N'⟩,zbm hc hd,λhw'=>k _ (by omega) hw'⟩
 try simp only [sS]
 refine ldM (v:=.int .u8 r.kind) ?_ hx;refine zat (λg1=>?_) (λg1=>?_)
 ·try simp only [sS]
  refine zbd (vs:=[.int .u8 r.kind,.int .u32 r.id,.int .u32 r.tm,.slice na r.ns.length nc,.slice fa r.fs.length fc,.int .u32 0,.slice sa 0 sc,.int .i64 r.lo,.int .i64 r.hi,.slice ea r.es.length ec]) ?_ hx;refine zn8 (l:=[73,78,70]) (by simp) hr0 (λN1 hN1 hw1=>?_);rw [yos];have e0:zbv r=(decide (r.tm=0∧r.lo=0∧r.hi=0∧r.es=[])&&zet (-1) r.ns&&zf0 r.fs):=by unfold zbv; rw [if_pos g1]
  cases hb1:decide (r.tm=0∧r.lo=0∧r.hi=0∧r.es=[])
  ·try simp only [sS]
   exact fin _ (by rw [e0,hb1]; rfl) _ hN1 _ rfl
  ·try simp only [sS]
   refine ldM (v:=.slice na r.ns.length nc) ?_ hx;refine ye2 hn hnl (λhw2=>?_);cases hb2:zet (-1) r.ns
   ·try simp only [sS]
    exact fin _ (by rw [e0,hb1,hb2]; rfl) _ hN1 _ rfl
   ·try simp only [sS]
    refine ldM (v:=.slice fa r.fs.length fc) ?_ hx;refine ya3 hf hfl (λhw3=>?_);try simp only [sS]
    exact fin _ (by rw [e0,hb1,hb2]; rfl) _ hN1 _ rfl
 ·try simp only [sS]
  refine zat (λg2=>?_) (λg2=>?_)
  ·try simp only [sS]
   refine zbd (vs:=[.int .u8 r.kind,.int .u32 r.id,.int .u32 r.tm,.slice na r.ns.length nc,.slice fa r.fs.length fc,.int .u32 0,.slice sa 0 sc,.int .i64 r.lo,.int .i64 r.hi,.slice ea r.es.length ec]) ?_ hx;refine zn8 (l:=[73,65,78]) (by simp) hr0 (λN1 hN1 hw1=>?_);rw [yon];have e0:zbv r=(decide (r.lo=0∧r.hi=0∧r.es=[]∧r.fs=[])&&zet (-1) r.ns):=by unfold zbv; rw [if_neg g1,if_pos g2]
   cases hb1:decide (r.lo=0∧r.hi=0∧r.es=[]∧r.fs=[])
   ·try simp only [sS]
    exact fin _ (by rw [e0,hb1]; rfl) _ hN1 _ rfl
   ·try simp only [sS]
    refine ldM (v:=.slice na r.ns.length nc) ?_ hx;refine ye2 hn hnl (λhw2=>?_);try simp only [sS]
    exact fin _ (by rw [e0,hb1]; rfl) _ hN1 _ rfl
  ·try simp only [sS]
   have three:(r.kind=3∨r.kind=4∨r.kind=5) -> zbv r=decide (r.tm=0∧r.lo=0∧r.hi=0∧r.es=[]∧r.fs=[]∧r.ns=[]):=λg=>by unfold zbv; rw [if_neg g1,if_neg g2,if_pos g]
   refine zat (λg3=>?_) (λg3=>?_)
   ·refine zav ?_;rw [zea];refine zav ?_;refine zbd (vs:=[.int .u8 r.kind,.int .u32 r.id,.int .u32 r.tm,.slice na r.ns.length nc,.slice fa r.fs.length fc,.int .u32 0,.slice sa 0 sc,.int .i64 r.lo,.int .i64 r.hi,.slice ea r.es.length ec]) ?_ hx;refine zn8 (l:=[73]) (by simp) hr0 (λN1 hN1 hw1=>?_);rw [yfg];exact fin _ (three (.inl g3)) _ hN1 _ rfl
   refine zan ?_;refine zat (λg4=>?_) (λg4=>?_)
   ·refine zav ?_;rw [zea];refine zav ?_;refine zbd (vs:=[.int .u8 r.kind,.int .u32 r.id,.int .u32 r.tm,.slice na r.ns.length nc,.slice fa r.fs.length fc,.int .u32 0,.slice sa 0 sc,.int .i64 r.lo,.int .i64 r.hi,.slice ea r.es.length ec]) ?_ hx;refine zn8 (l:=[73]) (by simp) hr0 (λN1 hN1 hw1=>?_);rw [yfg];exact fin _ (three (.inr (.inl g4))) _ hN1 _ rfl
   refine zan ?_;refine zat (λg5=>?_) (λg5=>?_)
   ·rw [zea];refine zav ?_;refine zbd (vs:=[.int .u8 r.kind,.int .u32 r.id,.int .u32 r.tm,.slice na r.ns.length nc,.slice fa r.fs.length fc,.int .u32 0,.slice sa 0 sc,.int .i64 r.lo,.int .i64 r.hi,.slice ea r.es.length ec]) ?_ hx;refine zn8 (l:=[73]) (by simp) hr0 (λN1 hN1 hw1=>?_);rw [yfg];exact fin _ (three (.inr (.inr g5))) _ hN1 _ rfl
   rw [zea];refine zan ?_;refine zbo h6 (zan ?_);refine zat (λg7=>?_) (λg7=>?_)
   ·have e0:zbv r=(decide (r.tm=0∧r.ns=[]∧r.fs=[]∧0≤r.lo∧r.lo≤10000∧0≤r.hi∧r.hi≤10000)&&zho r.es):=by unfold zbv; rw [if_neg g1,if_neg g2,if_neg (by omega),if_pos g7]
    refine zav ?_;refine zbd (vs:=[.int .u8 r.kind,.int .u32 r.id,.int .u32 r.tm,.slice na r.ns.length nc,.slice fa r.fs.length fc,.int .u32 0,.slice sa 0 sc,.int .i64 r.lo,.int .i64 r.hi,.slice ea r.es.length ec]) ?_ hx;refine zn8 (l:=[73,82]) (by simp) hr0 (λN1 hN1 hw1=>?_);rw [yqu];cases hb1:decide (r.tm=0∧r.ns=[]∧r.fs=[])
    ·have hb0:=of_decide_eq_false hb1;try simp only [sS]
     exact fin _ (by rw [e0,decide_eq_false (λe=>hb0 ⟨e.1,e.2.1,e.2.2.1⟩)]; rfl) _ hN1 _ rfl
    have hb0:=of_decide_eq_true hb1;try simp only [sS]
    refine ldM (v:=.slice ea r.es.length ec) ?_ hx;refine ykh he hel (λe h=>hL.et e h) hee (λhw2=>?_);cases hb2:zho r.es
    ·try simp only [sS]
     exact fin _ (by rw [e0,hb2,Bool.and_false]) _ hN1 _ rfl
    try simp only [sS]
    refine ldM (v:=.int .i64 r.lo) ?_ hx;refine zg7 (λq1=>?_) (λq1=>?_)
    rotate_left
    ·try simp only [sS]
     exact fin _ (by rw [e0,decide_eq_false (by omega)]; rfl) _ hN1 _ rfl
    try simp only [sS]
    refine ldM (v:=.int .i64 r.lo) ?_ hx;refine zdv (λq2=>?_) (λq2=>?_)
    rotate_left
    ·try simp only [sS]
     exact fin _ (by rw [e0,decide_eq_false (by omega)]; rfl) _ hN1 _ rfl
    try simp only [sS]
    refine ldM (v:=.int .i64 r.hi) ?_ hx;refine zg7 (λq3=>?_) (λq3=>?_)
    rotate_left
    ·try simp only [sS]
     exact fin _ (by rw [e0,decide_eq_false (by omega)]; rfl) _ hN1 _ rfl
    try simp only [sS]
    refine ldM (v:=.int .i64 r.hi) ?_ hx;refine zdv (λq4=>?_) (λq4=>?_)
    rotate_left
    ·try simp only [sS]
     exact fin _ (by rw [e0,decide_eq_false (by omega)]; rfl) _ hN1 _ rfl
    try simp only [sS]
    exact fin _ (by rw [e0,hb2,decide_eq_true (by exact ⟨hb0.1,hb0.2.1,hb0.2.2,q1,q2,q3,q4⟩)]; rfl) _ hN1 _ rfl
   ·refine zan ?_;exact fin _ (by unfold zbv; rw [if_neg g1,if_neg g2,if_neg (by omega),if_neg g7]) _ (Nat.le_refl _) _ rfl
theorem yc6 {b N:Nat} {x:Int} (hb:N≤b):own (upd M b (some (.cells 5 [.int .u8 x] 1))) N 5 1 (.slice (some ⟨b,0,none⟩) 1 1) 1 (bts [x]) :=
 ⟨rfl,.inr ⟨b,1,[],rfl,Nat.le_refl _,by unfold maxLen; omega,hb,by rw [za2]; rfl⟩⟩
theorem yq7 {x:Int} (h0:0≤x) (h1:x<256):zam x 1=[x]:=by
 have h:zjf x 0=x:=by
  have := yed x.toNat (k:=0) (by omega);rw [show ((x.toNat:Nat):Int)=x by omega] at this;rw [this]; omega
 simp [zam,zgf,h]
theorem yqz {cs:List Value} {r:zaj} (hr:zef F cs r) (hL:r.lens) (ht:r.typ) (h6:r.kind≠6) (hnl:r.ns.length≤1000000) (hfl:r.fs.length≤1000000) (hel:r.es.length≤1000000) (hee:∀ e∈r.es,e.2.length≤1000000) (hE:(zag r).length≤100000000)
  (k0:zbv r=false -> ∀ N',N≤N' -> (Hp.mk F M N').wf -> K (.tuple #[.slice none 0 0,.int .i64 1]) ⟨F,M,N'⟩)
  (k1:zbv r=true -> (zag r).length>60000 -> ∀ N',N≤N' -> (Hp.mk F M N').wf -> K (.tuple #[.slice none 0 0,.int .i64 3]) ⟨F,M,N'⟩)
  (k2:zbv r=true -> (zag r).length≤60000 -> ∀ v M' N',own M' N 5 1 v (zag r).length (bts (zag r)) -> (∀ q,q<N -> M' q=M q) -> N≤N' -> za6 M' N' -> (Hp.mk F M' N').wf -> K (.tuple #[v,.int .i64 0]) ⟨F,M',N'⟩) :
  cF 62 #[.agg cs.toArray] K E ⟨F,M,N⟩:=by
 refine za5 mixed Tryz.func62 (by kernel_rfl) (t62 _ E _) (λhw=>?_);have hm:za6 M N:=hw.m;have hr0:=hr;obtain ⟨na,nc,fv,sa,sc,ev,rfl,hn,hf,he⟩:=hr;have he0:=he;obtain ⟨fa,fc,rfl⟩:=hf.form;obtain ⟨ea,ec,rfl⟩:∃ ea ec,ev=.slice ea r.es.length ec:=by obtain ⟨rows,h1,_⟩:=he; obtain ⟨a,c,h2,_⟩:=h1.form; exact ⟨a,c,h2⟩
 refine zar (cs:=[.int .u8 r.kind,.int .u32 r.id,.int .u32 r.tm,.slice na r.ns.length nc,.slice fa r.fs.length fc,.int .u32 0,.slice sa 0 sc,.int .i64 r.lo,.int .i64 r.hi,.slice ea r.es.length ec]) (λb1 hb1=>?_);refine zbd (vs:=[.int .u8 r.kind,.int .u32 r.id,.int .u32 r.tm,.slice na r.ns.length nc,.slice fa r.fs.length fc,.int .u32 0,.slice sa 0 sc,.int .i64 r.lo,.int .i64 r.hi,.slice ea r.es.length ec]) ?_ (za2 _ _ _);refine yhp hr0 hL h6 (by omega) (by omega) (by omega) (λe h=>by have := hee e h; omega) (λN1 hN1 hw1=>?_);cases hs:zbv r
 ·try simp only [sS]
  exact λhc=>⟨⟨F,M,N1⟩,zbm hc (zb4 (zbc _) (hm _ hb1)),λhw'=>k0 hs _ (by omega) hw'⟩
 have hk:=zqn hs;try simp only [sS]
 refine ldM (v:=.int .u8 r.kind) ?_ (za2 _ _ _);refine zd7 (cs:=[.int .u8 r.kind]) (by kernel_rfl) (λb2 hb2=>?_);have P:own (upd (upd M b1 (some (.cells 77 [.int .u8 r.kind,.int .u32 r.id,.int .u32 r.tm,.slice na r.ns.length nc,.slice fa r.fs.length fc,.int .u32 0,.slice sa 0 sc,.int .i64 r.lo,.int .i64 r.hi,.slice ea r.es.length ec] 10))) b2 (some (.cells 5 [.int .u8 r.kind] 1))) b2 5 1 (.slice (some ⟨b2,0,none⟩) 1 1) 1 (bts [r.kind]):=yc6 (Nat.le_refl _);have hb:upd (upd M b1 (some (.cells 77 [.int .u8 r.kind,.int .u32 r.id,.int .u32 r.tm,.slice na r.ns.length nc,.slice fa r.fs.length fc,.int .u32 0,.slice sa 0 sc,.int .i64 r.lo,.int .i64 r.hi,.slice ea r.es.length ec] 10))) b2 (some (.cells 5 [.int .u8 r.kind] 1)) b1=some (.cells 77 [.int .u8 r.kind,.int .u32 r.id,.int .u32 r.tm,.slice na r.ns.length nc,.slice fa r.fs.length fc,.int .u32 0,.slice sa 0 sc,.int .i64 r.lo,.int .i64 r.hi,.slice ea r.es.length ec] 10):=(za4 _ _ (by omega)).trans (za2 _ _ _);have hM2:∀ q,q<N -> upd (upd M b1 (some (.cells 77 [.int .u8 r.kind,.int .u32 r.id,.int .u32 r.tm,.slice na r.ns.length nc,.slice fa r.fs.length fc,.int .u32 0,.slice sa 0 sc,.int .i64 r.lo,.int .i64 r.hi,.slice ea r.es.length ec] 10))) b2 (some (.cells 5 [.int .u8 r.kind] 1)) q=M q:=λq hq=>(za4 _ _ (by omega)).trans (za4 _ _ (by omega));have hm2:za6 (upd (upd M b1 (some (.cells 77 [.int .u8 r.kind,.int .u32 r.id,.int .u32 r.tm,.slice na r.ns.length nc,.slice fa r.fs.length fc,.int .u32 0,.slice sa 0 sc,.int .i64 r.lo,.int .i64 r.hi,.slice ea r.es.length ec] 10))) b2 (some (.cells 5 [.int .u8 r.kind] 1))) (b2+1):=((hm.new hb1 _).up hN1).new hb2 _;simp only [List.length_cons,List.length_nil,Nat.zero_add];generalize upd (upd M b1 _) b2 _=M2 at *
 have eR:zag r=[r.kind]++(zam (zaz r.id) 4++if r.kind=1 then zcn r.ns++zce r.fs else if r.kind=2 then zam (zaz r.tm) 4++zcn r.ns else if r.kind=7 then zam (zaz r.lo) 4++(zam (zaz r.hi) 4++zdn r.es) else []):=by
  unfold zag;rw [yq7 (x:=r.kind) (by omega) (by omega),zge (x:=r.id) ht.i0.1 (by have := ht.i0.2; omega),zge (x:=r.tm) ht.t0.1 (by have := ht.t0.2; omega)]
 have hlow:∀ {v3:Value} {M3:Nat -> Option zah},fr M2 M3 (b2+1) (.slice (some ⟨b2,0,none⟩) 1 1) v3 -> ∀ q,q<b2 -> M3 q=M2 q:=λh q hq=>(h q (by simp [Value.ownBlock]; omega) (by omega)).1
 have fin:∀ (v5:Value) (M5:Nat -> Option zah) (N5:Nat),own M5 b2 5 1 v5 (zag r).length (bts (zag r)) -> fr M2 M5 (b2+1) (.slice (some ⟨b2,0,none⟩) 1 1) v5 -> b2+1≤N5 -> za6 M5 N5 ->
   (pv (zac v5) (λt1=>pv (za1 .none .gtr t1 (.int .i64 60000)) λt2=>cnd t2 (λh=>h.wf -> ∃ h',h.wk h'∧(h'.wf -> K (.tuple #[.slice none 0 0,.int .i64 3]) h')) (λh=>h.wf -> ∃ h',h.wk h'∧(h'.wf -> K (.tuple #[v5,.int .i64 0]) h')))) ⟨F,M5,N5⟩:=by
  intro v5 M5 N5 P5 f5 hN5 hm5;have hM5:∀ q,q<N -> M5 q=M q:=λq hq=>(hlow f5 q (by omega)).trans (hM2 q hq);obtain ⟨a5,c5,e5,_⟩:=P5.form;subst e5;refine zab (v:=.int .i64 ((zag r).length:Nat)) rfl ?_;refine zby (λh1=>?_) (λh1=>?_)
  ·refine zav ?_;exact λhc=>⟨⟨F,M,N5⟩,zbm hc (znc hm hM5),λhw'=>k1 hs (by omega) _ (by omega) hw'⟩
  ·refine zan ?_;exact λhc=>⟨_,za0 hc,λhw'=>k2 hs (by omega) _ M5 N5 (P5.keep (λ_ _=>rfl) (by omega)) hM5 (by omega) hm5 hw'⟩
 try simp only [sS]
 refine ldM (v:=.int .u32 r.id) ?_ hb;refine zex ?_;refine zig (size:=4) P (by omega) (by omega) (by omega) (λv4 M4 N4 P4 f4 hN4 hm4 hw4=>?_);rw [zaa] at P4;try simp only [sS]
 refine ldM (v:=.int .u8 r.kind) ?_ ((hlow f4 b1 (by omega)).trans hb);refine zat (λg1=>?_) (λg1=>?_)
 ·simp only [g1,if_true] at eR;have hlen:(zag r).length=5+((zcn r.ns).length+(zce r.fs).length):=by rw [eR]; simp only [List.length_append,zaa,List.length_cons,List.length_nil]; omega
  try simp only [sS]
  refine ldM (v:=.slice na r.ns.length nc) ?_ ((hlow f4 b1 (by omega)).trans hb);refine yde P4 (by omega) hn hnl (by omega) (λv5 M5 N5 P5 f5 hN5 hm5 hw5=>?_);have f45:=f4.trans f5 (by omega);try simp only [sS]
  refine ldM (v:=.slice fa r.fs.length fc) ?_ ((hlow f45 b1 (by omega)).trans hb);refine ydw P5 (by omega) hf hfl (by omega) (λv6 M6 N6 P6 f6 hN6 hm6 hw6=>?_);rw [zib];refine fin v6 M6 N6 ?_ (f45.trans f6 (by omega)) (by omega) hm6;rw [show (zag r).length=1+4+(zcn r.ns).length+(zce r.fs).length by omega,eR]
  simpa [bts,g1] using P6
 ·simp only [g1,if_false] at eR;refine zan ?_;refine zat (λg2=>?_) (λg2=>?_)
  ·simp only [g2,if_true] at eR;have hlen:(zag r).length=5+(4+(zcn r.ns).length):=by rw [eR]; simp only [List.length_append,zaa,List.length_cons,List.length_nil]; omega
   try simp only [sS]
   refine ldM (v:=.int .u32 r.tm) ?_ ((hlow f4 b1 (by omega)).trans hb);refine zex ?_;refine zig (size:=4) P4 (by omega) (by omega) (by omega) (λv5 M5 N5 P5 f5 hN5 hm5 hw5=>?_);rw [zaa] at P5;have f45:=f4.trans f5 (by omega);try simp only [sS]
   refine ldM (v:=.slice na r.ns.length nc) ?_ ((hlow f45 b1 (by omega)).trans hb);refine yde P5 (by omega) hn hnl (by omega) (λv6 M6 N6 P6 f6 hN6 hm6 hw6=>?_);rw [zib];refine fin v6 M6 N6 ?_ (f45.trans f6 (by omega)) (by omega) hm6;rw [show (zag r).length=1+4+4+(zcn r.ns).length by omega,eR]
   simpa [bts,g2] using P6
  ·simp only [g2,if_false] at eR;refine zan (zbo h6 (zan ?_));refine zat (λg7=>?_) (λg7=>?_)
   ·simp only [g7,if_true] at eR;have hlen:(zag r).length=5+(4+(4+(zdn r.es).length)):=by rw [eR]; simp only [List.length_append,zaa,List.length_cons,List.length_nil]; omega
    try simp only [sS]
    refine ldM (v:=.int .i64 r.lo) ?_ ((hlow f4 b1 (by omega)).trans hb);refine zex ?_;refine zig (size:=4) P4 (by omega) (by omega) (by omega) (λv5 M5 N5 P5 f5 hN5 hm5 hw5=>?_);rw [zaa] at P5;have f45:=f4.trans f5 (by omega);try simp only [sS]
    refine ldM (v:=.int .i64 r.hi) ?_ ((hlow f45 b1 (by omega)).trans hb);refine zex ?_;refine zig (size:=4) P5 (by omega) (by omega) (by omega) (λv6 M6 N6 P6 f6 hN6 hm6 hw6=>?_);rw [zaa] at P6;have f46:=f45.trans f6 (by omega);try simp only [sS]
    refine ldM (v:=.slice ea r.es.length ec) ?_ ((hlow f46 b1 (by omega)).trans hb);refine yoc P6 (by omega) he0 hel hee (by omega) (λv7 M7 N7 P7 f7 hN7 hm7 hw7=>?_);rw [zib];refine fin v7 M7 N7 ?_ (f46.trans f7 (by omega)) (by omega) hm7;rw [show (zag r).length=1+4+4+4+(zdn r.es).length by omega,eR]
    simpa [bts,g7] using P7
   ·simp only [g7,if_false] at eR;refine zan ?_;rw [zib];refine fin v4 M4 N4 ?_ f4 (by omega) hm4;have hlen:(zag r).length=1+4:=by rw [eR]; simp only [List.length_append,zaa,List.length_cons,List.length_nil]
    rw [hlen,eR]
    simpa [bts] using P4
theorem yee {m:zaj} (hk:1≤m.kind∧m.kind≤11):yj6 m=zb7 m:=by
 have:rkR m.kind=zcf m.kind:=by unfold rkR zcf; split; rfl; split; rfl; split; rfl; rw [if_pos (by omega)]
 unfold yj6 zb7; rw [this]
theorem yoa {cs:List Value} {m:zaj} (hr:zfq F cs m) (hL:m.lens) (hk:1≤m.kind∧m.kind≤11) (hnl:m.ns.length≤1000000000) (hfl:m.fs.length≤1000000000) (hel:m.es.length≤1000000000) (hee:∀ e∈m.es,e.2.length≤1000000000) (k:∀ N',N≤N' -> (Hp.mk F M N').wf -> K (.bool (zbz m)) ⟨F,M,N'⟩) :
  cF 61 #[.agg cs.toArray] K E ⟨F,M,N⟩:=by
 refine za5 mixed Tryz.func61 (by kernel_rfl) (t61 _ E _) (λhw=>?_);have hm:za6 M N:=hw.m;have hr0:=hr;obtain ⟨na,nc,fv,ev,rfl,hn,hf,he⟩:=hr;obtain ⟨fa,fc,rfl⟩:=hf.form;obtain ⟨ea,ec,rfl⟩:=he.form;refine zar (cs:=[.int .u8 m.kind,.int .u32 m.id,.int .u32 m.tm,.slice na m.ns.length nc,.slice fa m.fs.length fc,.int .i64 m.lo,.int .i64 m.hi,.slice ea m.es.length ec]) (λb hb=>?_);have hx:=za2 M b (some (.cells 49 [.int .u8 m.kind,.int .u32 m.id,.int .u32 m.tm,.slice na m.ns.length nc,.slice fa m.fs.length fc,.int .i64 m.lo,.int .i64 m.hi,.slice ea m.es.length ec] 8));have hd:zf1 M (upd M b (some (.cells 49 [.int .u8 m.kind,.int .u32 m.id,.int .u32 m.tm,.slice na m.ns.length nc,.slice fa m.fs.length fc,.int .i64 m.lo,.int .i64 m.hi,.slice ea m.es.length ec] 8))):=zb4 (zbc _) (hm _ hb);simp only [show ([.int .u8 m.kind,.int .u32 m.id,.int .u32 m.tm,.slice na m.ns.length nc,.slice fa m.fs.length fc,.int .i64 m.lo,.int .i64 m.hi,.slice ea m.es.length ec]:List Value).length=8 from rfl];generalize upd M b _=M1 at *
 have fin:∀ y,zbz m=y -> ∀ N',b+1≤N' -> ∀ h',h'=(⟨F,M1,N'⟩:Hp) -> h'.wf -> ∃ h'',h'.wk h''∧(h''.wf -> K (.bool y) h''):=λy e N' hN' h' e' hc=>by
  subst e; subst e';exact ⟨⟨F,M,N'⟩,zbm hc hd,λhw'=>k _ (by omega) hw'⟩
 have last:(m.kind=4 -> m.ns=[]) -> (m.kind=8 -> m.es=[]) -> (m.kind=9 -> m.lo=0∧m.hi=0) ->
   (ld true 8 (.pointer (some ⟨b,0,none⟩)) λt41=>cF 63 #[t41] (λt42=>cF 113 #[t42] (λt43 h=>h.wf -> ∃ h',h.wk h'∧(h'.wf -> K t43 h')) E) E) ⟨F,M1,b+1⟩:=by
  intro g4 g8 g9;refine zbd (vs:=[.int .u8 m.kind,.int .u32 m.id,.int .u32 m.tm,.slice na m.ns.length nc,.slice fa m.fs.length fc,.int .i64 m.lo,.int .i64 m.hi,.slice ea m.es.length ec]) ?_ hx;refine yid hr0 (λcs' N2 hr2 hN2 hw2=>?_);rw [yee hk] at hr2;refine yhp hr2 (zhj hL) (zj0 _) hnl hfl hel hee (λN3 hN3 hw3=>?_);refine fin _ ?_ _ (by omega) _ rfl;unfold zbz;rw [decide_eq_false (λe=>e.2 (g4 e.1)),decide_eq_false (λe=>e.2 (g8 e.1)),decide_eq_false (λe=>e.2.elim (λq=>q (g9 e.1).1) (λq=>q (g9 e.1).2))]
  rfl
 try simp only [sS]
 refine ldM (v:=.int .u8 m.kind) ?_ hx;refine zau (λhlt=>absurd hlt (by omega)) (λ_=>?_);try simp only [sS]
 refine ldM (v:=.int .u8 m.kind) ?_ hx;refine zby (λhlt=>absurd hlt (by omega)) (λ_=>?_);try simp only [sS]
 refine ldM (v:=.int .u8 m.kind) ?_ hx;refine zat (λh4=>?_) (λh4=>?_)
 ·try simp only [sS]
  refine ldM (v:=.slice na m.ns.length nc) ?_ hx;try simp only [sS]
  refine zby (λhg=>?_) (λhg=>?_)
  ·try simp only [sS]
   exact fin _ (by unfold zbz; rw [decide_eq_true ⟨h4,zfu.2 (by omega)⟩]; rfl) _ (Nat.le_refl _) _ rfl
  ·try simp only [sS]
   refine ldM (v:=.int .u8 m.kind) ?_ hx;refine zbo (by omega) ?_;try simp only [sS]
   refine ldM (v:=.int .u8 m.kind) ?_ hx;refine zbo (by omega) ?_;try simp only [sS]
   exact last (λ_=>Classical.byContradiction λe=>hg (by have := zfu.1 e; omega)) (λe=>absurd e (by omega)) (λe=>absurd e (by omega))
 ·try simp only [sS]
  refine ldM (v:=.int .u8 m.kind) ?_ hx;refine zat (λh8=>?_) (λh8=>?_)
  ·try simp only [sS]
   refine ldM (v:=.slice ea m.es.length ec) ?_ hx;try simp only [sS]
   refine zby (λhg=>?_) (λhg=>?_)
   ·try simp only [sS]
    exact fin _ (by unfold zbz; rw [decide_eq_true (show m.kind=8∧m.es≠[] from ⟨h8,zfu.2 (by omega)⟩)]; simp) _ (Nat.le_refl _) _ rfl
   ·try simp only [sS]
    refine ldM (v:=.int .u8 m.kind) ?_ hx;refine zbo (by omega) ?_;try simp only [sS]
    exact last (λe=>absurd e (by omega)) (λ_=>Classical.byContradiction λe=>hg (by have := zfu.1 e; omega)) (λe=>absurd e (by omega))
  ·try simp only [sS]
   refine ldM (v:=.int .u8 m.kind) ?_ hx;refine zat (λh9=>?_) (λh9=>?_)
   ·try simp only [sS]
    refine ldM (v:=.int .i64 m.lo) ?_ hx;refine zht (λhlo=>?_) (λhlo=>?_)
    ·try simp only [sS]
     exact fin _ (by unfold zbz; rw [decide_eq_true (show m.kind=9∧(m.lo≠0∨m.hi≠0) from ⟨h9,.inl hlo⟩)]; simp) _ (Nat.le_refl _) _ rfl
    ·try simp only [sS]
     refine ldM (v:=.int .i64 m.hi) ?_ hx;refine zht (λhhi=>?_) (λhhi=>?_)
     ·try simp only [sS]
      exact fin _ (by unfold zbz; rw [decide_eq_true (show m.kind=9∧(m.lo≠0∨m.hi≠0) from ⟨h9,.inr hhi⟩)]; simp) _ (Nat.le_refl _) _ rfl
     ·try simp only [sS]
      exact last (λe=>absurd e h4) (λe=>absurd e h8) (λ_=>⟨by omega,by omega⟩)
   ·try simp only [sS]
    exact last (λe=>absurd e h4) (λe=>absurd e h8) (λe=>absurd e h9)
theorem zxz {cs:List Value} {m:zaj} (hr:zfq F cs m) (hL:m.lens) (ht:m.typ) (hk:1≤m.kind∧m.kind≤11) (hnl:m.ns.length≤1000000) (hfl:m.fs.length≤1000000) (hel:m.es.length≤1000000) (hee:∀ e∈m.es,e.2.length≤1000000) (hE:(zag (zb7 m)).length≤100000000)
  (k0:¬ (zbz m=true∧(zag (zb7 m)).length≤60000) -> ∀ e N',N≤N' -> (Hp.mk F M N').wf -> K (.tuple #[.slice none 0 0,.int .i64 e]) ⟨F,M,N'⟩)
  (k2:zbz m=true -> (zag (zb7 m)).length≤60000 -> ∀ v M' N',own M' N 5 1 v (zbw m).length (bts (zbw m)) -> (∀ q,q<N -> M' q=M q) -> N≤N' -> za6 M' N' -> (Hp.mk F M' N').wf -> K (.tuple #[v,.int .i64 0]) ⟨F,M',N'⟩) :
  cF 25 #[.agg cs.toArray] K E ⟨F,M,N⟩:=by
 refine za5 mixed Tryz.func25 (by kernel_rfl) (t25 _ E _) (λhw=>?_);have hm:za6 M N:=hw.m;have hr0:=hr;obtain ⟨na,nc,fv,ev,rfl,hn,hf,he⟩:=hr;obtain ⟨fa,fc,rfl⟩:=hf.form;obtain ⟨ea,ec,rfl⟩:=he.form;refine zar (cs:=[.int .u8 m.kind,.int .u32 m.id,.int .u32 m.tm,.slice na m.ns.length nc,.slice fa m.fs.length fc,.int .i64 m.lo,.int .i64 m.hi,.slice ea m.es.length ec]) (λb hb=>?_);have hx:=za2 M b (some (.cells 49 [.int .u8 m.kind,.int .u32 m.id,.int .u32 m.tm,.slice na m.ns.length nc,.slice fa m.fs.length fc,.int .i64 m.lo,.int .i64 m.hi,.slice ea m.es.length ec] 8));have hM1:∀ q,q<N -> upd M b (some (.cells 49 [.int .u8 m.kind,.int .u32 m.id,.int .u32 m.tm,.slice na m.ns.length nc,.slice fa m.fs.length fc,.int .i64 m.lo,.int .i64 m.hi,.slice ea m.es.length ec] 8)) q=M q:=λq hq=>za4 _ _ (by omega);have hm1:=hm.new hb (some (.cells 49 [.int .u8 m.kind,.int .u32 m.id,.int .u32 m.tm,.slice na m.ns.length nc,.slice fa m.fs.length fc,.int .i64 m.lo,.int .i64 m.hi,.slice ea m.es.length ec] 8));have hd:zf1 M (upd M b (some (.cells 49 [.int .u8 m.kind,.int .u32 m.id,.int .u32 m.tm,.slice na m.ns.length nc,.slice fa m.fs.length fc,.int .i64 m.lo,.int .i64 m.hi,.slice ea m.es.length ec] 8))):=zb4 (zbc _) (hm _ hb);simp only [show ([.int .u8 m.kind,.int .u32 m.id,.int .u32 m.tm,.slice na m.ns.length nc,.slice fa m.fs.length fc,.int .i64 m.lo,.int .i64 m.hi,.slice ea m.es.length ec]:List Value).length=8 from rfl];generalize upd M b _=M1 at *;refine zbd (vs:=[.int .u8 m.kind,.int .u32 m.id,.int .u32 m.tm,.slice na m.ns.length nc,.slice fa m.fs.length fc,.int .i64 m.lo,.int .i64 m.hi,.slice ea m.es.length ec]) ?_ hx;refine yoa hr0 hL hk (by omega) (by omega) (by omega) (λe h=>by have := hee e h; omega) (λN1 hN1 hw1=>?_);cases hs:zbz m
 ·try simp only [sS]
  exact λhc=>⟨⟨F,M,N1⟩,zbm hc hd,λhw'=>k0 (λe=>by rw [hs] at e; simp at e) _ _ (by omega) hw'⟩
 try simp only [sS]
 refine zbd (vs:=[.int .u8 m.kind,.int .u32 m.id,.int .u32 m.tm,.slice na m.ns.length nc,.slice fa m.fs.length fc,.int .i64 m.lo,.int .i64 m.hi,.slice ea m.es.length ec]) ?_ hx;refine yid hr0 (λcs' N2 hr2 hN2 hw2=>?_);rw [yee hk] at hr2
 have hsr:zbv (zb7 m)=true:=by
  unfold zbz at hs; simp only [Bool.and_eq_true] at hs; exact hs.2.2.2
 refine yqz hr2 (zhj hL) (zsq ht) (zj0 _) hnl hfl hel hee hE (λhno=>by rw [hsr] at hno; simp at hno) (λ_ hgt N3 hN3 hw3=>?_) (λ_ hle v M3 N3 ho hM3 hN3 hm3 hw3=>?_)
 ·try simp only [sS]
  refine zid (by omega) (zav ?_);exact λhc=>⟨⟨F,M,N3⟩,zbm hc hd,λhw'=>k0 (λe=>by have := e.2; omega) _ _ (by omega) hw'⟩
 ·have ho2:=ho;obtain ⟨va,vc,rfl,_⟩:=ho2.form;try simp only [sS]
  refine zcv rfl (zan ?_);try simp only [sS]
  refine ldM (v:=.int .u8 m.kind) ?_ ((hM3 b (by omega)).trans hx);refine zd7 (cs:=[.int .u8 m.kind]) (by kernel_rfl) (λb2 hb2=>?_);have P:own (upd M3 b2 (some (.cells 5 [.int .u8 m.kind] 1))) b2 5 1 (.slice (some ⟨b2,0,none⟩) 1 1) 1 (bts [m.kind]):=yc6 (Nat.le_refl _);have hM4:∀ q,q<N3 -> upd M3 b2 (some (.cells 5 [.int .u8 m.kind] 1)) q=M3 q:=λq hq=>za4 _ _ (by omega);have hm4:=hm3.new hb2 (some (.cells 5 [.int .u8 m.kind] 1));have ho4:=ho.keep (λq hq=>hM4 q (ho.lt hm3 q hq)) (Nat.le_refl _);simp only [List.length_cons,List.length_nil,Nat.zero_add];generalize upd M3 b2 _=M4 at *;refine P.app hm4 (by omega) ho4.rd (znu _) (by omega) (by unfold maxLen; omega) (λv5 M5 N5 h5 hf5 hN5 hm5=>?_);have e5:bts [m.kind]++bts (zag (zb7 m))=bts (zbw m):=by simp [bts,zbw]
  have e6:1+(zag (zb7 m)).length=(zbw m).length:=by simp [zbw]; omega
  rw [e5,e6] at h5;exact λhc=>⟨_,za0 hc,λhw'=>k2 hs hle v5 M5 N5 (h5.keep (λ_ _=>rfl) (by omega)) (λq hq=>((hf5 q (by simp [Value.ownBlock]; omega) (by omega)).1).trans ((hM4 q (by omega)).trans ((hM3 q (by omega)).trans (hM1 q hq)))) (by omega) hm5 hw'⟩
theorem zqu {cs:List Value} {m:zaj} (hr:zfq F cs m) (hL:m.lens) (ht:m.typ) (hk:1≤m.kind∧m.kind≤11) (hnl:m.ns.length≤1000000) (hfl:m.fs.length≤1000000) (hel:m.es.length≤1000000) (hee:∀ e∈m.es,e.2.length≤1000000) (hE:(zag (zb7 m)).length≤100000000)
  (k0:¬ (zbz m=true∧(zag (zb7 m)).length≤60000) -> ∀ N',N≤N' -> (Hp.mk F M N').wf -> K (.slice none 0 0) ⟨F,M,N'⟩)
  (k2:zbz m=true -> (zag (zb7 m)).length≤60000 -> ∀ v F' N',sF F' 1 v (zbw m).length (bts (zbw m)) -> (∀ q,v.ownBlock=some q -> q<N') -> za9 F F' -> N≤N' -> (Hp.mk F' M N').wf -> K v ⟨F',M,N'⟩) :
  cF 17 #[.agg cs.toArray] K E ⟨F,M,N⟩:=by
 refine za5 mixed Tryz.func17 (by kernel_rfl) (t17 _ E _) (λhw=>?_);have hm:za6 M N:=hw.m;have hr0:=hr;obtain ⟨na,nc,fv,ev,rfl,hn,hf,he⟩:=hr;obtain ⟨fa,fc,rfl⟩:=hf.form;obtain ⟨ea,ec,rfl⟩:=he.form;refine zar (cs:=[.int .u8 m.kind,.int .u32 m.id,.int .u32 m.tm,.slice na m.ns.length nc,.slice fa m.fs.length fc,.int .i64 m.lo,.int .i64 m.hi,.slice ea m.es.length ec]) (λb hb=>?_);have hx:=za2 M b (some (.cells 49 [.int .u8 m.kind,.int .u32 m.id,.int .u32 m.tm,.slice na m.ns.length nc,.slice fa m.fs.length fc,.int .i64 m.lo,.int .i64 m.hi,.slice ea m.es.length ec] 8));have hM1:∀ q,q<N -> upd M b (some (.cells 49 [.int .u8 m.kind,.int .u32 m.id,.int .u32 m.tm,.slice na m.ns.length nc,.slice fa m.fs.length fc,.int .i64 m.lo,.int .i64 m.hi,.slice ea m.es.length ec] 8)) q=M q:=λq hq=>za4 _ _ (by omega);have hm1:=hm.new hb (some (.cells 49 [.int .u8 m.kind,.int .u32 m.id,.int .u32 m.tm,.slice na m.ns.length nc,.slice fa m.fs.length fc,.int .i64 m.lo,.int .i64 m.hi,.slice ea m.es.length ec] 8));have hd:zf1 M (upd M b (some (.cells 49 [.int .u8 m.kind,.int .u32 m.id,.int .u32 m.tm,.slice na m.ns.length nc,.slice fa m.fs.length fc,.int .i64 m.lo,.int .i64 m.hi,.slice ea m.es.length ec] 8))):=zb4 (zbc _) (hm _ hb);simp only [show ([.int .u8 m.kind,.int .u32 m.id,.int .u32 m.tm,.slice na m.ns.length nc,.slice fa m.fs.length fc,.int .i64 m.lo,.int .i64 m.hi,.slice ea m.es.length ec]:List Value).length=8 from rfl];generalize upd M b _=M1 at *;refine zbd (vs:=[.int .u8 m.kind,.int .u32 m.id,.int .u32 m.tm,.slice na m.ns.length nc,.slice fa m.fs.length fc,.int .i64 m.lo,.int .i64 m.hi,.slice ea m.es.length ec]) ?_ hx;refine zxz hr0 hL ht hk hnl hfl hel hee hE (λhno e N1 hN1 hw1=>?_) (λhs hle v M1' N1 ho hM hN1 hm1' hw1=>?_)
 ·try simp only [sS]
  exact λhc=>⟨⟨F,M,N1⟩,zbm hc hd,λhw'=>k0 hno _ (by omega) hw'⟩
 ·try simp only [sS]
  exact λhc=>⟨_,zdw hm (λq hq=>(hM q (by omega)).trans (hM1 q hq)) hc,λhw'=>k2 hs hle v _ N1 (ho.rd.frz hc (λq hq=>.inl (by have := (ho.ge q hq).1; omega))) (λq hq=>ho.lt hm1' q hq) (zbb hc) (by omega) hw'⟩
theorem zm6 (l:List Int):(zcn l).length=1+l.length:=by unfold zcn; rw [List.length_append,zaa,ydg]
theorem zql:(zce []).length=4:=by simp [zce,zaa]
theorem zqh:(zdn []).length=4:=by simp [zdn,zaa]
theorem ymo {m:zaj} (hs:zbz m=true) (hl:(zag (zb7 m)).length≤60000):(zag (rPr m)).length≤2000000∧(zag (rTk m)).length≤2000000∧m.ns.length≤100000:=by
 have hr:zbv (zb7 m)=true:=by
  unfold zbz at hs; simp only [Bool.and_eq_true] at hs; exact hs.2.2.2
 rw [zfh] at hl;rw [zfh,zfh];simp only [rPr,rTk,if_true,show ¬ ((7:Int)=1) by omega,show ¬ ((7:Int)=2) by omega,if_false];unfold zbv at hr
 by_cases e:(zb7 m).kind=1
 ·rw [if_pos e] at hr hl;simp only [Bool.and_eq_true,decide_eq_true_eq] at hr;have hl2:5+((zcn m.ns).length+(zce m.fs).length)≤60000:=hl;rw [show m.es=[] from hr.1.1.2.2.2,zqh];have := zm6 m.ns;omega
 rw [if_neg e] at hr hl
 by_cases e:(zb7 m).kind=2
 ·rw [if_pos e] at hr hl;simp only [Bool.and_eq_true,decide_eq_true_eq] at hr;have hl2:5+(4+(zcn m.ns).length)≤60000:=hl;rw [show m.es=[] from hr.1.2.2.1,show m.fs=[] from hr.1.2.2.2,zqh,zql];have := zm6 m.ns;omega
 rw [if_neg e] at hr hl
 by_cases e:(zb7 m).kind=3∨(zb7 m).kind=4∨(zb7 m).kind=5
 ·rw [if_pos e] at hr;simp only [decide_eq_true_eq] at hr;rw [show m.es=[] from hr.2.2.2.1,show m.fs=[] from hr.2.2.2.2.1,show m.ns=[] from hr.2.2.2.2.2,zm6,zqh,zql]
  simp
 rw [if_neg e] at hr
 by_cases e:(zb7 m).kind=7
 ·rw [if_pos e] at hr hl;simp only [Bool.and_eq_true,decide_eq_true_eq] at hr;have hl2:5+(8+(zdn m.es).length)≤60000:=hl;rw [show m.ns=[] from hr.1.2.1,show m.fs=[] from hr.1.2.2.1,zm6,zql];simp only [List.length_nil];omega
 rw [if_neg e] at hr;cases hr
section
variable {B nb lg pd:Nat} {v:Value} {room:Int} {p g mb:Nat} {hv dv:Value} {rows:List (List Value)} {l:List Dm} {me:Int} {ov:Value} {s:NS}
theorem zmh {frm:Int} {bv:Value} {m:zaj} {s':NS} {ans:List zaj} (H:zao F M B nb lg pd v s.bs s.ls room p g mb hv dv rows l s.h s.bt s.tk me ov) (hB:B≤N) (hr0:0≤room) (hroom:room≤2000000) (o:okH l 5000 200 s.h) (hdl:l.length≤1000)
  (hv0:sF F 1 bv (zbw m).length (bts (zbw m))) (ho:∀ q,bv.ownBlock=some q -> q<N) (hs:zbz m=true) (ht:m.typ) (hl:(zag (zb7 m)).length≤60000) (hk:1≤m.kind∧m.kind≤11) (h8:m.kind≠8)
  (hfb:(zal s.bt m.id).fs.length≤140737488351232) (htm:0≤(zal s.bt m.id).tm∧(zal s.bt m.id).tm<4294967296) (es:zbk l room s m=(s',ans))
  (k:∀ v' hv' F' M' N' rows' ov',za9 F F' -> zao F' M' B nb lg pd v' s'.bs s'.ls room p g mb hv' dv rows' l s'.h s'.bt s'.tk me ov' -> zle F' ov' (ans.map λa=>(me,frm,zbw a)) ->
   (∀ q,¬ nft nb lg pd p g mb v hv q -> q<N -> M' q=M q∧¬ nft nb lg pd p g mb v' hv' q) -> N≤N' -> za6 M' N' -> (Hp.mk F' M' N').wf -> K (.tuple #[ov',.int .u16 0]) ⟨F',M',N'⟩) :
  cF 16 #[.pointer (some ⟨nb,0,none⟩),.int .i64 frm,bv] K E ⟨F,M,N⟩:=by
 obtain ⟨g1,g2,g3⟩:=ymo hs hl;refine yiv H hB hr0 hroom o hdl hv0.sR ho (ynm (by omega)) (by simp [zbw]; omega) (ym5 m) (yk8 hs ht hl) (λe=>absurd e h8) g1 g2 (by omega) hfb htm (λs2 ans2 es2=>?_);rw [es] at es2;simp only [Prod.mk.injEq] at es2;obtain ⟨rfl,rfl⟩:=es2;exact k
theorem zns {ms:List (Int×Int×List Int)} {K:Value -> Value -> Value -> Value -> zae} {i:Nat} {x:Int} {rest:List Int} (O:zle F ov ms) (hi:i<ms.length) (he:(ms[i]'hi).2.2=x::rest) (k:∀ a b c d,K a b c d (.int .u8 x) ⟨F,M,N⟩) :
  (pv (iaV none 3 ov (.int .i64 (i:Nat))) λa=>pv (faV 2 a) λb=>ld false 1 b λc=>pv (iaV none 1 c (.int .i64 0)) λd=>ld false 1 d (K a b c d)) ⟨F,M,N⟩:=by
 obtain ⟨rs,h1,h2⟩:=O;refine zeo h1 h2 (by decide) hi (off:=2) (by decide) (λp q r y hR _ hy=>?_);obtain ⟨u,rfl,hu⟩:=hR;have hy':y=u:=by simpa using hy.symm
 subst hy';have h0:0<(ms[i]'hi).2.2.length:=by rw [he]; simp
 refine zzn (k:=.u8) (l:=(ms[i]'hi).2.2) hu (i:=0) h0 (λpp=>?_);have e:((ms[i]'hi).2.2)[0]'h0=x:=by simp only [he,List.getElem_cons_zero]
 rw [e];exact k _ _ _ _
theorem ztg {ms:List (Int×Int×List Int)} {K:Value -> Value -> zae} {i:Nat} (O:zle F ov ms) (hi:i<ms.length) (k:∀ a b,K a b (.int .i64 (ms[i]'hi).2.1) ⟨F,M,N⟩) :
  (pv (iaV none 3 ov (.int .i64 (i:Nat))) λa=>pv (faV 1 a) λb=>ld false 1 b (K a b)) ⟨F,M,N⟩:=by
 obtain ⟨rs,h1,h2⟩:=O;refine zeo h1 h2 (by decide) hi (off:=1) (by decide) (λp q r y hR _ hy=>?_);obtain ⟨u,rfl,hu⟩:=hR;have hy':y=.int .i64 (ms[i]'hi).2.1:=by simpa using hy.symm
 subst hy';exact k _ _
theorem zle.len {ms:List (Int×Int×List Int)} (O:zle F ov ms) {K:zae} {h:Hp} (k:K (.int .i64 (ms.length:Nat)) h):pv (zac ov) K h:=by
 obtain ⟨rs,h1,_⟩:=O;exact zb1 h1 k
end
end Go.Proofs.YtlhlhpgjnjjhnaaGreatDoor.A
