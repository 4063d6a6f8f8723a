import Derived.Test.YtgcmbkoejjcjlaaGreatDoorZ3
import Derived.Test.YtgcmbkoejjcjlaaGreatDoorProg
import Derived.Test.YtgcmbkoejjcjlaaGreatDoorZ1
import Derived.Lib.Overlaps
import Derived.Laws.Externs
set_option maxHeartbeats 4000000
open Go Go.RowKit Go.Proofs.YtgcmbkoejjcjlaaGreatDoor.K Go.Proofs.YtgcmbkoejjcjlaaGreatDoor.T
set_option linter.unusedVariables false
set_option linter.unusedSimpArgs false
namespace Go.Proofs.YtgcmbkoejjcjlaaGreatDoor.A
variable {F F':Nat→Option (List Value)} {M M':Nat→Option zak} {N N':Nat} {K:zae} {E:zat}
noncomputable def frzP (F:Nat→Option (List Value)) (M:Nat→Option zak) (p:Nat→Prop):Nat→Option (List Value):=fun b=>open Classical in if p b then (match M b with | some (.cells _ cs _)=>some cs | _=>F b) else F b
theorem zbd {p:Nat→Prop} (hc:(Hp.mk F M N).wf):zac F (frzP F M p):=fun b cs hb=>by
 unfold frzP
 split
 ·rw [show M b=none from hc.d b cs hb]; exact hb
 ·exact hb
theorem zgw {p:Nat→Prop} (hc:(Hp.mk F M N).wf):(Hp.mk F M N).wk ⟨frzP F M p,zbj M (fun q=>¬ p q),N⟩:=by
 refine ⟨rfl,zoa _ _,fun b cs hb=>?_,fun b cs hb=>?_⟩
 ·simp only [frzP] at hb
  split at hb
  ·rename_i hp
   split at hb
   ·rename_i e cs' tot he; cases hb; exact .inr ⟨by simp [zbj,hp],e,cs,tot,he,List.prefix_refl _⟩
   ·exact .inl hb
  ·exact .inl hb
 ·simp only [frzP] at hb
  split at hb
  ·rename_i hp; simp [zbj,hp]
  ·have:M b=none:=hc.d b cs hb
   simp only [zbj,this]; split<;>rfl
theorem own.frzP {B:Nat} {e:TypeId} {sz n:Nat} {v:Value} {cs:List Value} {p:Nat→Prop} (h:own M B e sz v n cs) (hp:∀ q,v.ownBlock=some q→p q):sF (A.frzP F M p) sz v n cs:=by
 refine ⟨h.1,?_⟩
 rcases h.2 with ⟨rfl,rfl⟩ | ⟨b,c,rest,rfl,h2,h3,h4,h5⟩
 ·exact .inl ⟨_,_,rfl,rfl⟩
 ·refine .inr ⟨b,0,c,cs++rest,rfl,h2,?_,by rw [List.drop_zero,← h.1,List.take_left]⟩
  have := hp b rfl
  simp [A.frzP,this,h5]
theorem own.far {B:Nat} {e:TypeId} {sz n:Nat} {u v v':Value} {cs:List Value} (h:own M B e sz u n cs) (hf:fr M M' N v v') (hm:za7 M N) (hne:∀ q,u.ownBlock=some q→v.ownBlock≠some q):own M' B e sz u n cs∧∀ q,u.ownBlock=some q→v'.ownBlock≠some q :=
 ⟨h.keep (fun q hq=>(hf q (hne q hq) (h.lt hm q hq)).1) (Nat.le_refl _),fun q hq=>(hf q (hne q hq) (h.lt hm q hq)).2⟩
def znd:Nat→List Nat→Nat
 | a,[]=>a
 | a,b::l=>znd (a*(2+b%4)) l
def zk8:Nat→List Nat→List Nat
 | _,[]=>[]
 | a,b::l=>(a*(2+b%4))::zk8 (a*(2+b%4)) l
theorem yfo (l:List Nat) (b:Nat):∀ a,znd a (l++[b])=znd a l*(2+b%4):=by
 induction l with
 | nil=>intro a; rfl
 | cons x l ih=>intro a; exact ih _
theorem yf6 (l:List Nat) (b:Nat):∀ a,zk8 a (l++[b])=zk8 a l++[znd a l*(2+b%4)]:=by
 induction l with
 | nil=>intro a; rfl
 | cons x l ih=>intro a; simp only [List.cons_append,zk8]; rw [ih]; rfl
theorem yks (l:List Nat):∀ a,znd a l≤a*5 ^ l.length:=by
 induction l with
 | nil=>intro a; simp [znd]
 | cons x l ih=>
  intro a
  simp only [znd,List.length_cons]
  have h1:=ih (a*(2+x%4))
  have h2:a*(2+x%4)≤a*5:=Nat.mul_le_mul_left _ (by omega)
  have h3:a*(2+x%4)*5 ^ l.length≤a*5*5 ^ l.length:=Nat.mul_le_mul_right _ h2
  rw [Nat.pow_succ,Nat.mul_comm (5 ^ l.length) 5,← Nat.mul_assoc]
  omega
theorem yav (l:List Nat):∀ a,(zk8 a l).length=l.length:=by
 induction l with
 | nil=>intro a; rfl
 | cons x l ih=>intro a; simp [zk8,ih]
def zgk (c:Int×List Int):Dm:=(1+c.1%200,(zk8 1 ((c.2.take 4).map Int.toNat)).map (fun n:Nat=>(n:Int)))
def zio (m:List (Int×List Int)):List Dm:=if m=[] then [(100,[10])] else (m.take 4).map zgk
def zwc (F:Nat→Option (List Value)) (cs:List Value) (c:Int×List Int):Prop:=∃ v,cs=[.int .u16 c.1,v]∧sF F 1 v c.2.length (ick .u8 c.2)∧c.2.length≤140737488351232
theorem zwc.mono {cs:List Value} {d:Int×List Int} (h:zwc F cs d) (hF:zac F F'):zwc F' cs d:=let ⟨v,h1,h2,h3⟩:=h; ⟨v,h1,h2.mono hF,h3⟩
def zps (F:Nat→Option (List Value)) (v:Value) (l:List (Int×List Int)):Prop:=∃ rows,sF F 2 v l.length rows.flatten∧zad (zwc F) 2 rows l
theorem zps.mono {v:Value} {t:List (Int×List Int)} (h:zps F v t) (hF:zac F F'):zps F' v t:=let ⟨rows,h1,h2⟩:=h; ⟨rows,h1.mono hF,h2.mono fun _ _ hr=>hr.mono hF⟩
set_option maxRecDepth 10000 in
theorem ynf {u:Value} {m:List (Int×List Int)} (hu:zps F u m) (hml:m.length≤140737488351232) (hc:∀ c∈m,(0≤c.1∧c.1<65536)∧∀ x∈c.2,0≤x∧x<256)
  (k:∀ v' F' N',(Hp.mk F' M N').wf→zac F F'→N≤N'→zbl F' v' (zio m)→K v' ⟨F',M,N'⟩) :
  za2 Tryz.prog (.func (.func 12) #[] #[]) #[u] K E ⟨F,M,N⟩:=by
 refine za3 mixed Tryz.func12 (by kernel_rfl) (t12 _ E _) (fun hw=>?_)
 have hm:za7 M N:=hw.m
 obtain ⟨crows,hu1,hu2⟩:=hu
 have hlu:za9 u=some (.int .i64 (m.length:Nat)):=by obtain ⟨a,c,rfl,_⟩:=hu1.form; rfl
 refine zv9 (σ:=Nat×Value) (fun s=>s.2) (fun s=>.int .i64 (s.1:Nat))
  (fun s h=>∃ F' M' N' rows,h=⟨F',M',N'⟩∧zac F F'∧N≤N'∧(∀ q,q<N→M' q=M q)∧za7 M' N'∧s.1≤m.length∧s.1≤4∧own M' N 88 2 s.2 s.1 rows.flatten∧zad (zfh F') 2 rows ((m.take s.1).map zgk)) (fun s=>4 - s.1) (0,.slice none 0 0) rfl rfl
  (fun hw2=>⟨_,za0 hw2,F,M,N,[],rfl,zac.refl _,Nat.le_refl _,fun _ _=>rfl,hm,Nat.zero_le _,Nat.zero_le _,own.nil,zad.nil _ _⟩) (fun k1 s j h1 hI hw2 next=>?_)
 rw [ztf]
 obtain ⟨F2,M2,N2,rows,rfl,hF2,hN2,hM2,hm2,hi,hi2,ho2,hr2⟩:=hI
 have hu1':=hu1.mono hF2
 have hu2':zad (zwc F2) 2 crows m:=hu2.mono fun _ _ h=>h.mono hF2
 try simp only [hlu]
 try simp only [sS]
 by_cases hgo:s.1<m.length∧s.1<4
 ·obtain ⟨h1,h2⟩:=hgo
  refine zh0 (by omega) ?_
  try simp only [sS]
  refine zh0 (by omega) ?_
  try simp only [sS]
  obtain ⟨⟨c0,c1⟩,cb⟩:=hc m[s.1] (List.getElem_mem _)
  refine zbb hu1' hu2' (by decide) h1 (off:=0) (by decide) fun p q r x hR _ hx=>?_
  obtain ⟨bv,rfl,hbv,hbl⟩:=hR
  simp at hx
  subst hx
  rw [show m[s.1].1=((m[s.1].1.toNat:Nat):Int) by omega]
  refine zse (b:=200) (by decide) (zml (by omega) (znc (a:=1) (by omega) ?_))
  obtain ⟨sz,hsz⟩:∃ sz:Int,((1+m[s.1].1.toNat%200:Nat):Int)=sz:=⟨_,rfl⟩
  rw [hsz]
  refine zaa (v:=.agg #[.int .i64 sz,.slice none 0 0]) (by kernel_rfl) ?_
  refine zal (fun bx hbx=>?_)
  refine stM (cs':=[.int .i64 sz,.slice none 0 0]) ?_ (za5 _ _ _)
  rw [zbe]
  have hs1:(zgk m[s.1]).1=sz:=by
   rw [← hsz]
   simp only [zgk]
   omega
  refine zhv (σ:=Nat×Nat) (fun s=>.int .i64 (s.2:Nat)) (fun s=>.int .i64 (s.1:Nat))
   (fun t h=>∃ M' N' dv,h=⟨F2,M',N'⟩∧bx<N'∧(∀ q,q<N→M' q=M q)∧za7 M' N'∧t.1≤m[s.1].2.length∧t.1≤4∧t.2=znd 1 ((m[s.1].2.take t.1).map Int.toNat)∧M' bx=some (.cells 88 [.int .i64 sz,dv] 2) ∧
    own M' N 3 1 dv t.1 (ic ((zk8 1 ((m[s.1].2.take t.1).map Int.toNat)).map (fun n:Nat=>(n:Int))))∧own M' N 88 2 s.2 s.1 rows.flatten∧dv.ownBlock≠some bx∧s.2.ownBlock≠some bx∧(∀ q,s.2.ownBlock=some q→dv.ownBlock≠some q)) (fun t=>4 - t.1) (0,1) rfl rfl
   (fun hw3=>⟨_,za0 hw3,_,_,.slice none 0 0,rfl,Nat.lt_succ_self _,fun q hq=>(za4 _ _ (by omega)).trans (hM2 q hq),hm2.new hbx _,Nat.zero_le _,Nat.zero_le _,by simp [znd],by rw [za5]; rfl,by simpa [zk8,ic] using own.nil,ho2.box hm2 hbx _,by simp [Value.ownBlock],fun e=>by have := ho2.lt hm2 bx e; omega,fun q _=>by simp [Value.ownBlock]⟩) (fun k2 t j2 h2' hI2 hw3 next2=>?_)
  rw [zhy]
  obtain ⟨M3,N3,dv,rfl,hbN,hM3,hm3,ht1,ht2,ht3,hbx3,hdv,hout,hd1,hd2,hd3⟩:=hI2
  obtain ⟨da,dc,hdf,_⟩:=hdv.form
  have hbl4:t.1<m[s.1].2.length→t.1<4→∀ x,x=t.2→x≤625:=fun _ _ x e=>by
   rw [e,ht3]
   have h5:=yks ((m[s.1].2.take t.1).map Int.toNat) 1
   rw [List.length_map,List.length_take,Nat.min_eq_left ht1,Nat.one_mul] at h5
   exact Nat.le_trans h5 (Nat.le_trans (Nat.pow_le_pow_right (by decide) ht2) (by decide))
  refine zbb hu1' hu2' (by decide) h1 (off:=1) (by decide) fun p q r x hR _ hx=>?_
  obtain ⟨bv,rfl,hbv,hbl⟩:=hR
  simp at hx
  subst hx
  refine zam hbv ?_
  by_cases hgo2:t.1<m[s.1].2.length∧t.1<4
  ·obtain ⟨h3,h4⟩:=hgo2
   have h625:=hbl4 h3 h4 t.2 rfl
   refine zh0 (by omega) ?_
   try simp only [sS]
   refine zh0 (by omega) ?_
   try simp only [sS]
   refine zbb hu1' hu2' (by decide) h1 (off:=1) (by decide) fun p q r x hR _ hx=>?_
   obtain ⟨bv,rfl,hbv,hbl⟩:=hR
   simp at hx
   subst hx
   refine zla hbv h3 fun p=>?_
   obtain ⟨b0,b1⟩:=cb m[s.1].2[t.1] (List.getElem_mem _)
   obtain ⟨bn,hbn,hbn2⟩:∃ n:Nat,m[s.1].2[t.1]=(n:Int)∧n<256:=⟨m[s.1].2[t.1].toNat,by omega,by omega⟩
   rw [hbn]
   refine zse (b:=4) (by decide) (zml (by omega) (znc (a:=2) (by omega) ?_))
   have hmul:t.2*(2+bn%4)≤625*5:=Nat.mul_le_mul h625 (by omega)
   refine yno (by omega) ?_
   refine ldM (v:=dv) ?_ hbx3
   have hlast:((m[s.1].2.take (t.1+1)).map Int.toNat)=(m[s.1].2.take t.1).map Int.toNat++[bn]:=by
    rw [List.take_add_one,List.getElem?_eq_getElem h3,Option.toList_some,List.map_append,hbn]; simp
   refine zcq (new:=[.int .i64 ((t.2*(2+bn%4):Nat):Int)]) hdv hm3 (by omega) (by kernel_rfl) rfl (List.all_eq_true.1 rfl) (by omega) (by unfold maxLen; omega) (fun p v' M4 N4 h4' h5 h6 h7=>?_)
   obtain ⟨va,vc,hvf,_⟩:=h4'.form
   have hb4:M4 bx=some (.cells 88 [.int .i64 sz,dv] 2):=((h5 bx hd1 hbN).1).trans hbx3
   refine stM (cs':=[.int .i64 sz,v']) ?_ hb4 (by rw [hvf]; rfl) (by rw [hvf]; rfl) (by rw [hvf]; exact List.all_eq_true.1 rfl)
   refine zai (by omega) ?_
   obtain ⟨hout4,hne4⟩:=hout.far h5 hm3 hd3
   have hv'b:=(h5 bx hd1 hbN).2
   refine next2 (t.1+1,t.2*(2+bn%4)) _ _ (by simp only; omega) (fun hw4=>⟨_,za0 hw4,_,N4,v',rfl,by omega,fun q hq=>?_,h7.set (by omega) _,h3,by simp only; omega,?_,za5 _ _ _,?_,?_,hv'b,hd2,hne4⟩)
   ·exact (za4 _ _ (by omega)).trans (((h5 q (fun e=>by have := (hdv.ge q e).1; omega) (by omega)).1).trans (hM3 q hq))
   ·simp only
    rw [hlast,yfo,ht3]
   ·simp only
    rw [hlast,yf6,List.map_append,← ht3]
    have h8:=h4'.keep (M':=upd M4 bx (some (.cells 88 [.int .i64 sz,v'] 2))) (fun q hq=>za4 _ _ (fun e=>hv'b (e ▸ hq))) (Nat.le_refl _)
    simpa [ic] using h8
   ·exact hout4.keep (fun q hq=>za4 _ _ (fun e=>hd2 (e ▸ hq))) (Nat.le_refl _)
  ·have hend:t.1=min m[s.1].2.length 4:=by omega
   have e1:m[s.1].2.take t.1=m[s.1].2.take 4:=by
    rcases Nat.lt_or_ge m[s.1].2.length 4 with h | h
    ·rw [List.take_of_length_le (by omega),List.take_of_length_le (by omega)]
    ·rw [show t.1=4 by omega]
   rw [e1] at hdv
   have hx5:zgk m[s.1]=(sz,(zk8 1 ((m[s.1].2.take 4).map Int.toNat)).map (fun n:Nat=>(n:Int))):=by rw [← hs1]; rfl
   have hdl:t.1=(zgk m[s.1]).2.length:=by rw [hx5,← e1]; simp [yav]; omega
   refine zaf (fun hl1=>?_) (fun hl1=>?_)
   try simp only [sS]
   refine zh2 (by omega) ?_
   all_goals
    try simp only [sS]
    refine zas (vs:=[.int .i64 sz,dv]) ?_ hbx3
    refine zcq (new:=[.int .i64 sz,dv]) hout hm3 (by omega) (by rw [hdf]; kernel_rfl) rfl (by rw [hdf]; exact List.all_eq_true.1 rfl) (by omega) (by unfold maxLen; omega) (fun p v' M4 N4 h4' h5 h6 h7=>?_)
    refine zai (by omega) ?_
    obtain ⟨hdv4,hne4⟩:=hdv.far h5 hm3 (fun q hq e=>hd3 q e hq)
    refine next (s.1+1,v') _ _ (by simp only; omega) (fun hw4=>⟨_,zgw (p:=fun q=>N≤q∧v'.ownBlock≠some q) hw4,_,_,N4,rows++[[.int .i64 sz,dv]],rfl,hF2.trans (zbd hw4),by omega,fun q hq=>?_,zcl h7,h1,by simp only; omega,?_,?_⟩)
    ·rw [zay (by omega)]
     exact ((h5 q (fun e=>by have := (hout.ge q e).1; omega) (by omega)).1).trans (hM3 q hq)
    ·have h8:=h4'.keep (M':=zbj M4 (fun q=>¬ (N≤q∧v'.ownBlock≠some q))) (fun q hq=>zay (fun h=>h.2 hq)) (Nat.le_refl _)
     simpa using h8
    ·simp only
     rw [List.take_add_one,List.getElem?_eq_getElem h1,Option.toList_some,List.map_append,List.map_singleton]
     have hr1:zfh (frzP F2 M4 (fun q=>N≤q∧v'.ownBlock≠some q)) [.int .i64 sz,dv] (zgk m[s.1]):=⟨dv,by rw [hs1],by
      have h9:=hdv4.frzP (F:=F2) (p:=fun q=>N≤q∧v'.ownBlock≠some q) (fun q hq=>⟨(hdv.ge q hq).1,hne4 q hq⟩)
      rw [← hdl]
      rw [hx5]; exact h9,by rw [← hdl]; omega⟩
     exact zau (hr2.mono fun _ _ h=>h.mono (zbd hw4)) hr1.one hr1
 ·obtain ⟨oa,oc,hof,_⟩:=ho2.form
  have hlo:za9 s.2=some (.int .i64 (s.1:Nat)):=by rw [hof]; rfl
  have hend:s.1=min m.length 4:=by omega
  have e1:m.take s.1=m.take 4:=by
   rcases Nat.lt_or_ge m.length 4 with h | h
   ·rw [List.take_of_length_le (by omega),List.take_of_length_le (by omega)]
   ·rw [show s.1=4 by omega]
  refine zaf (fun hl1=>?_) (fun hl1=>?_)
  try simp only [sS]
  refine zh2 (by omega) ?_
  all_goals
   try simp only [sS]
   try simp only [hlo]
   try simp only [sS]
   by_cases h0:s.1=0
   ·have hm0:m=[]:=List.eq_nil_of_length_eq_zero (by omega)
    refine zi3 (by omega) ?_
    try simp only [sS]
    refine zde (cs:=[.int .i64 10]) (by kernel_rfl) (fun b1 hb1=>?_)
    refine zaa (v:=.agg #[.int .i64 100,.slice (some ⟨b1,0,none⟩) 1 1]) (by kernel_rfl) ?_
    have hb1v:s.2.ownBlock≠some b1:=fun e=>by have := ho2.lt hm2 b1 e; omega
    refine zcq (new:=[.int .i64 100,.slice (some ⟨b1,0,none⟩) 1 1]) (ho2.box hm2 hb1 _) (hm2.new hb1 _) (by omega) (by kernel_rfl) rfl (List.all_eq_true.1 rfl) (by omega) (by unfold maxLen; omega) (fun p v' M4 N4 h4' h5 h6 h7=>?_)
    rw [zqj]
    have hMM:∀ q,q<N→M4 q=M q:=fun q hq=>((h5 q (fun e=>by have := (ho2.ge q e).1; omega) (by omega)).1).trans ((za4 _ _ (by omega)).trans (hM2 q hq))
    have hb4:M4 b1=some (.cells 3 [.int .i64 10] 1):=((h5 b1 hb1v (by omega)).1).trans (za5 _ _ _)
    refine fun hc'=>⟨_,zb7 hm hMM hc',fun hw'=>k v' _ N4 hw' (hF2.trans (zag hc')) (by omega) ⟨rows++[[.int .i64 100,.slice (some ⟨b1,0,none⟩) 1 1]],?_,?_⟩⟩
    ·have := h4'.rd.frz hc' (fun b hb=>.inl (h4'.ge b hb).1)
     rw [hm0] at hr2 ⊢
     have hr0:rows=[]:=List.eq_nil_of_length_eq_zero (by have := hr2.all.1; simpa using this)
     subst hr0
     rw [h0] at this
     simpa [zio] using this
    ·rw [hm0] at hr2 ⊢
     have hr1:zfh (zdh F2 M4 N) [.int .i64 100,.slice (some ⟨b1,0,none⟩) 1 1] (100,[10]):=⟨_,rfl,zhr (zgs (by omega) hb4) rfl (by decide),by decide⟩
     have hr0:rows=[]:=List.eq_nil_of_length_eq_zero (by have := hr2.all.1; simpa using this)
     subst hr0
     exact zau (zad.nil _ _) hr1.one hr1
   ·refine zhl (by omega) ?_
    try simp only [sS]
    rw [zqj]
    have hne:m≠[]:=fun e=>by rw [e] at hend; simp at hend; omega
    refine fun hc'=>⟨_,zb7 hm hM2 hc',fun hw'=>k s.2 _ N2 hw' (hF2.trans (zag hc')) hN2 ⟨rows,?_,?_⟩⟩
    ·have := ho2.rd.frz hc' (fun b hb=>.inl (ho2.ge b hb).1)
     unfold zio
     rw [if_neg hne,List.length_map,List.length_take,show min 4 m.length=s.1 by omega]; exact this
    ·unfold zio
     rw [if_neg hne,← e1]; exact hr2.mono fun _ _ h=>h.mono (zag hc')
def chk (last:Int):List Int→Bool
 | []=>true
 | x::l=>decide (¬ (x≤last∨x>10000∨x%last≠0))&&chk x l
def zc2 (d:Dm):Bool:=decide (1≤d.1∧d.1≤10000∧d.2.length≤4)&&chk 1 d.2
theorem yat {last x:Int} {l:List Int} (h:chk last (x::l)=true):last<x∧x≤10000∧last ∣ x∧chk x l=true:=by
 simp only [chk,Bool.and_eq_true] at h
 have := of_decide_eq_true h.1
 exact ⟨by omega,by omega,Int.dvd_of_emod_eq_zero (by omega),h.2⟩
theorem zmk:∀ {l:List Int} {last:Int},chk last l=true→∀ (i:Nat) (h:i<l.length),last<l[i]∧l[i]≤10000∧last ∣ l[i]∧chk l[i] (l.drop (i+1))=true
 | [],_,_,i,h=>by simp at h
 | x::l,last,hc,0,h=>by obtain ⟨a,b,c,d⟩:=yat hc; exact ⟨a,b,c,by simpa using d⟩
 | x::l,last,hc,i+1,h=>by
  obtain ⟨a,b,c,d⟩:=yat hc
  obtain ⟨e,f,g,k⟩:=zmk d i (by simpa using h)
  simp only [List.getElem_cons_succ,List.drop_succ_cons]
  exact ⟨by omega,f,Int.dvd_trans c g,k⟩
theorem yn0 {l:List Int} (hc:chk 1 l=true) {i j:Nat} (hij:i<j) (hj:j<l.length):l[i]<l[j]∧l[i] ∣ l[j]∧0<l[i]:=by
 obtain ⟨a,b,c,d⟩:=zmk hc i (by omega)
 have h:=zmk d (j - (i+1)) (by rw [List.length_drop]; omega)
 simp only [List.getElem_drop] at h
 have e:i+1+(j - (i+1))=j:=by omega
 simp only [e] at h
 exact ⟨h.1,h.2.2.1,by omega⟩
def zel (l:List Int) (i:Nat):Int:=if h:0<i∧i≤l.length then l[i - 1] else 1
theorem yf4 {l:List Int} {i:Nat} (h:i<l.length):chk (zel l i) (l.drop i)=(decide (¬ (l[i]≤zel l i∨l[i]>10000∨l[i]%zel l i≠0))&&chk (zel l (i+1)) (l.drop (i+1))):=by
 rw [List.drop_eq_getElem_cons h]
 simp only [chk]
 congr 2
 unfold zel
 rw [dif_pos ⟨by omega,by omega⟩]
 simp
theorem zi1 {e:EqK} {k:IntKind} {a b:Int} {h:Hp} (ha:0≤a) (hb:0<b) (kk:K (.int k (a%b)) h):pv (za1 e .rem (.int k a) (.int k b)) K h :=
 ⟨_,by rw [inV]; simp only [zg0]; rw [if_neg (by omega)],by rw [Int.tmod_eq_emod_of_nonneg ha]; exact kk⟩
theorem ztc {e:EqK} {a b:Int} {h:Hp} (ha:0≤a) (ha2:a≤9223372036854775807) (hb:0<b) (kk:K (.int .i64 (a/b)) h):pv (za1 e .quo (.int .i64 a) (.int .i64 b)) K h :=
 ⟨_,by rw [inV]; simp only [zg0]; rw [if_neg (by omega)],by
  rw [Int.tdiv_eq_ediv_of_nonneg ha,zjo (by have := Int.ediv_nonneg ha (Int.le_of_lt hb); omega) (by have := Int.ediv_le_self b ha; omega)]; exact kk⟩
theorem zzx {cs:List Value} {d:Dm} (hd:zfh F cs d) (k:∀ N',N≤N'→(Hp.mk F M N').wf→K (.bool (zc2 d)) ⟨F,M,N'⟩) :
  za2 Tryz.prog (.func (.func 92) #[] #[]) #[.agg cs.toArray] K E ⟨F,M,N⟩:=by
 refine za3 mixed Tryz.func92 (by kernel_rfl) (t92 _ E _) (fun hw=>?_)
 have hm:=hw.m
 obtain ⟨v,rfl,hv,hvl⟩:=hd
 refine zal (cs:=[.int .i64 d.1,v]) (fun b hb=>?_)
 have fin:∀ v',v'=zc2 d→∀ h',h'=(⟨F,upd M b (some (.cells 88 [.int .i64 d.1,v] 2)),b+1⟩:Hp)→h'.wf→∃ h'',h'.wk h''∧(h''.wf→K (.bool v') h''):=fun v' e h' e' hc=>by
  subst e; subst e'
  exact ⟨⟨F,M,b+1⟩,zc3 hc,fun hw'=>k _ (by omega) hw'⟩
 unfold zc2 at fin
 have no:¬ (1≤d.1∧d.1≤10000∧d.2.length≤4)→false=(decide (1≤d.1∧d.1≤10000∧d.2.length≤4)&&chk 1 d.2):=fun h=>by rw [decide_eq_false h]; rfl
 try simp only [sS]
 refine ldM (v:=.int .i64 d.1) ?_
 refine zaf (fun h1=>?_) (fun h1=>?_)
 ·try simp only [sS]
  exact fin _ (no (by omega)) _ rfl
 try simp only [sS]
 refine ldM (v:=.int .i64 d.1) ?_
 refine zbu (fun h2=>?_) (fun h2=>?_)
 ·try simp only [sS]
  exact fin _ (no (by omega)) _ rfl
 try simp only [sS]
 refine ldM (v:=v) (zam hv ?_)
 refine zbu (fun h3=>?_) (fun h3=>?_)
 ·try simp only [sS]
  exact fin _ (no (by omega)) _ rfl
 try simp only [sS]
 refine ldM (v:=v) (zam hv ?_)
 rw [decide_eq_true ⟨by omega,by omega,by omega⟩,Bool.true_and] at fin
 refine zq9 (σ:=Nat) (fun i=>.int .i64 (zel d.2 i)) (fun i=>.int .i64 (i:Nat)) (fun i h=>h=⟨F,upd M b (some (.cells 88 [.int .i64 d.1,v] 2)),b+1⟩∧i≤d.2.length∧chk 1 d.2=chk (zel d.2 i) (d.2.drop i)∧1≤zel d.2 i) (fun i=>d.2.length - i) 0 rfl rfl
  (fun hw1=>⟨_,za0 hw1,rfl,Nat.zero_le _,rfl,by simp [zel]⟩) (fun k1 i j h1' hI hw1 next=>?_)
 rw [zq6]
 obtain ⟨rfl,hi,he,hp⟩:=hI
 refine zaf (fun hlt=>?_) (fun hge=>?_)
 ·have h4:i<d.2.length:=by omega
  rw [yf4 h4] at he
  try simp only [sS]
  refine zax hv h4 fun p=>?_
  refine zfd (fun h5=>?_) (fun h5=>?_)
  ·try simp only [sS]
   exact fin _ (by rw [he,decide_eq_false (by omega)]; rfl) _ rfl
  try simp only [sS]
  refine zbu (fun h6=>?_) (fun h6=>?_)
  ·try simp only [sS]
   exact fin _ (by rw [he,decide_eq_false (by omega)]; rfl) _ rfl
  try simp only [sS]
  refine zi1 (by omega) (by omega) ?_
  refine zc9 (fun h7=>?_) (fun h7=>?_)
  ·try simp only [sS]
   exact fin _ (by rw [he,decide_eq_false (by omega)]; rfl) _ rfl
  try simp only [sS]
  refine zai (by omega) ?_
  have e2:zel d.2 (i+1)=d.2[i]:=by unfold zel; rw [dif_pos ⟨by omega,by omega⟩]; simp
  rw [← e2]
  exact next (i+1) _ _ (by omega) (fun hw2=>⟨_,za0 hw2,rfl,h4,by rw [he,decide_eq_true (by omega)]; rfl,by rw [e2]; omega⟩)
 ·try simp only [sS]
  exact fin _ (by rw [he,List.drop_eq_nil_of_le (by omega)]; rfl) _ rfl
theorem yed {cs:List Value} {d:Dm} (hd:zfh F cs d) (k:∀ N',N≤N'→(Hp.mk F M N').wf→K (.bool (zc2 d)) ⟨F,M,N'⟩) :
  za2 Tryz.prog (.func (.func 112) #[] #[]) #[.agg cs.toArray] K E ⟨F,M,N⟩:=by
 refine za3 mixed Tryz.func112 (by kernel_rfl) (yoc _ E _) (fun hw=>?_)
 have hm:=hw.m
 obtain ⟨v,rfl,hv,hvl⟩:=hd
 refine zal (cs:=[.int .i64 d.1,v]) (fun b hb=>?_)
 have fin:∀ v',v'=zc2 d→∀ h',h'=(⟨F,upd M b (some (.cells 88 [.int .i64 d.1,v] 2)),b+1⟩:Hp)→h'.wf→∃ h'',h'.wk h''∧(h''.wf→K (.bool v') h''):=fun v' e h' e' hc=>by
  subst e; subst e'
  exact ⟨⟨F,M,b+1⟩,zc3 hc,fun hw'=>k _ (by omega) hw'⟩
 unfold zc2 at fin
 have no:¬ (1≤d.1∧d.1≤10000∧d.2.length≤4)→false=(decide (1≤d.1∧d.1≤10000∧d.2.length≤4)&&chk 1 d.2):=fun h=>by rw [decide_eq_false h]; rfl
 have no2:chk 1 d.2=false→false=(decide (1≤d.1∧d.1≤10000∧d.2.length≤4)&&chk 1 d.2):=fun h=>by rw [h]; simp
 refine zwj (σ:=Nat) (fun i=>.int .i64 (i:Nat)) (fun i h=>h=⟨F,upd M b (some (.cells 88 [.int .i64 d.1,v] 2)),b+1⟩∧i≤d.2.length∧chk 1 d.2=chk (zel d.2 i) (d.2.drop i)∧1≤zel d.2 i∧(0<i→2≤zel d.2 i)) (fun i=>d.2.length - i) 0 rfl
  (fun hw1=>⟨_,za0 hw1,rfl,Nat.zero_le _,rfl,by simp [zel],fun h=>by omega⟩) (fun k1 i j h1' hI hw1 next=>?_)
 rw [zwu]
 obtain ⟨rfl,hi,he,hp,hp2⟩:=hI
 try simp only [sS]
 refine ldM (v:=v) (zam hv ?_)
 refine zaf (fun hlt=>?_) (fun hge=>?_)
 ·have h4:i<d.2.length:=by omega
  rw [yf4 h4] at he
  try simp only [sS]
  refine ldM (v:=v) (zax hv h4 fun p=>?_)
  refine zaf (fun h5=>?_) (fun h5=>?_)
  ·try simp only [sS]
   exact fin _ (no2 (by rw [he,decide_eq_false (by rcases Nat.eq_zero_or_pos i with h0 | h0<;>first | (subst h0; have:zel d.2 0=1:=(by simp [zel]); omega) | (have := hp2 h0; omega))]; rfl)) _ rfl
  try simp only [sS]
  refine ldM (v:=v) (zax hv h4 fun p=>?_)
  refine zbu (fun h6=>?_) (fun h6=>?_)
  ·try simp only [sS]
   exact fin _ (no2 (by rw [he,decide_eq_false (by omega)]; rfl)) _ rfl
  try simp only [sS]
  have e2:zel d.2 (i+1)=d.2[i]:=by unfold zel; rw [dif_pos ⟨by omega,by omega⟩]; simp
  refine zbu (fun hi0=>?_) (fun hi0=>?_)
  ·have e3:zel d.2 i=d.2[i - 1]:=by unfold zel; rw [dif_pos ⟨by omega,by omega⟩]
   try simp only [sS]
   refine ldM (v:=v) (zax hv h4 fun p=>?_)
   refine ldM (v:=v) (zgn (b:=1) (by omega) (by omega) (zax hv (show i - 1<d.2.length by omega) fun p=>?_))
   rw [← e3]
   refine zfd (fun h7=>?_) (fun h7=>?_)
   ·try simp only [sS]
    exact fin _ (no2 (by rw [he,decide_eq_false (by omega)]; rfl)) _ rfl
   try simp only [sS]
   refine ldM (v:=v) (zax hv h4 fun p=>?_)
   refine ldM (v:=v) (zgn (b:=1) (by omega) (by omega) (zax hv (show i - 1<d.2.length by omega) fun p=>?_))
   rw [← e3]
   refine zi1 (by omega) (by omega) ?_
   refine zc9 (fun h8=>?_) (fun h8=>?_)
   ·try simp only [sS]
    exact fin _ (no2 (by rw [he,decide_eq_false (by omega)]; rfl)) _ rfl
   try simp only [sS]
   refine zai (by omega) ?_
   exact next (i+1) _ _ (by omega) (fun hw2=>⟨_,za0 hw2,rfl,h4,by rw [he,decide_eq_true (by omega)]; rfl,by rw [e2]; omega,fun _=>by rw [e2]; omega⟩)
  ·have e3:zel d.2 i=1:=by unfold zel; rw [dif_neg (by omega)]
   try simp only [sS]
   refine zai (by omega) ?_
   exact next (i+1) _ _ (by omega) (fun hw2=>⟨_,za0 hw2,rfl,h4,by rw [he,decide_eq_true (by rw [e3]; omega)]; rfl,by rw [e2]; omega,fun _=>by rw [e2]; omega⟩)
 ·try simp only [sS]
  have hch:chk 1 d.2=true:=by rw [he,List.drop_eq_nil_of_le (by omega)]; rfl
  try simp only [sS]
  refine ldM (v:=.int .i64 d.1) ?_
  refine ze1 (fun h1=>?_) (fun h1=>?_)
  ·try simp only [sS]
   refine ldM (v:=.int .i64 d.1) ?_
   refine zfd (fun h2=>?_) (fun h2=>?_)
   ·try simp only [sS]
    refine ldM (v:=v) (zam hv ?_)
    refine zfd (fun h3=>?_) (fun h3=>?_)
    ·try simp only [sS]
     exact fin _ (by rw [hch,decide_eq_true ⟨by omega,by omega,by omega⟩]; rfl) _ rfl
    ·try simp only [sS]
     exact fin _ (no (by omega)) _ rfl
   ·try simp only [sS]
    exact fin _ (no (by omega)) _ rfl
  ·try simp only [sS]
   exact fin _ (no (by omega)) _ rfl
theorem zr5 {cs:List Value} {d:Dm} (hd:zfh F cs d) (k:∀ N',N≤N'→(Hp.mk F M N').wf→K (.int .i64 ((d.2.length+2:Nat):Int)) ⟨F,M,N'⟩) :
  za2 Tryz.prog (.func (.func 134) #[] #[]) #[.agg cs.toArray] K E ⟨F,M,N⟩:=by
 refine za3 mixed Tryz.func134 (by kernel_rfl) (yru _ E _) (fun hw=>?_)
 have hm:=hw.m
 obtain ⟨v,rfl,hv,hvl⟩:=hd
 refine zal (cs:=[.int .i64 d.1,v]) (fun b hb=>?_)
 try simp only [sS]
 refine ldM (v:=v) (zam hv ?_)
 refine znc (b:=2) (by omega) fun hc=>?_
 exact ⟨⟨F,M,b+1⟩,zc3 hc,fun hw'=>k _ (by omega) hw'⟩
theorem zlq {cs:List Value} {d:Dm} (hd:zfh F cs d) (k:∀ N',N≤N'→(Hp.mk F M N').wf→K (.int .i64 ((d.2.length+2:Nat):Int)) ⟨F,M,N'⟩) :
  za2 Tryz.prog (.func (.func 171) #[] #[]) #[.agg cs.toArray] K E ⟨F,M,N⟩:=by
 refine za3 mixed Tryz.func171 (by kernel_rfl) (yp1 _ E _) (fun hw=>?_)
 have hm:=hw.m
 obtain ⟨v,rfl,hv,hvl⟩:=hd
 refine zal (cs:=[.int .i64 d.1,v]) (fun b hb=>?_)
 try simp only [sS]
 refine ldM (v:=v) (zam hv ?_)
 refine znc (b:=2) (by omega) fun hc=>?_
 exact ⟨⟨F,M,b+1⟩,zc3 hc,fun hw'=>k _ (by omega) hw'⟩
theorem yh1 {cs:List Value} {d:Dm} (hd:zfh F cs d) (k:∀ N',N≤N'→(Hp.mk F M N').wf→K (.bool (!zc2 d)) ⟨F,M,N'⟩) :
  za2 Tryz.prog (.func (.func 91) #[] #[]) #[.agg cs.toArray] K E ⟨F,M,N⟩:=by
 refine za3 mixed Tryz.func91 (by kernel_rfl) (t91 _ E _) (fun hw=>?_)
 have hm:=hw.m
 have hd':=hd
 obtain ⟨v,rfl,hv,hvl⟩:=hd
 refine zal (cs:=[.int .i64 d.1,v]) (fun b hb=>?_)
 refine zas (vs:=[.int .i64 d.1,v]) ?_
 refine zzx hd' (fun N1 hN1 hw1=>?_)
 try simp only [sS]
 exact fun hc=>⟨⟨F,M,N1⟩,zc3 hc,fun hw'=>k _ (by omega) hw'⟩
def zbh (l:List Dm):Bool:=decide (0<l.length∧l.length≤4)&&l.all zc2
theorem yj0 {v:Value} {l:List Dm} (hv:zbl F v l) (hl:l.length≤140737488351232) (k:∀ (r:Int) N',N≤N'→(Hp.mk F M N').wf→(decide (r≥0) = !l.all zc2)→K (.int .i64 r) ⟨F,M,N'⟩) :
  za2 Tryz.prog (.func (.func 117) #[] #[]) #[v,.func (.func 91) #[] #[]] K E ⟨F,M,N⟩:=by
 refine za3 mixed Tryz.func117 (by kernel_rfl) (yq6 _ E _ _) (fun hw=>?_)
 obtain ⟨rows,hv1,hv2⟩:=hv
 refine zam hv1 ?_
 refine zvv (σ:=Nat) (fun i=>.int .i64 (i:Nat)) (fun i h=>∃ N',h=⟨F,M,N'⟩∧N≤N'∧i≤l.length∧l.all zc2=(l.drop i).all zc2) (fun i=>l.length - i) 0 rfl
  (fun hw1=>⟨_,za0 hw1,N,rfl,Nat.le_refl _,Nat.zero_le _,rfl⟩) (fun k1 i j h1 hI hw1 next=>?_)
 rw [zwx]
 obtain ⟨N1,rfl,hN1,hi,he⟩:=hI
 refine zaf (fun hlt=>?_) (fun hge=>?_)
 ·have h1:i<l.length:=by omega
  try simp only [sS]
  refine zcr hv1 hv2 (by decide) h1 fun p r _ hR _ _=>yh1 hR (fun N2 hN2 hw2=>?_)
  rw [List.drop_eq_getElem_cons h1,List.all_cons] at he
  cases hn:zc2 l[i]
  ·try simp only [sS]
   refine fun hc=>⟨_,za0 hc,fun hw'=>k _ _ (by omega) hw' ?_⟩
   rw [he,hn,decide_eq_true (by omega)]; rfl
  ·try simp only [sS]
   refine zai (by omega) ?_
   refine next (i+1) _ _ (by omega) (fun hw3=>⟨_,za0 hw3,N2,rfl,by omega,by omega,?_⟩)
   rw [he,hn,Bool.true_and]
 ·try simp only [sS]
  refine fun hc=>⟨_,za0 hc,fun hw'=>k _ _ hN1 hw' ?_⟩
  rw [he,List.drop_eq_nil_of_le (by omega)]; rfl
theorem zmy {v:Value} {l:List Dm} (hv:zbl F v l) (hl:l.length≤140737488351232) (k:∀ N',N≤N'→(Hp.mk F M N').wf→K (.bool (zbh l)) ⟨F,M,N'⟩) :
  za2 Tryz.prog (.func (.func 64) #[] #[]) #[v] K E ⟨F,M,N⟩:=by
 refine za3 mixed Tryz.func64 (by kernel_rfl) (t64 _ E _) (fun hw=>?_)
 have hlv:za9 v=some (.int .i64 (l.length:Nat)):=by obtain ⟨a,c,rfl⟩:=hv.form; rfl
 have fin:∀ v',v'=zbh l→∀ N',N≤N'→∀ h',h'=(⟨F,M,N'⟩:Hp)→h'.wf→∃ h'',h'.wk h''∧(h''.wf→K (.bool v') h''):=fun v' e N' hN h' e' hc=>by
  subst e; subst e'
  exact ⟨_,za0 hc,fun hw'=>k _ hN hw'⟩
 unfold zbh at fin
 try simp only [hlv]
 try simp only [sS]
 refine zbu (fun h1=>?_) (fun h1=>?_)
 ·try simp only [sS]
  try simp only [hlv]
  try simp only [sS]
  refine zfd (fun h2=>?_) (fun h2=>?_)
  ·rw [decide_eq_true ⟨by omega,by omega⟩,Bool.true_and] at fin
   try simp only [sS]
   refine za3 mixed Tryz.func90 (by kernel_rfl) (t90 _ E _ _) (fun hw=>?_)
   refine yj0 hv hl (fun r N1 hN1 hw1 hr=>?_)
   cases ha:l.all zc2
   ·rw [ha] at hr
    refine ydx (by simpa using hr) fun hc=>⟨_,za0 hc,fun hw'=>?_⟩
    try simp only [sS]
    exact fin _ (by rw [ha]) _ hN1 _ rfl
   ·rw [ha] at hr
    refine zpf (by simpa using hr) fun hc=>⟨_,za0 hc,fun hw'=>?_⟩
    try simp only [sS]
    exact fin _ (by rw [ha]) _ hN1 _ rfl
  ·try simp only [sS]
   exact fin _ (by rw [decide_eq_false (by omega)]; rfl) _ (Nat.le_refl _) _ rfl
 ·try simp only [sS]
  exact fin _ (by rw [decide_eq_false (by omega)]; rfl) _ (Nat.le_refl _) _ rfl
theorem zlk {v:Value} {l:List Dm} (hv:zbl F v l) (hl:l.length≤140737488351232) (k:∀ N',N≤N'→(Hp.mk F M N').wf→K (.bool (zbh l)) ⟨F,M,N'⟩) :
  za2 Tryz.prog (.func (.func 79) #[] #[]) #[v] K E ⟨F,M,N⟩:=by
 refine za3 mixed Tryz.func79 (by kernel_rfl) (t79 _ E _) (fun hw=>?_)
 obtain ⟨rows,hv1,hv2⟩:=hv
 have hlv:za9 v=some (.int .i64 (l.length:Nat)):=by obtain ⟨a,c,rfl,_⟩:=hv1.form; rfl
 have fin:∀ v',v'=zbh l→∀ N',N≤N'→∀ h',h'=(⟨F,M,N'⟩:Hp)→h'.wf→∃ h'',h'.wk h''∧(h''.wf→K (.bool v') h''):=fun v' e N' hN h' e' hc=>by
  subst e; subst e'
  exact ⟨_,za0 hc,fun hw'=>k _ hN hw'⟩
 unfold zbh at fin
 refine zy9 (σ:=Nat) (fun i=>.int .i64 (i:Nat)) (fun i h=>∃ N',h=⟨F,M,N'⟩∧N≤N'∧i≤l.length∧l.all zc2=(l.drop i).all zc2) (fun i=>l.length - i) 0 rfl
  (fun hw1=>⟨_,za0 hw1,N,rfl,Nat.le_refl _,Nat.zero_le _,rfl⟩) (fun k1 i j h1 hI hw1 next=>?_)
 rw [zyb]
 obtain ⟨N1,rfl,hN1,hi,he⟩:=hI
 try simp only [hlv]
 try simp only [sS]
 refine zaf (fun hlt=>?_) (fun hge=>?_)
 ·have h1:i<l.length:=by omega
  try simp only [sS]
  refine zcr hv1 hv2 (by decide) h1 fun p r _ hR _ _=>yed hR (fun N2 hN2 hw2=>?_)
  rw [List.drop_eq_getElem_cons h1,List.all_cons] at he
  cases hn:zc2 l[i]
  ·try simp only [sS]
   exact fin _ (by rw [he,hn]; simp) _ (by omega) _ rfl
  ·try simp only [sS]
   refine zai (by omega) ?_
   refine next (i+1) _ _ (by omega) (fun hw3=>⟨_,za0 hw3,N2,rfl,by omega,by omega,?_⟩)
   rw [he,hn,Bool.true_and]
 ·try simp only [sS]
  rw [List.drop_eq_nil_of_le (by omega)] at he
  rw [he] at fin
  try simp only [hlv]
  try simp only [sS]
  refine ze1 (fun h1=>?_) (fun h1=>?_)
  ·try simp only [sS]
   try simp only [hlv]
   try simp only [sS]
   refine zfd (fun h2=>?_) (fun h2=>?_)
   ·try simp only [sS]
    exact fin _ (by rw [decide_eq_true ⟨by omega,by omega⟩]; rfl) _ hN1 _ rfl
   ·try simp only [sS]
    exact fin _ (by rw [decide_eq_false (by omega)]; rfl) _ hN1 _ rfl
  ·try simp only [sS]
   exact fin _ (by rw [decide_eq_false (by omega)]; rfl) _ hN1 _ rfl
def byF (d:Dm) (lv:Int):Int:=if lv=0 then 1 else if lv>d.2.length then 0 else d.2.getD (lv - 1).toNat 0
theorem ymm {cs:List Value} {d:Dm} {lv:Int} (hd:zfh F cs d) (h0:0≤lv) (k:∀ N',N≤N'→(Hp.mk F M N').wf→K (.int .i64 (byF d lv)) ⟨F,M,N'⟩) :
  za2 Tryz.prog (.func (.func 183) #[] #[]) #[.agg cs.toArray,.int .i64 lv] K E ⟨F,M,N⟩:=by
 refine za3 mixed Tryz.func183 (by kernel_rfl) (ysp _ E _ _) (fun hw=>?_)
 have hm:=hw.m
 obtain ⟨v,rfl,hv,hvl⟩:=hd
 refine zal (cs:=[.int .i64 d.1,v]) (fun b hb=>?_)
 have fin:∀ v',v'=byF d lv→∀ h',h'=(⟨F,upd M b (some (.cells 88 [.int .i64 d.1,v] 2)),b+1⟩:Hp)→h'.wf→∃ h'',h'.wk h''∧(h''.wf→K (.int .i64 v') h''):=fun v' e h' e' hc=>by
  subst e; subst e'
  exact ⟨⟨F,M,b+1⟩,zc3 hc,fun hw'=>k _ (by omega) hw'⟩
 unfold byF at fin
 refine zba (fun h1=>?_) (fun h1=>?_)
 ·try simp only [sS]
  exact fin _ (by rw [if_pos h1]) _ rfl
 ·rw [if_neg h1] at fin
  try simp only [sS]
  refine ldM (v:=v) (zam hv ?_)
  refine zbu (fun h2=>?_) (fun h2=>?_)
  ·try simp only [sS]
   exact fin _ (by rw [if_pos h2]) _ rfl
  ·try simp only [sS]
   refine ldM (v:=v) (zjz (by omega) (by omega) ?_)
   have h3:(lv - 1).toNat<d.2.length:=by omega
   rw [show lv - 1=(((lv - 1).toNat:Nat):Int) by omega]
   refine zax hv h3 fun p=>?_
   exact fin _ (by rw [if_neg h2,List.getD_eq_getElem?_getD,List.getElem?_eq_getElem h3]; rfl) _ rfl
def upF (d:Dm) (a b v:Int):Int:=if zc2 d=false∨a<0∨b<a∨b≥d.2.length+2∨v<0 then -1 else if a=b then v else if byF d b=0 then 0 else v/(byF d b/byF d a)
theorem zjr {d:Dm} (hd:zc2 d=true) {a:Int} (h0:0≤a) (h1:a≤d.2.length):0<byF d a∧byF d a≤10000:=by
 unfold zc2 at hd
 rw [Bool.and_eq_true] at hd
 unfold byF
 split
 ·decide
 ·rename_i hne
  rw [if_neg (by omega)]
  have h3:(a - 1).toNat<d.2.length:=by omega
  rw [List.getD_eq_getElem?_getD,List.getElem?_eq_getElem h3]
  obtain ⟨x,y,_,_⟩:=zmk hd.2 _ h3
  simp only [Option.getD_some]; omega
theorem ym6 {d:Dm} (hd:zc2 d=true) {a b:Int} (h0:0≤a) (h1:a<b) (h2:b≤d.2.length):byF d a<byF d b∧byF d a ∣ byF d b:=by
 have hd':=hd
 unfold zc2 at hd
 rw [Bool.and_eq_true] at hd
 have h3:(b - 1).toNat<d.2.length:=by omega
 have eb:byF d b=d.2[(b - 1).toNat]:=by
  unfold byF
  rw [if_neg (by omega),if_neg (by omega),List.getD_eq_getElem?_getD,List.getElem?_eq_getElem h3]; rfl
 obtain ⟨x,y,z,_⟩:=zmk hd.2 _ h3
 by_cases ha:a=0
 ·have ea:byF d a=1:=by unfold byF; rw [if_pos ha]
  rw [ea,eb]
  exact ⟨x,z⟩
 ·have h4:(a - 1).toNat<d.2.length:=by omega
  have ea:byF d a=d.2[(a - 1).toNat]:=by
   unfold byF
   rw [if_neg ha,if_neg (by omega),List.getD_eq_getElem?_getD,List.getElem?_eq_getElem h4]; rfl
  rw [ea,eb]
  obtain ⟨p,q,_⟩:=yn0 hd.2 (i:=(a - 1).toNat) (j:=(b - 1).toNat) (by omega) h3
  exact ⟨p,q⟩
theorem zpk {d:Dm} (hd:zc2 d=true) {a b:Int} (h0:0≤a) (h1:a<b) (h2:b≤d.2.length):0<byF d b/byF d a∧byF d b/byF d a≤10000:=by
 obtain ⟨x,y⟩:=zjr hd (a:=a) h0 (by omega)
 obtain ⟨z,w⟩:=zjr hd (a:=b) (by omega) h2
 obtain ⟨p,q⟩:=ym6 hd h0 h1 h2
 refine ⟨?_,?_⟩
 ·obtain ⟨c,hc⟩:=q
  rw [hc,Int.mul_ediv_cancel_left _ (by omega)]
  rw [hc] at z
  exact Int.pos_of_mul_pos_right z (by omega)
 ·have := Int.ediv_le_self (byF d a) (show 0≤byF d b by omega); omega
theorem zhx {d:Dm} {a b v:Int} (h:zc2 d=false∨a<0∨b<a∨b≥d.2.length+2∨v<0):upF d a b v = -1:=if_pos h
theorem yq2 {cs:List Value} {d:Dm} {a b v:Int} (hd:zfh F cs d) (hb:i64 b) (hv:v≤9223372036854775807) (k:∀ N',N≤N'→(Hp.mk F M N').wf→K (.int .i64 (upF d a b v)) ⟨F,M,N'⟩) :
  za2 Tryz.prog (.func (.func 166) #[] #[]) #[.agg cs.toArray,.int .i64 a,.int .i64 b,.int .i64 v] K E ⟨F,M,N⟩:=by
 refine za3 mixed Tryz.func166 (by kernel_rfl) (yqf _ E _ _ _ _) (fun hw=>?_)
 have hm:=hw.m
 have hd':=hd
 obtain ⟨u,rfl,hu,hul⟩:=hd
 refine zal (cs:=[.int .i64 d.1,u]) (fun bx hbx=>?_)
 have fin:∀ v',v'=upF d a b v→∀ N',bx+1≤N'→∀ h',h'=(⟨F,upd M bx (some (.cells 88 [.int .i64 d.1,u] 2)),N'⟩:Hp)→h'.wf→∃ h'',h'.wk h''∧(h''.wf→K (.int .i64 v') h''):=fun v' e N' hN h' e' hc=>by
  subst e; subst e'
  exact ⟨⟨F,M,N'⟩,zc3 hc,fun hw'=>k _ (by omega) hw'⟩
 refine zas (vs:=[.int .i64 d.1,u]) ?_
 refine zzx hd' (fun N1 hN1 hw1=>?_)
 cases hok:zc2 d
 ·try simp only [sS]
  exact fin _ (zhx (.inl hok)).symm _ hN1 _ rfl
 try simp only [sS]
 refine zaf (fun h1=>?_) (fun h1=>?_)
 ·try simp only [sS]
  exact fin _ (zhx (.inr (.inl h1))).symm _ hN1 _ rfl
 try simp only [sS]
 refine zaf (fun h2=>?_) (fun h2=>?_)
 ·try simp only [sS]
  exact fin _ (zhx (.inr (.inr (.inl h2)))).symm _ hN1 _ rfl
 try simp only [sS]
 refine zas (vs:=[.int .i64 d.1,u]) ?_
 refine zr5 hd' (fun N2 hN2 hw2=>?_)
 refine ze1 (fun h3=>?_) (fun h3=>?_)
 ·try simp only [sS]
  exact fin _ (zhx (.inr (.inr (.inr (.inl (by omega)))))).symm _ (by omega) _ rfl
 try simp only [sS]
 refine zaf (fun h4=>?_) (fun h4=>?_)
 ·try simp only [sS]
  exact fin _ (zhx (.inr (.inr (.inr (.inr h4))))).symm _ (by omega) _ rfl
 try simp only [sS]
 have e0:upF d a b v=if a=b then v else if byF d b=0 then 0 else v/(byF d b/byF d a):=by
  unfold upF
  rw [if_neg (by rw [hok]; simp; omega)]
 rw [e0] at fin
 refine zas (vs:=[.int .i64 d.1,u]) ?_
 refine ymm hd' (by omega) (fun N3 hN3 hw3=>?_)
 refine zba (fun h5=>?_) (fun h5=>?_)
 ·try simp only [sS]
  exact fin _ (by rw [if_pos h5]) _ (by omega) _ rfl
 rw [if_neg h5] at fin
 try simp only [sS]
 refine zba (fun h6=>?_) (fun h6=>?_)
 ·try simp only [sS]
  exact fin _ (by rw [if_pos h6]) _ (by omega) _ rfl
 rw [if_neg h6] at fin
 try simp only [sS]
 refine zas (vs:=[.int .i64 d.1,u]) ?_
 refine ymm hd' (by omega) (fun N4 hN4 hw4=>?_)
 have hbl:b≤d.2.length:=by
  by_cases h:b≤d.2.length
  ·exact h
  ·exact absurd (by unfold byF; rw [if_neg (by omega),if_pos (by omega)]) h6
 obtain ⟨p,q⟩:=zjr hok (a:=b) (by omega) hbl
 obtain ⟨p',q'⟩:=zjr hok (a:=a) (by omega) (by omega)
 obtain ⟨r,s⟩:=zpk hok (a:=a) (b:=b) (by omega) (by omega) hbl
 refine ztc (by omega) (by omega) p' (ztc (by omega) (by omega) r ?_)
 exact fin _ rfl _ (by omega) _ rfl
theorem yo5 {cs:List Value} {d:Dm} {a b v:Int} (hd:zfh F cs d) (hb:i64 b) (hv:v≤9223372036854775807) (k:∀ N',N≤N'→(Hp.mk F M N').wf→K (.int .i64 (upF d a b v)) ⟨F,M,N'⟩) :
  za2 Tryz.prog (.func (.func 193) #[] #[]) #[.agg cs.toArray,.int .i64 a,.int .i64 b,.int .i64 v] K E ⟨F,M,N⟩:=by
 refine za3 mixed Tryz.func193 (by kernel_rfl) (ysj _ E _ _ _ _) (fun hw=>?_)
 have hm:=hw.m
 have hd':=hd
 obtain ⟨u,rfl,hu,hul⟩:=hd
 refine zal (cs:=[.int .i64 d.1,u]) (fun bx hbx=>?_)
 have fin:∀ v',v'=upF d a b v→∀ N',bx+1≤N'→∀ h',h'=(⟨F,upd M bx (some (.cells 88 [.int .i64 d.1,u] 2)),N'⟩:Hp)→h'.wf→∃ h'',h'.wk h''∧(h''.wf→K (.int .i64 v') h''):=fun v' e N' hN h' e' hc=>by
  subst e; subst e'
  exact ⟨⟨F,M,N'⟩,zc3 hc,fun hw'=>k _ (by omega) hw'⟩
 refine zas (vs:=[.int .i64 d.1,u]) ?_
 refine yed hd' (fun N1 hN1 hw1=>?_)
 cases hok:zc2 d
 ·try simp only [sS]
  exact fin _ (zhx (.inl hok)).symm _ hN1 _ rfl
 try simp only [sS]
 refine zaf (fun h1=>?_) (fun h1=>?_)
 ·try simp only [sS]
  exact fin _ (zhx (.inr (.inl h1))).symm _ hN1 _ rfl
 try simp only [sS]
 refine zaf (fun h2=>?_) (fun h2=>?_)
 ·try simp only [sS]
  exact fin _ (zhx (.inr (.inr (.inl h2)))).symm _ hN1 _ rfl
 try simp only [sS]
 refine zas (vs:=[.int .i64 d.1,u]) ?_
 refine zlq hd' (fun N2 hN2 hw2=>?_)
 refine ze1 (fun h3=>?_) (fun h3=>?_)
 ·try simp only [sS]
  exact fin _ (zhx (.inr (.inr (.inr (.inl (by omega)))))).symm _ (by omega) _ rfl
 try simp only [sS]
 refine zaf (fun h4=>?_) (fun h4=>?_)
 ·try simp only [sS]
  exact fin _ (zhx (.inr (.inr (.inr (.inr h4))))).symm _ (by omega) _ rfl
 try simp only [sS]
 have e0:upF d a b v=if a=b then v else if byF d b=0 then 0 else v/(byF d b/byF d a):=by
  unfold upF
  rw [if_neg (by rw [hok]; simp; omega)]
 rw [e0] at fin
 refine zba (fun h5=>?_) (fun h5=>?_)
 ·try simp only [sS]
  exact fin _ (by rw [if_pos h5]) _ (by omega) _ rfl
 rw [if_neg h5] at fin
 try simp only [sS]
 refine zas (vs:=[.int .i64 d.1,u]) ?_
 refine zlq hd' (fun N3 hN3 hw3=>?_)
 refine zgn (b:=1) (by omega) (by omega) ?_
 refine zba (fun h6=>?_) (fun h6=>?_)
 ·have e:byF d b=0:=by unfold byF; rw [if_neg (by omega),if_pos (by omega)]
  try simp only [sS]
  exact fin _ (by rw [if_pos e]) _ (by omega) _ rfl
 have hbl:b≤d.2.length:=by omega
 obtain ⟨p,q⟩:=zjr hok (a:=b) (by omega) hbl
 obtain ⟨r,s⟩:=zpk hok (a:=a) (b:=b) (by omega) (by omega) hbl
 rw [if_neg (by omega)] at fin
 have h7:(b - 1).toNat<d.2.length:=by omega
 have eb:byF d b=d.2[(b - 1).toNat]:=by
  unfold byF
  rw [if_neg (by omega),if_neg (by omega),List.getD_eq_getElem?_getD,List.getElem?_eq_getElem h7]; rfl
 try simp only [sS]
 refine zba (fun h8=>?_) (fun h8=>?_)
 ·have ea:byF d a=1:=by unfold byF; rw [if_pos h8]
  try simp only [sS]
  refine ldM (v:=u) (zjz (by omega) (by omega) ?_)
  rw [show b - 1=(((b - 1).toNat:Nat):Int) by omega]
  refine zax hu h7 fun p=>?_
  rw [← eb]
  refine ztc (by omega) (by omega) (by omega) ?_
  exact fin _ (by rw [ea,Int.ediv_one]) _ (by omega) _ rfl
 ·have h9:(a - 1).toNat<d.2.length:=by omega
  have ea:byF d a=d.2[(a - 1).toNat]:=by
   unfold byF
   rw [if_neg h8,if_neg (by omega),List.getD_eq_getElem?_getD,List.getElem?_eq_getElem h9]; rfl
  obtain ⟨p',q'⟩:=zjr hok (a:=a) (by omega) (by omega)
  try simp only [sS]
  refine ldM (v:=u) (zjz (by omega) (by omega) ?_)
  rw [show b - 1=(((b - 1).toNat:Nat):Int) by omega]
  refine zax hu h7 fun p=>?_
  refine ldM (v:=u) (zjz (by omega) (by omega) ?_)
  rw [show a - 1=(((a - 1).toNat:Nat):Int) by omega]
  refine zax hu h9 fun p=>?_
  rw [← eb,← ea]
  refine ztc (by omega) (by omega) p' (ztc (by omega) (by omega) r ?_)
  exact fin _ rfl _ (by omega) _ rfl
def atL (l:List Dm) (a b c:List Int):List Int:=l.mapIdx fun i d=>upF d (a.getD i 0) (b.getD i 0) (c.getD i 0)
def zj1 (l:List Dm) (a b c:List Int):Bool:=zbh l&&decide (a.length=l.length∧b.length=l.length∧c.length=l.length)
def atF (l:List Dm) (a b c:List Int):List Int:=if zj1 l a b c=true then atL l a b c else []
theorem zkl (l:List Dm) (a b c:List Int):(atL l a b c).length=l.length:=by simp [atL]
theorem yii (l:List Dm) (a b c:List Int) {i:Nat} (h:i<l.length) (ha:i<a.length) (hb:i<b.length) (hc:i<c.length):atL (l.take (i+1)) a b c=atL (l.take i) a b c++[upF l[i] a[i] b[i] c[i]]:=by
 unfold atL
 rw [List.take_add_one,List.getElem?_eq_getElem h,Option.toList_some,List.mapIdx_concat,List.length_take,Nat.min_eq_left (by omega)]
 simp only [List.getD_eq_getElem?_getD,List.getElem?_eq_getElem ha,List.getElem?_eq_getElem hb,List.getElem?_eq_getElem hc,Option.getD_some]
theorem ykf {d:Dm} {a b v:Int} (hv:i64 v):i64 (upF d a b v):=by
 unfold upF
 split
 ·exact ⟨by omega,by omega⟩
 ·split
  ·exact hv
  ·split
   ·exact ⟨by omega,by omega⟩
   ·rename_i h1 h2 h3
    have hok:zc2 d=true:=by cases h:zc2 d; exact absurd (.inl h) h1; rfl
    have h1':¬ (a<0∨b<a∨b≥d.2.length+2∨v<0):=fun h=>h1 (.inr h)
    have hbl:b≤d.2.length:=by
     by_cases h:b≤d.2.length
     ·exact h
     ·exact absurd (by unfold byF; rw [if_neg (by omega),if_pos (by omega)]) h3
    obtain ⟨r,s⟩:=zpk hok (a:=a) (b:=b) (by omega) (by omega) hbl
    have x:=Int.ediv_nonneg (show 0≤v by omega) (show 0≤byF d b/byF d a by omega)
    have y:=Int.ediv_le_self (byF d b/byF d a) (show 0≤v by omega)
    have := hv.2
    exact ⟨by omega,by omega⟩
theorem ykg {X:List Int} {i n:Nat} (hX:X.length=n) (hi:i<n):(ic (X.take i)++List.replicate (n - i) (Value.int .i64 0)).set i (.int .i64 (X[i]'(by omega)))=ic (X.take (i+1))++List.replicate (n - (i+1)) (.int .i64 0):=by
 have hl:(ic (X.take i)).length=i:=by simp [ic]; omega
 rw [List.set_append_right _ _ (by omega),hl,Nat.sub_self,show n - i=(n - (i+1))+1 by omega,List.replicate_succ,List.set_cons_zero,List.take_add_one,List.getElem?_eq_getElem (by omega),Option.toList_some]
 unfold ic
 rw [List.map_append,List.append_assoc]
 rfl
set_option maxRecDepth 10000 in
theorem yok {u va vb vc:Value} {l:List Dm} {a b c:List Int} (hu:zbl F u l) (hl:l.length≤140737488351232) (ha:sF F 1 va a.length (ic a)) (hb:sF F 1 vb b.length (ic b)) (hc:sF F 1 vc c.length (ic c)) (hbi:∀ x∈b,i64 x) (hci:∀ x∈c,i64 x)
  (k:∀ v' F' N',(Hp.mk F' M N').wf→zac F F'→N≤N'→sF F' 1 v' (atF l a b c).length (ic (atF l a b c))→K v' ⟨F',M,N'⟩) :
  za2 Tryz.prog (.func (.func 141) #[] #[]) #[u,va,vb,vc] K E ⟨F,M,N⟩:=by
 refine za3 mixed Tryz.func141 (by kernel_rfl) (yse _ E _ _ _ _) (fun hw=>?_)
 have hm:za7 M N:=hw.m
 have hlu:za9 u=some (.int .i64 (l.length:Nat)):=by obtain ⟨a,c,rfl⟩:=hu.form; rfl
 have hla:za9 va=some (.int .i64 (a.length:Nat)):=by obtain ⟨a,c,rfl,_⟩:=ha.form; rfl
 have hlb:za9 vb=some (.int .i64 (b.length:Nat)):=by obtain ⟨a,c,rfl,_⟩:=hb.form; rfl
 have hlc:za9 vc=some (.int .i64 (c.length:Nat)):=by obtain ⟨a,c,rfl,_⟩:=hc.form; rfl
 refine zmy hu hl (fun N1 hN1 hw1=>?_)
 have no:zj1 l a b c=false→∀ h',h'=(⟨F,M,N1⟩:Hp)→h'.wf→∃ h'',h'.wk h''∧(h''.wf→K (.slice none 0 0) h''):=fun e h' e' hc=>by
  subst e'
  have e2:atF l a b c=[]:=by unfold atF; rw [e]; rfl
  exact ⟨_,za0 hc,fun hw'=>k _ _ _ hw' (zac.refl _) hN1 (by rw [e2]; exact sF.nil _ _ _)⟩
 cases hok:zbh l
 ·try simp only [sS]
  exact no (by unfold zj1; rw [hok]; rfl) _ rfl
 try simp only [sS]
 try simp only [hla,hlu]
 try simp only [sS]
 refine zc9 (fun h1=>?_) (fun h1=>?_)
 ·try simp only [sS]
  exact no (by unfold zj1; rw [decide_eq_false (by omega)]; simp) _ rfl
 try simp only [sS]
 try simp only [hlb,hlu]
 try simp only [sS]
 refine zc9 (fun h2=>?_) (fun h2=>?_)
 ·try simp only [sS]
  exact no (by unfold zj1; rw [decide_eq_false (by omega)]; simp) _ rfl
 try simp only [sS]
 try simp only [hlc,hlu]
 try simp only [sS]
 refine zc9 (fun h3=>?_) (fun h3=>?_)
 ·try simp only [sS]
  exact no (by unfold zj1; rw [decide_eq_false (by omega)]; simp) _ rfl
 have hat:atF l a b c=atL l a b c:=by unfold atF zj1; rw [hok,decide_eq_true ⟨by omega,by omega,by omega⟩]; rfl
 have hl4:l.length≤4:=by unfold zbh at hok; rw [Bool.and_eq_true] at hok; exact (of_decide_eq_true hok.1).2
 rw [hat] at k
 try simp only [sS]
 refine ⟨_,l.length,_,l.length,rfl,rfl,Nat.le_refl _,by omega,by unfold maxLen; omega,fun b0 hb0'=>?_⟩
 have hb0:N1≤b0:=hb0'
 obtain ⟨rows,hu1,hu2⟩:=hu
 have hAl:=zkl l a b c
 try simp only [hlu]
 try simp only [sS]
 have hflat:∀ n:Nat,(List.replicate n [(Value.int .i64 0)]).flatten=List.replicate n (Value.int .i64 0):=fun n=>by
  induction n with
  | zero=>rfl
  | succ n ih=>rw [List.replicate_succ,List.flatten_cons,ih]; rfl
 refine zp2 (σ:=Nat) (fun i=>.int .i64 (i:Nat))
  (fun i h=>∃ M' N',h=⟨F,M',N'⟩∧b0<N'∧(∀ q,q<N→M' q=M q)∧za7 M' N'∧i≤l.length∧M' b0=some (.cells 3 (ic ((atL l a b c).take i)++List.replicate (l.length - i) (.int .i64 0)) l.length)) (fun i=>l.length - i) 0 rfl
  (fun hw2=>⟨_,za0 hw2,_,_,rfl,Nat.lt_succ_self _,fun q hq=>za4 _ _ (by omega),(hm.up hN1).new hb0 _,Nat.zero_le _,by
   show upd M b0 _ b0=_
   rw [za5,hflat]
   simp [ic]⟩) (fun k1 i j h1' hI hw2 next=>?_)
 rw [zoy]
 obtain ⟨M2,N2,rfl,hbN,hM2,hm2,hi,hb2⟩:=hI
 refine zaf (fun hlt=>?_) (fun hge=>?_)
 ·have h4:i<l.length:=by omega
  try simp only [sS]
  refine zcr hu1 hu2 (by decide) h4 fun p r _ hR hr2 hr1=>?_
  have hR':=hR
  obtain ⟨kv,rfl,hkv,hkl⟩:=hR
  refine zal (fun b1 hb1=>?_)
  refine stM (cs':=[.int .i64 l[i].1,kv]) ?_ (za5 _ _ _) rfl rfl hr1
  rw [zbe]
  refine zas (vs:=[.int .i64 l[i].1,kv]) ?_ (za5 _ _ _)
  refine zax ha (show i<a.length by omega) fun p=>zax hb (show i<b.length by omega) fun p=>zax hc (show i<c.length by omega) fun p=>?_
  refine yq2 hR' (hbi _ (List.getElem_mem _)) (hci _ (List.getElem_mem _)).2 (fun N3 hN3 hw3=>?_)
  have hXi:(atL l a b c)[i]'(by omega)=upF l[i] a[i] b[i] c[i]:=by
   simp only [atL,List.getElem_mapIdx,List.getD_eq_getElem?_getD,List.getElem?_eq_getElem (show i<a.length by omega),List.getElem?_eq_getElem (show i<b.length by omega),List.getElem?_eq_getElem (show i<c.length by omega),Option.getD_some]
  rw [← hXi]
  refine zbz (by omega) ?_
  have hlen:(ic ((atL l a b c).take i)++List.replicate (l.length - i) (Value.int .i64 0)).length=l.length:=by simp [ic,hAl]; omega
  refine stM (cs':=ic ((atL l a b c).take (i+1))++List.replicate (l.length - (i+1)) (.int .i64 0)) ?_ ((za4 _ _ (by omega)).trans hb2) (by
   rw [Nat.zero_add,Nat.mul_one]
   exact (ziv (by omega) _).trans (ykg hAl h4)) rfl (List.all_eq_true.1 rfl) (by rw [hlen]; omega)
  refine zai (by omega) ?_
  exact next (i+1) _ _ (by omega) (fun hw4=>⟨_,za0 hw4,_,N3,rfl,by omega,fun q hq=>(za4 _ _ (by omega)).trans ((za4 _ _ (by omega)).trans (hM2 q hq)),hw4.m,h4,za5 _ _ _⟩)
 ·try simp only [sS]
  have e:i=l.length:=by omega
  rw [e,List.take_of_length_le (by omega),Nat.sub_self,List.replicate_zero,List.append_nil] at hb2
  refine fun hc'=>⟨_,zb7 hm hM2 hc',fun hw'=>k _ _ _ hw' (zag hc') (by omega) ?_⟩
  rw [hAl]
  exact zhr (zgs (by omega) hb2) (by simp [ic,hAl]) (Nat.le_refl _)
theorem yne {u va vb vc:Value} {l:List Dm} {a b c:List Int} (hu:zbl F u l) (hl:l.length≤140737488351232) (ha:sF F 1 va a.length (ic a)) (hb:sF F 1 vb b.length (ic b)) (hc:sF F 1 vc c.length (ic c)) (hbi:∀ x∈b,i64 x) (hci:∀ x∈c,i64 x)
  (k:∀ v' F' N',(Hp.mk F' M N').wf→zac F F'→N≤N'→sF F' 1 v' (atF l a b c).length (ic (atF l a b c))→K v' ⟨F',M,N'⟩) :
  za2 Tryz.prog (.func (.func 175) #[] #[]) #[u,va,vb,vc] K E ⟨F,M,N⟩:=by
 refine za3 mixed Tryz.func175 (by kernel_rfl) (yqz _ E _ _ _ _) (fun hw=>?_)
 have hm:za7 M N:=hw.m
 have hlu:za9 u=some (.int .i64 (l.length:Nat)):=by obtain ⟨a,c,rfl⟩:=hu.form; rfl
 have hla:za9 va=some (.int .i64 (a.length:Nat)):=by obtain ⟨a,c,rfl,_⟩:=ha.form; rfl
 have hlb:za9 vb=some (.int .i64 (b.length:Nat)):=by obtain ⟨a,c,rfl,_⟩:=hb.form; rfl
 have hlc:za9 vc=some (.int .i64 (c.length:Nat)):=by obtain ⟨a,c,rfl,_⟩:=hc.form; rfl
 refine zlk hu hl (fun N1 hN1 hw1=>?_)
 have no:zj1 l a b c=false→∀ h',h'=(⟨F,M,N1⟩:Hp)→h'.wf→∃ h'',h'.wk h''∧(h''.wf→K (.slice none 0 0) h''):=fun e h' e' hc=>by
  subst e'
  have e2:atF l a b c=[]:=by unfold atF; rw [e]; rfl
  exact ⟨_,za0 hc,fun hw'=>k _ _ _ hw' (zac.refl _) hN1 (by rw [e2]; exact sF.nil _ _ _)⟩
 cases hok:zbh l
 ·try simp only [sS]
  exact no (by unfold zj1; rw [hok]; rfl) _ rfl
 try simp only [sS]
 try simp only [hla,hlu]
 try simp only [sS]
 refine zc9 (fun h1=>?_) (fun h1=>?_)
 ·try simp only [sS]
  exact no (by unfold zj1; rw [decide_eq_false (by omega)]; simp) _ rfl
 try simp only [sS]
 try simp only [hlb,hlu]
 try simp only [sS]
 refine zc9 (fun h2=>?_) (fun h2=>?_)
 ·try simp only [sS]
  exact no (by unfold zj1; rw [decide_eq_false (by omega)]; simp) _ rfl
 try simp only [sS]
 try simp only [hlc,hlu]
 try simp only [sS]
 refine zc9 (fun h3=>?_) (fun h3=>?_)
 ·try simp only [sS]
  exact no (by unfold zj1; rw [decide_eq_false (by omega)]; simp) _ rfl
 have hat:atF l a b c=atL l a b c:=by unfold atF zj1; rw [hok,decide_eq_true ⟨by omega,by omega,by omega⟩]; rfl
 have hl4:l.length≤4:=by unfold zbh at hok; rw [Bool.and_eq_true] at hok; exact (of_decide_eq_true hok.1).2
 rw [hat] at k
 try simp only [sS]
 obtain ⟨rows,hu1,hu2⟩:=hu
 have hAl:=zkl l a b c
 have hm1:=hm.up hN1
 refine zoz (σ:=Nat×Value) (fun s=>s.2) (fun s=>.int .i64 (s.1:Nat))
  (fun s h=>∃ M' N',h=⟨F,M',N'⟩∧N≤N'∧(∀ q,q<N→M' q=M q)∧za7 M' N'∧s.1≤l.length∧own M' N 3 1 s.2 s.1 (ic (atL (l.take s.1) a b c))) (fun s=>l.length - s.1) (0,.slice none 0 0) rfl rfl
  (fun hw2=>⟨_,za0 hw2,M,N1,rfl,hN1,fun _ _=>rfl,hm1,Nat.zero_le _,own.nil⟩) (fun k1 s j h1' hI hw2 next=>?_)
 rw [zp5]
 obtain ⟨M2,N2,rfl,hN2,hM2,hm2,hi,ho2⟩:=hI
 try simp only [hlu]
 try simp only [sS]
 refine zaf (fun hlt=>?_) (fun hge=>?_)
 ·have h4:s.1<l.length:=by omega
  try simp only [sS]
  refine zcr hu1 hu2 (by decide) h4 fun p r _ hR hr2 hr1=>?_
  refine zax ha (show s.1<a.length by omega) fun p=>zax hb (show s.1<b.length by omega) fun p=>zax hc (show s.1<c.length by omega) fun p=>?_
  refine yo5 hR (hbi _ (List.getElem_mem _)) (hci _ (List.getElem_mem _)).2 (fun N3 hN3 hw3=>?_)
  refine zcq (new:=[.int .i64 (upF l[s.1] a[s.1] b[s.1] c[s.1])]) ho2 (hm2.up hN3) (by omega) (by kernel_rfl) rfl (List.all_eq_true.1 rfl) (by omega) (by unfold maxLen; omega) (fun p v' M3 N3' h4' h5 h6 h7=>?_)
  refine zai (by omega) ?_
  refine next (s.1+1,v') _ _ (by simp only; omega) (fun hw3=>⟨_,za0 hw3,M3,N3',rfl,by omega,fun q hq=>((h5 q (fun e=>by have := (ho2.ge q e).1; omega) (by omega)).1).trans (hM2 q hq),h7,h4,?_⟩)
  simp only
  rw [yii l a b c h4 (by omega) (by omega) (by omega)]
  simpa [ic] using h4'
 ·try simp only [sS]
  rw [List.take_of_length_le (by omega)] at ho2
  refine fun hc'=>⟨_,zb7 hm hM2 hc',fun hw'=>k _ _ _ hw' (zag hc') hN2 ?_⟩
  have := ho2.rd.frz hc' (fun b hb=>.inl (ho2.ge b hb).1)
  rw [hAl]
  rw [show s.1=l.length by omega] at this
  exact this
end Go.Proofs.YtgcmbkoejjcjlaaGreatDoor.A
open Go
set_option linter.unusedVariables false
set_option linter.unusedSimpArgs false
namespace Go.Proofs.YtgcmbkoejjcjlaaGreatDoor.A
def zz5 (m:Int) (l:List Int):Prop:=m∈l∧∀ x∈l,m≤x
def zyt (m:Int) (l:List Int):Prop:=m∈l∧∀ x∈l,x≤m
structure zcd (c:CE) (l:List Int):Prop where
 n:c.n=l.length
 s:c.s=IntKind.i64.wrap l.sum
 lo:zz5 c.lo l
 hi:zyt c.hi l
theorem zcd.ne {c:CE} {l:List Int} (h:zcd c l):l≠[]:=fun e=>by have := h.lo.1; rw [e] at this; cases this
theorem zcd.pos {c:CE} {l:List Int} (h:zcd c l):0<c.n:=by
 have := List.length_pos_iff.2 h.ne
 rw [h.n]; omega
theorem zcd.one {v:Int} (h0:-9223372036854775808≤v) (h1:v≤9223372036854775807):zcd ⟨1,v,v,v⟩ [v] :=
 ⟨rfl,by simp only [List.sum_cons,List.sum_nil]; rw [IntKind.wrap_i64]; omega,⟨by simp,fun x hx=>by simp at hx; simp only; omega⟩,⟨by simp,fun x hx=>by simp at hx; simp only; omega⟩⟩
theorem yiq (a b:Int):IntKind.i64.wrap (IntKind.i64.wrap a+IntKind.i64.wrap b)=IntKind.i64.wrap (a+b):=by
 simp only [IntKind.wrap_i64]; omega
theorem yl7 (a b:List Int):(a++b).sum=a.sum+b.sum:=by simp
theorem zcd.merge {a b:CE} {la lb:List Int} (ha:zcd a la) (hb:zcd b lb) (hl:la.length+lb.length<9223372036854775808):zcd (a.merge b) (la++lb):=by
 have h1:=ha.pos
 have h2:=hb.pos
 have e:a.merge b=⟨IntKind.i64.wrap (a.n+b.n),IntKind.i64.wrap (a.s+b.s),if b.lo<a.lo then b.lo else a.lo,if b.hi>a.hi then b.hi else a.hi⟩:=by
  unfold CE.merge CE.add
  rw [if_neg (by omega),if_neg (by omega),if_neg (fun e=>by rw [e] at h2; simp at h2),if_neg (fun e=>by rw [e] at h1; simp at h1)]
 rw [e]
 refine ⟨?_,?_,⟨?_,fun x hx=>?_⟩,⟨?_,fun x hx=>?_⟩⟩
 ·simp only
  rw [ha.n,hb.n,IntKind.wrap_i64,List.length_append]; omega
 ·simp only
  rw [ha.s,hb.s,yiq,yl7]
 ·simp only
  split
  ·exact List.mem_append_right _ hb.lo.1
  ·exact List.mem_append_left _ ha.lo.1
 ·simp only
  rcases List.mem_append.1 hx with hx | hx
  ·have := ha.lo.2 x hx; split<;>omega
  ·have := hb.lo.2 x hx; split<;>omega
 ·simp only
  split
  ·exact List.mem_append_right _ hb.hi.1
  ·exact List.mem_append_left _ ha.hi.1
 ·simp only
  rcases List.mem_append.1 hx with hx | hx
  ·have := ha.hi.2 x hx; split<;>omega
  ·have := hb.hi.2 x hx; split<;>omega
theorem zcd.perm {c d:CE} {l m:List Int} (h:zcd c l) (k:zcd d m) (p:l.Perm m):c=d:=by
 obtain ⟨c1,c2,c3,c4⟩:=c
 obtain ⟨d1,d2,d3,d4⟩:=d
 have e1:c1=d1:=by have a:=h.n; have b:=k.n; simp only at a b; rw [a,b,p.length_eq]
 have e2:c2=d2:=by
  have a:=h.s; have b:=k.s; simp only at a b
  rw [a,b]
  congr 1
  exact p.foldr_eq' (fun x _ y _ z=>by omega) 0
 have e3:c3=d3:=by
  have a:=h.lo.2 d3 (p.mem_iff.2 k.lo.1)
  have b:=k.lo.2 c3 (p.mem_iff.1 h.lo.1)
  simp only at a b; omega
 have e4:c4=d4:=by
  have a:=h.hi.2 d4 (p.mem_iff.2 k.hi.1)
  have b:=k.hi.2 c4 (p.mem_iff.1 h.hi.1)
  simp only at a b; omega
 rw [e1,e2,e3,e4]
abbrev KV:=List Int×List Int
def zap (ls:List KV) (k:List Int):List Int:=(ls.filter fun x=>decide (x.1=k)).flatMap (·.2)
theorem zcn (x:KV) (ls:List KV) (k:List Int):zap (x::ls) k=(if x.1=k then x.2 else [])++zap ls k:=by
 unfold zap
 rw [List.filter_cons]
 by_cases h:x.1=k
 ·simp [h]
 ·simp [h]
theorem zn5 (a b:List KV) (k:List Int):zap (a++b) k=zap a k++zap b k:=by simp [zap]
theorem yb8 (ls:List KV) (x:KV) (k:List Int):zap (ls++[x]) k=zap ls k++(if x.1=k then x.2 else []):=by
 rw [zn5,zcn]; simp [zap]
def zby (ls:List KV):Nat:=(ls.map (·.2.length)).sum
theorem zxi (a b:List KV):zby (a++b)=zby a+zby b:=by simp [zby]
theorem zsl (ls:List KV) (k:List Int):(zap ls k).length≤zby ls:=by
 induction ls with
 | nil=>simp [zap,zby]
 | cons x ls ih=>
  rw [zcn]
  simp only [zby,List.map_cons,List.sum_cons,List.length_append] at ih ⊢
  split
  ·omega
  ·simp; omega
def tells (rows:List Rw) (ls:List KV):Prop:=rows.length=ls.length∧∀ (i:Nat) (r:Rw) (l:KV),rows[i]?=some r→ls[i]?=some l→r.1=l.1∧zcd r.2 l.2
theorem tells.nil:tells [] []:=⟨rfl,fun i r l h=>by simp at h⟩
theorem tells.cons {r:Rw} {l:KV} {rows:List Rw} {ls:List KV} (h1:r.1=l.1) (h2:zcd r.2 l.2) (h:tells rows ls):tells (r::rows) (l::ls):=by
 refine ⟨by simp [h.1],fun i r' l' hr hl=>?_⟩
 cases i with
 | zero=>simp at hr hl; subst hr; subst hl; exact ⟨h1,h2⟩
 | succ i=>exact h.2 i r' l' (by simpa using hr) (by simpa using hl)
theorem tells.uncons {r:Rw} {l:KV} {rows:List Rw} {ls:List KV} (h:tells (r::rows) (l::ls)):r.1=l.1∧zcd r.2 l.2∧tells rows ls :=
 ⟨(h.2 0 r l rfl rfl).1,(h.2 0 r l rfl rfl).2,by have := h.1; simp at this; exact this,fun i r' l' hr hl=>h.2 (i+1) r' l' (by simpa using hr) (by simpa using hl)⟩
theorem tells.app {r1 r2:List Rw} {l1 l2:List KV} (h1:tells r1 l1) (h2:tells r2 l2):tells (r1++r2) (l1++l2):=by
 induction r1 generalizing l1 with
 | nil=>
  cases l1 with
  | nil=>simpa using h2
  | cons _ _=>have := h1.1; simp at this
 | cons r r1 ih=>
  cases l1 with
  | nil=>have := h1.1; simp at this
  | cons l l1=>obtain ⟨a,b,c⟩:=h1.uncons; exact .cons a b (ih c)
def zci (t:List Rw) (ls:List KV):Prop:=∀ k,match zbc t k with
 | none=>zap ls k=[]
 | some c=>zcd c (zap ls k)
theorem zci.layR {t:List Rw} {ls:List KV} (h:zci t ls) (hs:srt t) {k:List Int} {c:CE} {l:List Int} (hc:zcd c l) (hn:zby ls+l.length<9223372036854775808):zci (layR t k c) (ls++[(k,l)]):=by
 intro q
 rw [zp0 k c q hs,yb8]
 have hq:=h q
 by_cases e:k=q
 ·subst e
  simp only [if_true]
  cases hl:zbc t k with
  | none=>rw [hl] at hq; simp only at hq; simp only [mrg]; rw [hq,List.nil_append]; exact hc
  | some c'=>
   rw [hl] at hq; simp only at hq; simp only [mrg]
   exact hq.merge hc (by have := zsl ls k; omega)
 ·simp only [if_neg e,List.append_nil]
  exact hq
theorem zci.nil:zci [] []:=fun k=>by simp [zbc,zap]
theorem zuy:∀ (rows:List Rw) (ls:List KV) (t:List Rw) (ls0:List KV),tells rows ls→zci t ls0→srt t→zby ls0+zby ls<9223372036854775808→zci (rows.foldl (fun t r=>layR t r.1 r.2) t) (ls0++ls)
 | [],[],t,ls0,_,h,_,_=>by simpa using h
 | [],_::_,_,_,h,_,_,_=>by have := h.1; simp at this
 | _::_,[],_,_,h,_,_,_=>by have := h.1; simp at this
 | r::rows,(k,l)::ls,t,ls0,h,ht,hs,hn=>by
  obtain ⟨a,b,c⟩:=h.uncons
  simp only at a b
  have hn':zby ls0+(l.length+zby ls)<9223372036854775808:=by simpa [zby] using hn
  subst a
  have h1:=ht.layR hs (k:=r.1) b (by omega)
  have h2:=zuy rows ls _ _ c h1 (znq hs) (by rw [zxi]; simp [zby] at hn' ⊢; omega)
  rw [List.append_assoc] at h2
  exact h2
theorem zoe {rows:List Rw} {ls:List KV} (h:tells rows ls) (hn:zby ls<9223372036854775808):zci (tab rows) ls:=by
 have := zuy rows ls [] [] h zci.nil .nil (by simpa [zby] using hn)
 rw [List.nil_append] at this
 exact this
theorem zci.tells {t:List Rw} {ls:List KV} (h:zci t ls) (hs:srt t):tells t (t.map fun r=>(r.1,zap ls r.1)):=by
 refine ⟨by simp,fun i r l hr hl=>?_⟩
 rw [List.getElem?_map,hr] at hl
 simp at hl
 subst hl
 refine ⟨rfl,?_⟩
 have := h r.1
 rw [(zhc hs.nodup (c:=r.2)).2 (List.mem_of_getElem? hr)] at this
 exact this
theorem zci.ext {t u:List Rw} {ls ms:List KV} (h:zci t ls) (k:zci u ms) (ht:srt t) (hu:srt u) (hp:∀ q,(zap ls q).Perm (zap ms q)):t=u:=by
 refine zw5 ht hu fun q=>?_
 have h1:=h q
 have h2:=k q
 have hpq:=hp q
 cases a:zbc t q with
 | none=>
  rw [a] at h1; simp only at h1
  cases b:zbc u q with
  | none=>rfl
  | some d=>rw [b] at h2; simp only at h2; rw [h1] at hpq; exact absurd hpq.symm.eq_nil h2.ne
 | some c=>
  rw [a] at h1; simp only at h1
  cases b:zbc u q with
  | none=>rw [b] at h2; simp only at h2; rw [h2] at hpq; exact absurd hpq.eq_nil h1.ne
  | some d=>rw [b] at h2; simp only at h2; rw [h1.perm h2 hpq]
def kvF (f:List Int×Int):KV:=(f.1,[f.2])
theorem zqo:∀ {l:List (List Int×Int)},(∀ f∈l,-9223372036854775808≤f.2∧f.2≤9223372036854775807)→tells (l.map fun f=>(f.1,(⟨1,f.2,f.2,f.2⟩:CE))) (l.map kvF)
 | [],_=>.nil
 | f::l,h=>.cons rfl (zcd.one (h f (by simp)).1 (h f (by simp)).2) (zqo fun x hx=>h x (by simp [hx]))
theorem ybl (l:List (List Int×Int)):zby (l.map kvF)=l.length:=by
 induction l with
 | nil=>rfl
 | cons f l ih=>simp only [zby,kvF,List.map_cons,List.sum_cons,List.length_cons,List.length_nil] at ih ⊢; omega
theorem yi7 {t:List Rw} {ls:List KV} (h:zci t ls) (hs:srt t) {r:Rw} (hr:r∈t):(∃ x∈ls,x.1=r.1)∧zcd r.2 (zap ls r.1):=by
 have h1:=h r.1
 rw [(zhc hs.nodup (c:=r.2)).2 hr] at h1
 simp only at h1
 refine ⟨?_,h1⟩
 have hne:=h1.ne
 unfold zap at hne
 cases hf:ls.filter (fun x=>decide (x.1=r.1)) with
 | nil=>rw [hf] at hne; exact absurd rfl hne
 | cons x m=>
  have hx:x∈ls.filter (fun x=>decide (x.1=r.1)):=by rw [hf]; simp
  obtain ⟨a,b⟩:=List.mem_filter.1 hx
  exact ⟨x,a,of_decide_eq_true b⟩
end Go.Proofs.YtgcmbkoejjcjlaaGreatDoor.A
open Go Go.RowKit Go.Proofs.YtgcmbkoejjcjlaaGreatDoor.K Go.Proofs.YtgcmbkoejjcjlaaGreatDoor.T
set_option linter.unusedVariables false
set_option linter.unusedSimpArgs false
namespace Go.Proofs.YtgcmbkoejjcjlaaGreatDoor.A
variable {F F':Nat→Option (List Value)} {M M':Nat→Option zak} {N N':Nat} {K:zae} {E:zat}
theorem zcd.ok {c:CE} {l:List Int} (h:zcd c l) (hl:∀ x∈l,i64 x):c.ok=true:=by
 have hp:=h.pos
 unfold CE.ok
 rw [if_neg (by omega)]
 refine decide_eq_true ⟨h.hi.2 _ h.lo.1,?_⟩
 by_cases h1:c.n>1
 ·exact .inl h1
 ·right
  have hn:=h.n
  match l,h,hl,hn with
  | [],h,_,_=>exact absurd rfl h.ne
  | [x],h,hl,_=>
   have a:=h.lo.1; have b:=h.hi.1; have s:=h.s
   simp at a b
   have hx:=hl x (by simp)
   simp only [List.sum_cons,List.sum_nil] at s
   rw [show x+0=x by omega,zjo hx.1 hx.2] at s
   exact ⟨by rw [s,a],by rw [a,b]⟩
  | x::y::l,_,_,hn=>simp at hn; omega
theorem zx7 {p:Int}:∀ {t:List Rw},(∀ r∈t,zf8 p r=true)→srt t→zdy p t=true:=by
 have key:∀ (t:List Rw) (o:Option (List Int)),(∀ r∈t,zf8 p r=true)→srt t→(∀ k,o=some k→∀ r∈t,zbn k r.1<0)→zgd p o t=true:=by
  intro t
  induction t with
  | nil=>intro o _ _ _; rfl
  | cons r t ih=>
   intro o h hs ho
   have hs':=List.pairwise_cons.1 hs
   simp only [zgd]
   rw [h r (by simp),ih (some r.1) (fun x hx=>h x (by simp [hx])) hs'.2 (fun k e x hx=>by cases e; exact hs'.1 x hx)]
   cases o with
   | none=>rfl
   | some k=>simp only; rw [decide_eq_true (ho k rfl r (by simp))]; rfl
 intro t h hs
 exact key t none h hs (fun k e=>by cases e)
theorem yix {r:Rw} {p:Int} {l:List Int} (h1:(r.1.length:Int)=p) (h2:∀ x∈r.1,0≤x) (h3:zcd r.2 l) (h4:∀ x∈l,i64 x):zf8 p r=true:=by
 unfold zf8
 have hn:zfr r.1=false:=by
  unfold zfr
  rw [List.any_eq_false]
  intro x hx; have := h2 x hx; simp; omega
 rw [decide_eq_true h1,decide_eq_true h3.pos,h3.ok h4,hn]; rfl
def zdb (l:List Dm):Prop:=0<l.length∧l.length≤4∧∀ d∈l,0<d.1∧d.1≤200
theorem zqg (m:List (Int×List Int)) (hc:∀ c∈m,0≤c.1∧c.1<65536):zdb (zio m):=by
 unfold zio
 split
 ·exact ⟨by decide,by decide,fun d hd=>by simp at hd; subst hd; decide⟩
 ·rename_i h
  refine ⟨?_,by rw [List.length_map,List.length_take]; omega,fun d hd=>?_⟩
  ·have := List.length_pos_iff.2 h
   rw [List.length_map,List.length_take]; omega
  ·obtain ⟨c,hc',rfl⟩:=List.mem_map.1 hd
   have := hc c (List.mem_of_mem_take hc')
   simp only [zgk]; omega
theorem yf8 {l:List Dm} {c:List Int} {x:Int} (h:x∈keyOf l c):∃ (i:Nat) (hi:i<l.length),x=(c.getD i 0)%l[i].1:=by
 obtain ⟨i,hi,rfl⟩:=List.mem_iff_getElem.1 h
 rw [zes] at hi
 exact ⟨i,hi,by simp [keyOf]⟩
theorem ygq {l:List Dm} (hl:zdb l) (c:List Int):∀ x∈keyOf l c,0≤x∧x<200:=fun x hx=>by
 obtain ⟨i,hi,rfl⟩:=yf8 hx
 obtain ⟨h1,h2⟩:=hl.2.2 l[i] (List.getElem_mem _)
 have a:=Int.emod_nonneg (c.getD i 0) (show l[i].1≠0 by omega)
 have b:=Int.emod_lt_of_pos (c.getD i 0) h1
 omega
theorem zm9 {l:List Dm} {ks:List (List Int)} {v:List Int} {f:Fc} (h:f∈zcj l ks v):(∃ c,f.1=keyOf l c)∧(f.2=0∨f.2∈v):=by
 obtain ⟨i,hi,rfl⟩:=List.mem_iff_getElem.1 h
 refine ⟨⟨(ks.take 200)[i]'(by simpa [zcj] using hi),by simp [zcj]⟩,?_⟩
 simp only [zcj,List.getElem_mapIdx]
 rw [List.getD_eq_getElem?_getD]
 cases hv:v[i%v.length]? with
 | none=>exact .inl rfl
 | some x=>exact .inr (List.mem_of_getElem? hv)
theorem zxw {l:List Dm} {ks:List (List Int)} {v:List Int} (hv:∀ x∈v,i64 x):∀ f∈zcj l ks v,i64 f.2:=fun f hf=>by
 rcases (zm9 hf).2 with h | h
 ·rw [h]; exact ⟨by omega,by omega⟩
 ·exact hv _ h
theorem ye4 {ls:List KV} {k:List Int} {x:Int} (h:x∈zap ls k):∃ l∈ls,l.1=k∧x∈l.2:=by
 unfold zap at h
 obtain ⟨l,hl,hx⟩:=List.mem_flatMap.1 h
 obtain ⟨h1,h2⟩:=List.mem_filter.1 hl
 exact ⟨l,h1,of_decide_eq_true h2,hx⟩
theorem ydn {l:List Fc} (h:∀ f∈l,i64 f.2) (hn:l.length<9223372036854775808):zci (tab (l.map fr1)) (l.map kvF) :=
 zoe (zqo h) (by rw [ybl]; exact hn)
def lvs:List Dm→List Int→List Int→Bool
 | d::l,a::x,b::y=>decide (¬ (a<0∨b<a∨b≥d.2.length+2))&&lvs l x y
 | _,_,_=>true
def zjc (l:List Dm) (a b:List Int):Bool:=decide (a.length=l.length∧b.length=l.length)&&lvs l a b
theorem yel {l:List Dm} {a b:List Int} {i:Nat} (h:i<l.length) (ha:i<a.length) (hb:i<b.length):lvs (l.drop i) (a.drop i) (b.drop i)=(decide (¬ (a[i]<0∨b[i]<a[i]∨b[i]≥l[i].2.length+2))&&lvs (l.drop (i+1)) (a.drop (i+1)) (b.drop (i+1))):=by
 rw [List.drop_eq_getElem_cons h,List.drop_eq_getElem_cons ha,List.drop_eq_getElem_cons hb]
 rfl
theorem ym9 {u va vb:Value} {l:List Dm} {a b:List Int} (hu:zbl F u l) (hl:l.length≤140737488351232) (ha:sF F 1 va a.length (ic a)) (hb:sF F 1 vb b.length (ic b)) (k:∀ N',N≤N'→(Hp.mk F M N').wf→K (.bool (zjc l a b)) ⟨F,M,N'⟩) :
  za2 Tryz.prog (.func (.func 138) #[] #[]) #[u,va,vb] K E ⟨F,M,N⟩:=by
 refine za3 mixed Tryz.func138 (by kernel_rfl) (ypo _ E _ _ _) (fun hw=>?_)
 have hm:za7 M N:=hw.m
 have hlu:za9 u=some (.int .i64 (l.length:Nat)):=by obtain ⟨a,c,rfl⟩:=hu.form; rfl
 have hla:za9 va=some (.int .i64 (a.length:Nat)):=by obtain ⟨a,c,rfl,_⟩:=ha.form; rfl
 have hlb:za9 vb=some (.int .i64 (b.length:Nat)):=by obtain ⟨a,c,rfl,_⟩:=hb.form; rfl
 have fin0:∀ v',v'=zjc l a b→∀ N',N≤N'→∀ h',h'=(⟨F,M,N'⟩:Hp)→h'.wf→∃ h'',h'.wk h''∧(h''.wf→K (.bool v') h''):=fun v' e N' hN h' e' hc=>by
  subst e; subst e'
  exact ⟨_,za0 hc,fun hw'=>k _ hN hw'⟩
 unfold zjc at fin0
 try simp only [hla,hlu]
 try simp only [sS]
 refine zc9 (fun h1=>?_) (fun h1=>?_)
 ·try simp only [sS]
  exact fin0 _ (by rw [decide_eq_false (by omega)]; rfl) _ (Nat.le_refl _) _ rfl
 try simp only [sS]
 try simp only [hlb,hlu]
 try simp only [sS]
 refine zc9 (fun h2=>?_) (fun h2=>?_)
 ·try simp only [sS]
  exact fin0 _ (by rw [decide_eq_false (by omega)]; rfl) _ (Nat.le_refl _) _ rfl
 have e3:zjc l a b=lvs l a b:=by unfold zjc; rw [decide_eq_true ⟨by omega,by omega⟩,Bool.true_and]
 rw [e3] at k
 clear fin0
 try simp only [sS]
 obtain ⟨rows,hu1,hu2⟩:=hu
 try simp only [hlu]
 try simp only [sS]
 refine zrq (σ:=Nat) (fun i=>.int .i64 (i:Nat)) (fun i h=>∃ N',h=⟨F,M,N'⟩∧N≤N'∧i≤l.length∧lvs l a b=lvs (l.drop i) (a.drop i) (b.drop i)) (fun i=>l.length - i) 0 rfl
  (fun hw1=>⟨_,za0 hw1,N,rfl,Nat.le_refl _,Nat.zero_le _,rfl⟩) (fun k1 i j h1' hI hw1 next=>?_)
 rw [zrk]
 obtain ⟨N1,rfl,hN1,hi,he⟩:=hI
 refine zaf (fun hlt=>?_) (fun hge=>?_)
 ·have h3:i<l.length:=by omega
  have h4:i<a.length:=by omega
  have h5:i<b.length:=by omega
  rw [yel h3 h4 h5] at he
  try simp only [sS]
  refine zcr hu1 hu2 (by decide) h3 fun p r _ hR hr2 hr1=>?_
  have hR':=hR
  obtain ⟨kv,rfl,hkv,hkl⟩:=hR
  refine zal (fun b1 hb1=>?_)
  refine stM (cs':=[.int .i64 l[i].1,kv]) ?_ (za5 _ _ _) rfl rfl hr1
  rw [zbe]
  have fin:∀ v',v'=lvs l a b→∀ N',b1+1≤N'→∀ h',h'=(⟨F,upd M b1 (some (.cells 88 [.int .i64 l[i].1,kv] 2)),N'⟩:Hp)→h'.wf→∃ h'',h'.wk h''∧(h''.wf→K (.bool v') h''):=fun v' e N' hN h' e' hc=>by
   subst e; subst e'
   exact ⟨⟨F,M,N'⟩,zbp hc (zav (zb6 _) (hm _ (by omega))),fun hw'=>k _ (by omega) hw'⟩
  refine zax ha h4 fun p=>?_
  refine zaf (fun h6=>?_) (fun h6=>?_)
  ·try simp only [sS]
   refine ⟨fun h=>by simp [isB] at h,?_⟩
   exact fin _ (by rw [he,decide_eq_false (by omega)]; rfl) _ (Nat.le_refl _) _ rfl
  try simp only [sS]
  refine zax hb h5 fun p=>zax ha h4 fun p=>?_
  refine zaf (fun h7=>?_) (fun h7=>?_)
  ·try simp only [sS]
   refine ⟨fun h=>by simp [isB] at h,?_⟩
   exact fin _ (by rw [he,decide_eq_false (by omega)]; rfl) _ (Nat.le_refl _) _ rfl
  try simp only [sS]
  obtain ⟨bb,bo,bc,bcs,hvb,hbF,hbx⟩:=zpp hb h5
  subst hvb
  refine zbz h5 (zfj (zao (zdi hbF) hbx) ?_)
  refine zas (vs:=[.int .i64 l[i].1,kv]) ?_ (za5 _ _ _)
  refine zr5 hR' (fun N2 hN2 hw2=>?_)
  refine ⟨fun _=>zao (zdi hbF) hbx,?_⟩
  refine ze1 (fun h8=>?_) (fun h8=>?_)
  ·try simp only [sS]
   exact fin _ (by rw [he,decide_eq_false (by omega)]; rfl) _ hN2 _ rfl
  try simp only [sS]
  refine zai (by omega) ?_
  exact next (i+1) _ _ (by omega) (fun hw3=>⟨_,zbp hw3 (zav (zb6 M) (hm _ (by omega))),N2,rfl,by omega,h3,by rw [he,decide_eq_true (by omega)]; rfl⟩)
 ·try simp only [sS]
  rw [show lvs l a b=true by rw [he,List.drop_eq_nil_of_le (show l.length≤i by omega)]; rfl] at k
  exact fun hc=>⟨_,za0 hc,fun hw'=>k _ hN1 hw'⟩
theorem yle {u va vb:Value} {l:List Dm} {a b:List Int} (hu:zbl F u l) (hl:l.length≤140737488351232) (ha:sF F 1 va a.length (ic a)) (hb:sF F 1 vb b.length (ic b)) (k:∀ N',N≤N'→(Hp.mk F M N').wf→K (.bool (zjc l a b)) ⟨F,M,N'⟩) :
  za2 Tryz.prog (.func (.func 174) #[] #[]) #[u,va,vb] K E ⟨F,M,N⟩:=by
 refine za3 mixed Tryz.func174 (by kernel_rfl) (yoi _ E _ _ _) (fun hw=>?_)
 have hm:za7 M N:=hw.m
 have hlu:za9 u=some (.int .i64 (l.length:Nat)):=by obtain ⟨a,c,rfl⟩:=hu.form; rfl
 have hla:za9 va=some (.int .i64 (a.length:Nat)):=by obtain ⟨a,c,rfl,_⟩:=ha.form; rfl
 have hlb:za9 vb=some (.int .i64 (b.length:Nat)):=by obtain ⟨a,c,rfl,_⟩:=hb.form; rfl
 have fin:∀ v',v'=zjc l a b→∀ N',N≤N'→∀ h',h'=(⟨F,M,N'⟩:Hp)→h'.wf→∃ h'',h'.wk h''∧(h''.wf→K (.bool v') h''):=fun v' e N' hN h' e' hc=>by
  subst e; subst e'
  exact ⟨_,za0 hc,fun hw'=>k _ hN hw'⟩
 unfold zjc at fin
 try simp only [hla,hlu]
 try simp only [sS]
 refine zc9 (fun h1=>?_) (fun h1=>?_)
 ·try simp only [sS]
  exact fin _ (by rw [decide_eq_false (by omega)]; rfl) _ (Nat.le_refl _) _ rfl
 try simp only [sS]
 try simp only [hlb,hlu]
 try simp only [sS]
 refine zc9 (fun h2=>?_) (fun h2=>?_)
 ·try simp only [sS]
  exact fin _ (by rw [decide_eq_false (by omega)]; rfl) _ (Nat.le_refl _) _ rfl
 rw [decide_eq_true ⟨by omega,by omega⟩,Bool.true_and] at fin
 try simp only [sS]
 obtain ⟨rows,hu1,hu2⟩:=hu
 refine zr7 (σ:=Nat) (fun i=>.int .i64 (i:Nat)) (fun i h=>∃ N',h=⟨F,M,N'⟩∧N≤N'∧i≤l.length∧lvs l a b=lvs (l.drop i) (a.drop i) (b.drop i)) (fun i=>l.length - i) 0 rfl
  (fun hw1=>⟨_,za0 hw1,N,rfl,Nat.le_refl _,Nat.zero_le _,rfl⟩) (fun k1 i j h1' hI hw1 next=>?_)
 rw [zri]
 obtain ⟨N1,rfl,hN1,hi,he⟩:=hI
 try simp only [hlu]
 try simp only [sS]
 refine zaf (fun hlt=>?_) (fun hge=>?_)
 ·have h3:i<l.length:=by omega
  have h4:i<a.length:=by omega
  have h5:i<b.length:=by omega
  rw [yel h3 h4 h5] at he
  try simp only [sS]
  refine zax ha h4 fun p=>?_
  refine zaf (fun h6=>?_) (fun h6=>?_)
  ·try simp only [sS]
   refine ⟨fun h=>by simp [isB] at h,?_⟩
   exact fin _ (by rw [he,decide_eq_false (by omega)]; rfl) _ hN1 _ rfl
  try simp only [sS]
  refine zax hb h5 fun p=>zax ha h4 fun p=>?_
  refine zaf (fun h7=>?_) (fun h7=>?_)
  ·try simp only [sS]
   refine ⟨fun h=>by simp [isB] at h,?_⟩
   exact fin _ (by rw [he,decide_eq_false (by omega)]; rfl) _ hN1 _ rfl
  try simp only [sS]
  obtain ⟨bb,bo,bc,bcs,hvb,hbF,hbx⟩:=zpp hb h5
  subst hvb
  refine zbz h5 (zfj (zao (zdi hbF) hbx) ?_)
  refine zcr hu1 hu2 (by decide) h3 fun p r _ hR hr2 hr1=>?_
  refine zlq hR (fun N2 hN2 hw2=>?_)
  refine ⟨fun _=>zao (zdi hbF) hbx,?_⟩
  refine ze1 (fun h8=>?_) (fun h8=>?_)
  ·try simp only [sS]
   exact fin _ (by rw [he,decide_eq_false (by omega)]; rfl) _ (by omega) _ rfl
  try simp only [sS]
  refine zai (by omega) ?_
  exact next (i+1) _ _ (by omega) (fun hw3=>⟨_,za0 hw3,N2,rfl,by omega,h3,by rw [he,decide_eq_true (by omega)]; rfl⟩)
 ·try simp only [sS]
  exact fin _ (by rw [he,List.drop_eq_nil_of_le (show l.length≤i by omega)]; rfl) _ hN1 _ rfl
def zff (l:List Dm) (t:List Rw) (a b:List Int):Nat:=if zbh l=false then 30 else if zjc l a b=false then 40 else if zdy l.length t=false then 1 else 0
def zg6 (l:List Dm) (t:List Rw) (a b:List Int):List Rw:=t.map fun r=>(atF l a b r.1,r.2)
def zgl (l:List Dm) (t:List Rw) (a b:List Int):List Rw:=if zff l t a b=0 then tab (zg6 l t a b) else []
theorem ycm (l:List Dm) (a b c:List Int):(atF l a b c).length≤l.length:=by unfold atF; split; rw [zkl]; omega; simp
theorem ylg {l:List Dm} {a b c:List Int} (hc:∀ x∈c,i64 x):∀ x∈atF l a b c,i64 x:=by
 unfold atF
 split
 ·intro x hx
  obtain ⟨i,hi,rfl⟩:=List.mem_iff_getElem.1 hx
  simp only [atL,List.getElem_mapIdx]
  refine ykf ?_
  rw [List.getD_eq_getElem?_getD]
  cases h:c[i]? with
  | none=>exact ⟨by simp,by simp⟩
  | some x=>exact hc _ (List.mem_of_getElem? h)
 ·intro x hx; cases hx
theorem zhf {l:List Dm} (h:zbh l=true):l.length≤4:=by unfold zbh at h; rw [Bool.and_eq_true] at h; exact (of_decide_eq_true h.1).2
theorem yke {b1 b2 b3:Nat} {u va vb kv:Value} {l:List Dm} {a b c:List Int} {e1 e2 e3:TypeId} (h1:M b1=some (.cells e1 [u] 1)) (h2:M b2=some (.cells e2 [va] 1)) (h3:M b3=some (.cells e3 [vb] 1)) (hu:zbl F u l) (hl:l.length≤140737488351232) (ha:sF F 1 va a.length (ic a)) (hb:sF F 1 vb b.length (ic b)) (hc:sF F 1 kv c.length (ic c)) (hbi:∀ x∈b,i64 x) (hci:∀ x∈c,i64 x)
  (k:∀ v' F' N',(Hp.mk F' M N').wf→zac F F'→N≤N'→sF F' 1 v' (atF l a b c).length (ic (atF l a b c))→K v' ⟨F',M,N'⟩) :
  za2 Tryz.prog (.func (.func 140) #[] #[.pointer (some ⟨b1,0,none⟩),.pointer (some ⟨b2,0,none⟩),.pointer (some ⟨b3,0,none⟩)]) #[kv] K E ⟨F,M,N⟩:=by
 refine za3 mixed Tryz.func140 (by kernel_rfl) (yr2 _ E _ _ _ _) (fun hw=>?_)
 refine ldM (v:=u) (ldM (v:=va) (ldM (v:=vb) ?_))
 refine yok hu hl ha hb hc hbi hci (fun v' F' N' hw' hF hN h4 hc'=>⟨_,za0 hc',fun hw''=>k v' F' N' hw'' hF hN h4⟩)
theorem yc1 {u vt va vb:Value} {l:List Dm} {t:List Rw} {a b:List Int} (hu:zbl F u l) (hl:l.length≤140737488351232) (ht:zbt F vt t) (htl:t.length≤1000000000) (ha:sF F 1 va a.length (ic a)) (hb:sF F 1 vb b.length (ic b)) (hbi:∀ x∈b,i64 x) (hti:∀ r∈t,∀ x∈r.1,i64 x)
  (k:∀ v' F' N',(Hp.mk F' M N').wf→zac F F'→N≤N'→zbt F' v' (zgl l t a b)→K (.tuple #[v',.int .u16 ((zff l t a b:Nat):Int)]) ⟨F',M,N'⟩) :
  za2 Tryz.prog (.func (.func 105) #[] #[]) #[u,vt,va,vb] K E ⟨F,M,N⟩:=by
 refine za3 mixed Tryz.func105 (by kernel_rfl) (yrf _ E _ _ _ _) (fun hw=>?_)
 have hm:za7 M N:=hw.m
 have hlu:za9 u=some (.int .i64 (l.length:Nat)):=by obtain ⟨a,c,rfl⟩:=hu.form; rfl
 obtain ⟨ua,uc,hup⟩:=hu.form
 obtain ⟨aa,ac,hap,_⟩:=ha.form
 obtain ⟨ba,bc,hbp,_⟩:=hb.form
 refine zal (cs:=[u]) (fun b1 hb1=>?_) (by rw [hup]; rfl)
 refine zal (cs:=[va]) (fun b2 hb2=>?_) (by rw [hap]; rfl)
 refine zal (cs:=[vb]) (fun b3 hb3=>?_) (by rw [hbp]; rfl)
 generalize hM3:upd (upd (upd M b1 _) b2 _) b3 _=M3
 have g1:M3 b1=some (.cells 26 [u] 1):=by rw [← hM3]; exact (za4 _ _ (by omega)).trans ((za4 _ _ (by omega)).trans (za5 _ _ _))
 have g2:M3 b2=some (.cells 37 [va] 1):=by rw [← hM3]; exact (za4 _ _ (by omega)).trans (za5 _ _ _)
 have g3:M3 b3=some (.cells 37 [vb] 1):=by rw [← hM3]; exact za5 _ _ _
 have hMM:∀ q,q<N→M3 q=M q:=fun q hq=>by rw [← hM3]; exact (za4 _ _ (by omega)).trans ((za4 _ _ (by omega)).trans (za4 _ _ (by omega)))
 have bad:∀ e,zff l t a b=e→e≠0→∀ N',N≤N'→∀ h',h'=(⟨F,M3,N'⟩:Hp)→h'.wf→∃ h'',h'.wk h''∧(h''.wf→K (.tuple #[.slice none 0 0,.int .u16 (e:Nat)]) h''):=fun e h1 h2 N' hN h' e' hc=>by
  subst e'
  refine ⟨_,zb7 hm hMM hc,fun hw'=>?_⟩
  have e2:zgl l t a b=[]:=by unfold zgl; rw [if_neg (by rw [h1]; exact h2)]
  have := k (.slice none 0 0) _ N' hw' (zag hc) hN (by rw [e2]; exact zbt.nil)
  rw [h1] at this; exact this
 refine ldM (v:=u) ?_ g1
 refine zmy hu hl (fun N1 hN1 hw1=>?_)
 cases hok:zbh l
 ·try simp only [sS]
  exact bad 30 (by unfold zff; rw [hok]; rfl) (by decide) _ (by omega) _ rfl
 try simp only [sS]
 refine ldM (v:=u) (ldM (v:=va) (ldM (v:=vb) ?_ g3) g2) g1
 refine ym9 hu hl ha hb (fun N2 hN2 hw2=>?_)
 cases hlv:zjc l a b
 ·try simp only [sS]
  exact bad 40 (by unfold zff; rw [hok,hlv]; rfl) (by decide) _ (by omega) _ rfl
 try simp only [sS]
 refine ldM (v:=u) ?_ g1
 try simp only [hlu]
 try simp only [sS]
 refine yad ht (by omega) (fun N3 hN3 hw3=>?_)
 cases hst:zdy l.length t
 ·try simp only [sS]
  exact bad 1 (by unfold zff; rw [hok,hlv,hst]; rfl) (by decide) _ (by omega) _ rfl
 try simp only [sS]
 have e0:zff l t a b=0:=by unfold zff; rw [hok,hlv,hst]; rfl
 have e1:zgl l t a b=tab (zg6 l t a b):=by unfold zgl; rw [if_pos e0]
 rw [e0,e1] at k
 have hl4:=zhf hok
 refine yo2 (f:=fun q=>atF l a b q) ht htl (fun r hr=>⟨by have := ycm l a b r.1; omega,ylg (hti r hr)⟩) (fun F1 M1 N1' r kv hr hF1 hM1 hN1' hm1 hkv hkl hK=>?_) (fun v' F' N' hw' hF hN ht'=>?_)
 ·exact yke ((hM1 b1 (by omega)).trans g1) ((hM1 b2 (by omega)).trans g2) ((hM1 b3 (by omega)).trans g3) (hu.mono hF1) hl (ha.mono hF1) (hb.mono hF1) hkv hbi (hti r hr) hK
 ·refine fun hc=>⟨_,zb7 hm hMM hc,fun hw''=>k v' _ N' hw'' (hF.trans (zag hc)) (by omega) (ht'.mono (zag hc))⟩
theorem yk5 {u vt va vb:Value} {l:List Dm} {t:List Rw} {a b:List Int} (hu:zbl F u l) (hl:l.length≤140737488351232) (ht:zbt F vt t) (htl:t.length≤1000000000) (ha:sF F 1 va a.length (ic a)) (hb:sF F 1 vb b.length (ic b)) (hbi:∀ x∈b,i64 x) (hti:∀ r∈t,∀ x∈r.1,i64 x)
  (k:∀ v' F' N',(Hp.mk F' M N').wf→zac F F'→N≤N'→zbt F' v' (zgl l t a b)→K (.tuple #[v',.int .i64 ((zff l t a b:Nat):Int)]) ⟨F',M,N'⟩) :
  za2 Tryz.prog (.func (.func 148) #[] #[]) #[u,vt,va,vb] K E ⟨F,M,N⟩:=by
 refine za3 mixed Tryz.func148 (by kernel_rfl) (yqh _ E _ _ _ _) (fun hw=>?_)
 have hm:za7 M N:=hw.m
 have hlu:za9 u=some (.int .i64 (l.length:Nat)):=by obtain ⟨a,c,rfl⟩:=hu.form; rfl
 have bad:∀ e,zff l t a b=e→e≠0→∀ N',N≤N'→∀ h',h'=(⟨F,M,N'⟩:Hp)→h'.wf→∃ h'',h'.wk h''∧(h''.wf→K (.tuple #[.slice none 0 0,.int .i64 (e:Nat)]) h''):=fun e h1 h2 N' hN h' e' hc=>by
  subst e'
  refine ⟨_,za0 hc,fun hw'=>?_⟩
  have e2:zgl l t a b=[]:=by unfold zgl; rw [if_neg (by rw [h1]; exact h2)]
  have := k (.slice none 0 0) _ N' hw' (zac.refl _) hN (by rw [e2]; exact zbt.nil)
  rw [h1] at this; exact this
 refine zlk hu hl (fun N1 hN1 hw1=>?_)
 cases hok:zbh l
 ·try simp only [sS]
  exact bad 30 (by unfold zff; rw [hok]; rfl) (by decide) _ (by omega) _ rfl
 try simp only [sS]
 refine yle hu hl ha hb (fun N2 hN2 hw2=>?_)
 cases hlv:zjc l a b
 ·try simp only [sS]
  exact bad 40 (by unfold zff; rw [hok,hlv]; rfl) (by decide) _ (by omega) _ rfl
 try simp only [sS]
 try simp only [hlu]
 try simp only [sS]
 refine zxp ht (by omega) (fun N3 hN3 hw3=>?_)
 cases hst:zdy l.length t
 ·try simp only [sS]
  exact bad 1 (by unfold zff; rw [hok,hlv,hst]; rfl) (by decide) _ (by omega) _ rfl
 try simp only [sS]
 have e0:zff l t a b=0:=by unfold zff; rw [hok,hlv,hst]; rfl
 have e1:zgl l t a b=tab (zg6 l t a b):=by unfold zgl; rw [if_pos e0]
 rw [e0,e1] at k
 have hl4:=zhf hok
 obtain ⟨rows,ht1,ht2⟩:=ht
 have hlt:za9 vt=some (.int .i64 (t.length:Nat)):=by obtain ⟨a,c,rfl,_⟩:=ht1.form; rfl
 refine zly (σ:=Nat×Value) (fun s=>s.2) (fun s=>.int .i64 (s.1:Nat)) (fun s h=>∃ F' N',h=⟨F',M,N'⟩∧zac F F'∧N≤N'∧s.1≤t.length∧zbt F' s.2 (tab (zg6 l (t.take s.1) a b))) (fun s=>t.length - s.1) (0,.slice none 0 0) rfl rfl
  (fun hw1=>⟨_,za0 hw1,F,N3,rfl,zac.refl _,by omega,Nat.zero_le _,zbt.nil⟩) (fun k1 s j h1' hI hw1 next=>?_)
 rw [zm5]
 obtain ⟨F1,N4,rfl,hF,hN,hi,hts⟩:=hI
 try simp only [hlt]
 try simp only [sS]
 refine zaf (fun hlt'=>?_) (fun hge=>?_)
 ·have h1:s.1<t.length:=by omega
  try simp only [sS]
  obtain ⟨bq,o,c,cs,r,rfl,hFb,hrr,⟨kv,hr,hkv,hkl⟩,hrl,hr1,hle,htk,hj⟩:=zix (ht1.mono hF) (ht2.mono fun _ _ h=>h.mono hF) (by decide) h1
  subst hr
  refine zbz h1 ?_
  try simp only [sS]
  refine zfj (zao (zdi hFb) (hj 0 (by decide))) ?_
  refine zbz h1 ?_
  try simp only [sS]
  have hcell:(cs.drop (o+s.1*5+1)).take 4=t[s.1].2.cs:=by
   have e5:=congrArg (List.drop 1) htk
   rw [List.drop_take,List.drop_drop] at e5
   simpa using e5
  refine zfj (zfx (zdi hFb) (by omega) hcell) ?_
  refine yne (hu.mono hF) hl (ha.mono hF) (hb.mono hF) hkv hbi (hti _ (List.getElem_mem _)) (fun v2 F2 N5 hw5 hF2 hN5 hv2=>?_)
  refine ⟨zfx (zdi (hF2 _ _ hFb)) (by omega) hcell,?_⟩
  obtain ⟨va2,vc2,hvf2,_⟩:=hv2.form
  refine zaa (v:=.agg (v2::t[s.1].2.cs).toArray) (by rw [hvf2]; kernel_rfl) ?_
  have hln:=zkk (zg6 l (t.take s.1) a b)
  rw [zg6,List.length_map,List.length_take] at hln
  refine yfk (hts.mono hF2) hv2 (by have := ycm l a b t[s.1].1; omega) (by unfold zg6; omega) (fun v' F3 N6 hw6 hF3 hN6 ht'=>?_)
  refine zai (by omega) ?_
  refine next (s.1+1,v') _ _ (by simp only; omega) (fun hw7=>⟨_,za0 hw7,F3,N6,rfl,(hF.trans hF2).trans hF3,by omega,h1,?_⟩)
  simp only
  have e6:=yag (fun r:Rw=>(atF l a b r.1,r.2)) t h1
  unfold zg6 at ht' ⊢
  rw [e6]
  exact ht'
 ·try simp only [sS]
  rw [List.take_of_length_le (by omega)] at hts
  exact fun hc=>⟨_,za0 hc,fun hw'=>k _ _ _ hw' hF hN hts⟩
theorem zln (l:List Dm) (t:List Rw) (a b:List Int):(zgl l t a b).length≤t.length:=by
 unfold zgl
 split
 ·have := zkk (zg6 l t a b); simp only [zg6,List.length_map] at this ⊢; exact this
 ·simp
def zgo (l:List Dm) (c least:List Int):List Int:=l.mapIdx fun i d=>least.getD i 0+(c.getD i 0)%(d.2.length+2 - least.getD i 0)
theorem zlb (l:List Dm) (c m:List Int):(zgo l c m).length=l.length:=by simp [zgo]
theorem ydd (l:List Dm) (c m:List Int) {i:Nat} (h:i<l.length):zgo (l.take (i+1)) c m=zgo (l.take i) c m++[m.getD i 0+(c.getD i 0)%(l[i].2.length+2 - m.getD i 0)]:=by
 unfold zgo
 rw [List.take_add_one,List.getElem?_eq_getElem h,Option.toList_some,List.mapIdx_concat,List.length_take,Nat.min_eq_left (by omega)]
def zjs (l:List Dm) (m:List Int):Prop:=∀ (i:Nat) (h:i<l.length),0≤m.getD i 0∧m.getD i 0<l[i].2.length+2
theorem yi1 {l:List Dm} {c m:List Int} (hm:zjs l m):zjs l (zgo l c m)∧∀ (i:Nat) (h:i<l.length),m.getD i 0≤(zgo l c m).getD i 0:=by
 have key:∀ (i:Nat) (h:i<l.length),(zgo l c m).getD i 0=m.getD i 0+(c.getD i 0)%(l[i].2.length+2 - m.getD i 0):=fun i h=>by
  rw [List.getD_eq_getElem?_getD (l:=zgo l c m),List.getElem?_eq_getElem (by rw [zlb]; exact h)]
  simp [zgo]
 refine ⟨fun i h=>?_,fun i h=>?_⟩
 ·obtain ⟨a,b⟩:=hm i h
  rw [key i h]
  have x:=Int.emod_nonneg (c.getD i 0) (show (l[i].2.length+2 - m.getD i 0:Int)≠0 by omega)
  have y:=Int.emod_lt_of_pos (c.getD i 0) (show (0:Int)<l[i].2.length+2 - m.getD i 0 by omega)
  omega
 ·obtain ⟨a,b⟩:=hm i h
  rw [key i h]
  have x:=Int.emod_nonneg (c.getD i 0) (show (l[i].2.length+2 - m.getD i 0:Int)≠0 by omega)
  omega
theorem yip {B s len:Nat} {n lo g h:Int} {v:Value} {pre:List Int} {X:Value→Value→Value→Value→Value→zae} (ho:own M B 3 1 v s (ic pre)) (hm:za7 M N) (hB:B≤N) (hs:s≤1000000) (hlen:len≤1000000) (hn:g=n) (hlo:h=lo) (g0:0≤g) (g1:g<65536) (h0:0≤h) (h1:h<len+2)
  (k:∀ a b c d e v' M' N',own M' B 3 1 v' (s+1) (ic (pre++[h+g%(len+2 - h)]))→(∀ q,q<B→M' q=M q)→N≤N'→za7 M' N'→X a b c d e v' ⟨F,M',N'⟩) :
  pv (za1 .none .add (.int .i64 (len:Nat)) (.int .i64 2)) (fun t5=>pv (za1 .none .sub t5 (.int .i64 lo)) fun t6=>pv (za1 .none .rem (.int .i64 n) t6) fun t7=>pv (za1 .none .add (.int .i64 lo) t7) fun t8=>
   nws 3 1 (bsC #[(.int .i64 0)] 1 1 #[(0,t8)]) fun t9=>zbf 3 1 8 v t9 fun t10=>X t5 t6 t7 t8 t9 t10) ⟨F,M,N⟩:=by
 subst hn; subst hlo
 refine znc (b:=2) (by omega) (zjz (by omega) (by omega) ?_)
 have y0:=Int.emod_nonneg g (show ((len+2:Nat):Int) - h≠0 by omega)
 have y1:=Int.emod_lt_of_pos g (show 0<((len+2:Nat):Int) - h by omega)
 refine zi1 (by omega) (by omega) (zyp (by omega) (by omega) ?_)
 refine zcq (new:=[.int .i64 (h+g%(((len+2:Nat):Int) - h))]) ho hm hB (by kernel_rfl) rfl (List.all_eq_true.1 rfl) (by omega) (by unfold maxLen; omega) (fun p v' M3 N3 h4 h5 h6 h7=>?_)
 refine k _ _ _ _ _ v' M3 N3 (by simpa [ic] using h4) (fun q hq=>(h5 q (fun e=>by have := (ho.ge q e).1; omega) (by omega)).1) h6 h7
set_option maxRecDepth 10000 in
theorem yms {u v w:Value} {l:List Dm} {c m:List Int} (hu:zbl F u l) (hv:sF F 1 v c.length (ick .u8 c)) (hw':sF F 1 w m.length (ic m)) (hl:l.length≤1000000) (hdv:∀ d∈l,d.2.length≤1000000) (hc:∀ x∈c,0≤x∧x<256) (hm':zjs l m) (hcl:c.length≤140737488351232) (hml:m.length≤140737488351232)
  (k:∀ v' F' N',(Hp.mk F' M N').wf→zac F F'→N≤N'→sF F' 1 v' (zgo l c m).length (ic (zgo l c m))→K v' ⟨F',M,N'⟩) :
  za2 Tryz.prog (.func (.func 36) #[] #[]) #[u,v,w] K E ⟨F,M,N⟩:=by
 refine za3 mixed Tryz.func36 (by kernel_rfl) (t36 _ E _ _ _) (fun hw=>?_)
 have hm:za7 M N:=hw.m
 obtain ⟨rows,hu1,hu2⟩:=hu
 have hlu:za9 u=some (.int .i64 (l.length:Nat)):=by obtain ⟨a,c,rfl,_⟩:=hu1.form; rfl
 have hlv:za9 v=some (.int .i64 (c.length:Nat)):=by obtain ⟨a,c,rfl,_⟩:=hv.form; rfl
 have hlw:za9 w=some (.int .i64 (m.length:Nat)):=by obtain ⟨a,c,rfl,_⟩:=hw'.form; rfl
 refine ztm (σ:=Nat×Value) (fun s=>s.2) (fun s=>.int .i64 (s.1:Nat))
  (fun s h=>∃ M' N',h=⟨F,M',N'⟩∧N≤N'∧(∀ q,q<N→M' q=M q)∧za7 M' N'∧s.1≤l.length∧own M' N 3 1 s.2 s.1 (ic (zgo (l.take s.1) c m))) (fun s=>l.length - s.1) (0,.slice none 0 0) rfl rfl
  (fun hw2=>⟨_,za0 hw2,M,N,rfl,Nat.le_refl _,fun _ _=>rfl,hm,Nat.zero_le _,own.nil⟩) (fun k1 s j h1 hI hw2 next=>?_)
 rw [ztt]
 obtain ⟨M2,N2,rfl,hN2,hM2,hm2,hi,ho2⟩:=hI
 try simp only [hlu,hlv]
 try simp only [sS]
 refine zaf (fun hlt=>?_) (fun hge=>?_)
 ·have h1:s.1<l.length:=by omega
  obtain ⟨l0,l1⟩:=hm' s.1 h1
  have hdl:=hdv l[s.1] (List.getElem_mem _)
  have hg:0≤c.getD s.1 0∧c.getD s.1 0<65536:=by
   rw [List.getD_eq_getElem?_getD]
   cases h:c[s.1]? with
   | none=>simp
   | some x=>have := hc x (List.mem_of_getElem? h); simp only [Option.getD_some]; omega
  try simp only [sS]
  refine zaf (fun hlt2=>?_) (fun hge2=>?_)
  have h2:s.1<c.length:=by omega
  try simp only [sS]
  refine zla hv h2 fun p=>?_
  obtain ⟨x0,x1⟩:=hc c[s.1] (List.getElem_mem _)
  obtain ⟨n,hn,hnc⟩:∃ n:Nat,c[s.1]=(n:Int)∧c.getD s.1 0=(n:Int):=⟨c[s.1].toNat,by omega,by rw [List.getD_eq_getElem?_getD,List.getElem?_eq_getElem h2,Option.getD_some]; omega⟩
  rw [hn]
  refine zml (a:=n) (by omega) ?_
  rotate_left
  try simp only [sS]
  have hnc:c.getD s.1 0=(0:Int):=by rw [List.getD_eq_getElem?_getD,List.getElem?_eq_none (by omega)]; rfl
  all_goals
   rw [zk2]
   try simp only [hlw]
   try simp only [sS]
   refine zaf (fun hlt3=>?_) (fun hge3=>?_)
   have h3:s.1<m.length:=by omega
   try simp only [sS]
   refine zax hw' h3 fun p=>?_
   have hlo2:m.getD s.1 0=m[s.1]:=by rw [List.getD_eq_getElem?_getD,List.getElem?_eq_getElem h3,Option.getD_some]
   rotate_left
   try simp only [sS]
   have hlo2:m.getD s.1 0=(0:Int):=by rw [List.getD_eq_getElem?_getD,List.getElem?_eq_none (by omega)]; rfl
   all_goals
    rw [zj9]
    refine zbb hu1 hu2 (by decide) h1 (off:=1) (by decide) fun p q r x hR _ hx=>?_
    obtain ⟨kv,rfl,hkv',hkl⟩:=hR
    simp at hx
    subst hx
    refine zam hkv' ?_
    refine yip ho2 hm2 hN2 (by omega) hdl hnc hlo2 hg.1 hg.2 l0 l1 (fun _ _ _ _ _ v' M3 N3 h4 h5 h6 h7=>?_)
    refine zai (by omega) ?_
    refine next (s.1+1,v') _ _ (by simp only; omega) (fun hw3=>⟨_,za0 hw3,M3,N3,rfl,by omega,fun q hq=>(h5 q hq).trans (hM2 q hq),h7,h1,?_⟩)
    simp only
    rw [ydd l c m h1]
    exact h4
 ·try simp only [sS]
  rw [List.take_of_length_le (by omega)] at ho2
  refine fun hc'=>⟨_,zb7 hm hM2 hc',fun hw'=>k _ _ _ hw' (zag hc') hN2 ?_⟩
  have := ho2.rd.frz hc' (fun b hb=>.inl (ho2.ge b hb).1)
  rw [zlb]
  rw [show s.1=l.length by omega] at this
  exact this
end Go.Proofs.YtgcmbkoejjcjlaaGreatDoor.A
open Go
set_option linter.unusedVariables false
set_option linter.unusedSimpArgs false
namespace Go.Proofs.YtgcmbkoejjcjlaaGreatDoor.A
theorem zci.congr {t:List Rw} {ls ms:List KV} (h:zci t ls) (e:∀ k,zap ls k=zap ms k):zci t ms:=fun k=>by rw [← e k]; exact h k
theorem zud (g:List Int→List Int):∀ {t:List Rw},nodup t→∀ k,zap (t.map fun r=>(r.1,g r.1)) k=(zbc t k).elim [] (fun _=>g k)
 | [],_,k=>by simp [zap,zbc]
 | (k1,c1)::t,h,k=>by
  have h':=List.pairwise_cons.1 h
  have ih:=zud g h'.2 k
  rw [List.map_cons,zcn,ih]
  by_cases e:k1=k
  ·subst e
   have hn:zbc t k1=none:=zh8.2 fun x hx e=>h'.1 x hx e.symm
   simp [zbc,hn]
  ·simp [zbc,e]
def zhb (t:List Rw) (ls:List KV):List KV:=t.map fun r=>(r.1,zap ls r.1)
theorem zqq {t:List Rw} {ls:List KV} (h:zci t ls) (hs:srt t) (k:List Int):zap (zhb t ls) k=zap ls k:=by
 unfold zhb
 rw [zud (fun q=>zap ls q) hs.nodup k]
 have := h k
 cases hl:zbc t k with
 | none=>rw [hl] at this; simp only at this; rw [this]; rfl
 | some c=>rfl
theorem zmc (t:List Rw) (ls:List KV):zby (zhb t ls)≤t.length*zby ls:=by
 induction t with
 | nil=>simp [zhb,zby]
 | cons r t ih=>
  have h1:=zsl ls r.1
  simp only [zhb,List.map_cons,zby,List.sum_cons,List.length_cons,Nat.succ_mul] at ih h1 ⊢
  omega
theorem yb7 {t u:List Rw} {ls ms:List KV} (h:zci t ls) (k:zci u ms) (ht:srt t) (hu:srt u) (hn:t.length*zby ls+u.length*zby ms<9223372036854775808):zci (tab (t++u)) (ls++ms):=by
 have h1:=h.tells ht
 have h2:=k.tells hu
 have h3:=zoe (h1.app h2) (by
  rw [zxi]
  have := zmc t ls
  have := zmc u ms
  unfold zhb at *
  omega)
 refine h3.congr fun q=>?_
 have a:=zqq h ht q
 have b:=zqq k hu q
 unfold zhb at a b
 rw [zn5,zn5,a,b]
def total (t:List Rw):Int:=(t.map fun r=>r.2.n).sum
end Go.Proofs.YtgcmbkoejjcjlaaGreatDoor.A
open Go Go.RowKit Go.Proofs.YtgcmbkoejjcjlaaGreatDoor.K Go.Proofs.YtgcmbkoejjcjlaaGreatDoor.T
set_option linter.unusedVariables false
set_option linter.unusedSimpArgs false
namespace Go.Proofs.YtgcmbkoejjcjlaaGreatDoor.A
variable {F F':Nat→Option (List Value)} {M M':Nat→Option zak} {N N':Nat} {K:zae} {E:zat}
theorem zz5.perm {m:Int} {l l':List Int} (h:zz5 m l) (p:l.Perm l'):zz5 m l':=⟨p.mem_iff.1 h.1,fun x hx=>h.2 x (p.mem_iff.2 hx)⟩
theorem zyt.perm {m:Int} {l l':List Int} (h:zyt m l) (p:l.Perm l'):zyt m l':=⟨p.mem_iff.1 h.1,fun x hx=>h.2 x (p.mem_iff.2 hx)⟩
theorem zcd.swap {c:CE} {l m:List Int} (h:zcd c l) (p:l.Perm m):zcd c m :=
 ⟨by rw [h.n,p.length_eq],by rw [h.s]; congr 1; exact p.foldr_eq' (fun x _ y _ z=>by omega) 0,h.lo.perm p,h.hi.perm p⟩
theorem zci.perm {t:List Rw} {ls ms:List KV} (h:zci t ls) (e:∀ k,(zap ls k).Perm (zap ms k)):zci t ms:=fun k=>by
 have h1:=h k
 have h2:=e k
 cases hl:zbc t k with
 | none=>rw [hl] at h1; simp only at h1; simp only; rw [h1] at h2; exact h2.symm.eq_nil
 | some c=>rw [hl] at h1; exact h1.swap h2
def reK (f:List Int→List Int) (ls:List KV):List KV:=ls.map fun x=>(f x.1,x.2)
theorem yjf (f:List Int→List Int) (ls:List KV):zby (reK f ls)=zby ls:=by
 induction ls with
 | nil=>rfl
 | cons x ls ih=>simp only [zby,reK,List.map_cons,List.sum_cons] at ih ⊢; rw [ih]
theorem regroup (f:List Int→List Int) (ls:List KV) (k:List Int):∀ (t:List Rw),nodup t →
  (zap (reK f (t.map fun r=>(r.1,zap ls r.1))) k).Perm (zap (reK f (ls.filter fun x=>decide (∃ r∈t,r.1=x.1))) k)
 | [],_=>by
  have:ls.filter (fun x=>decide (∃ r∈([]:List Rw),r.1=x.1))=[]:=by simp
  rw [this]; exact List.Perm.refl _
 | r::t,h=>by
  have h':=List.pairwise_cons.1 h
  have ih:=regroup f ls k t h'.2
  rw [List.map_cons]
  have e1:reK f ((r.1,zap ls r.1)::t.map fun r=>(r.1,zap ls r.1))=(f r.1,zap ls r.1)::reK f (t.map fun r=>(r.1,zap ls r.1)):=rfl
  rw [e1,zcn]
  have key:∀ (ls:List KV),(zap (reK f (ls.filter fun x=>decide (∃ q∈r::t,q.1=x.1))) k).Perm ((if f r.1=k then zap ls r.1 else [])++zap (reK f (ls.filter fun x=>decide (∃ q∈t,q.1=x.1))) k):=by
   intro ls
   induction ls with
   | nil=>simp [reK,zap]
   | cons x ls ih2=>
    rw [List.filter_cons,List.filter_cons,zcn]
    by_cases hx:x.1=r.1
    ·have a1:(∃ q∈r::t,q.1=x.1):=⟨r,by simp,hx.symm⟩
     have a2:¬ ∃ q∈t,q.1=x.1:=fun ⟨q,hq,e⟩=>h'.1 q hq (by rw [e,hx])
     simp only [decide_eq_true a1,decide_eq_false a2,if_true,Bool.false_eq_true,if_false]
     rw [if_pos hx]
     have e2:reK f (x::ls.filter fun x=>decide (∃ q∈r::t,q.1=x.1))=(f x.1,x.2)::reK f (ls.filter fun x=>decide (∃ q∈r::t,q.1=x.1)):=rfl
     rw [e2,zcn]
     try simp only [hx]
     by_cases hk:f r.1=k
     ·rw [if_pos hk,if_pos hk] at *
      rw [List.append_assoc]
      exact List.Perm.append_left _ ih2
     ·rw [if_neg hk,if_neg hk] at *
      exact ih2
    ·rw [if_neg hx,List.nil_append]
     by_cases h2:∃ q∈t,q.1=x.1
     ·have a1:(∃ q∈r::t,q.1=x.1):=by obtain ⟨q,hq,e⟩:=h2; exact ⟨q,by simp [hq],e⟩
      simp only [decide_eq_true a1,decide_eq_true h2,if_true]
      have e2:∀ (l:List KV),reK f (x::l)=(f x.1,x.2)::reK f l:=fun _=>rfl
      rw [e2,e2,zcn,zcn]
      refine (List.Perm.append_left _ ih2).trans ?_
      rw [← List.append_assoc,← List.append_assoc]
      exact List.Perm.append_right _ List.perm_append_comm
     ·have a1:¬ (∃ q∈r::t,q.1=x.1):=fun ⟨q,hq,e⟩=>by
       rcases List.mem_cons.1 hq with rfl | hq
       ·exact hx e.symm
       ·exact h2 ⟨q,hq,e⟩
      simp only [decide_eq_false a1,decide_eq_false h2,Bool.false_eq_true,if_false]
      exact ih2
  exact (List.Perm.append_left _ ih).trans (key ls).symm
theorem zms (f:List Int→List Int) (p:KV→Bool) (k:List Int):∀ (ls:List KV),(∀ x∈ls,p x=false→x.2=[])→zap (reK f (ls.filter p)) k=zap (reK f ls) k
 | [],_=>rfl
 | x::ls,h=>by
  have ih:=zms f p k ls (fun y hy=>h y (by simp [hy]))
  have e2:∀ (l:List KV),reK f (x::l)=(f x.1,x.2)::reK f l:=fun _=>rfl
  rw [List.filter_cons,e2,zcn]
  cases hp:p x
  ·rw [h x (by simp) hp]
   simpa using ih
  ·simp only [if_true]
   rw [e2,zcn,ih]
theorem zci.regroup {t:List Rw} {ls:List KV} (h:zci t ls) (hs:srt t) (f:List Int→List Int) (k:List Int):(zap (reK f (zhb t ls)) k).Perm (zap (reK f ls) k):=by
 have h1:=A.regroup f ls k t hs.nodup
 rw [zms f _ k ls] at h1
 ·exact h1
 ·intro x hx hp
  have hn:¬ ∃ r∈t,r.1=x.1:=of_decide_eq_false hp
  have h2:=h x.1
  rw [zh8.2 (fun r hr e=>hn ⟨r,hr,e⟩)] at h2
  simp only at h2
  cases hx2:x.2 with
  | nil=>rfl
  | cons v vs=>
   have:v∈zap ls x.1:=by
    unfold zap
    exact List.mem_flatMap.2 ⟨x,List.mem_filter.2 ⟨hx,by simp⟩,by rw [hx2]; simp⟩
   rw [h2] at this; cases this
theorem ye3 {t:List Rw} {ls:List KV} (h:zci t ls) (hs:srt t) (f:List Int→List Int) (hn:t.length*zby ls<9223372036854775808):zci (tab (t.map fun r=>(f r.1,r.2))) (reK f ls):=by
 have h1:=h.tells hs
 have h2:tells (t.map fun r=>(f r.1,r.2)) (reK f (zhb t ls)):=by
  refine ⟨by simp [reK,zhb],fun i r l hr hl=>?_⟩
  rw [List.getElem?_map] at hr
  unfold reK at hl
  rw [List.getElem?_map] at hl
  cases ht:t[i]? with
  | none=>rw [ht] at hr; cases hr
  | some x=>
   cases ho:(zhb t ls)[i]? with
   | none=>rw [ho] at hl; cases hl
   | some y=>
    rw [ht] at hr; rw [ho] at hl
    simp at hr hl
    subst hr; subst hl
    obtain ⟨a,b⟩:=h1.2 i x y ht ho
    exact ⟨by simp only; rw [a],b⟩
 have h3:=zoe h2 (by
  rw [yjf]
  have := zmc t ls
  omega)
 exact h3.perm (fun k=>h.regroup hs f k)
def zkh (l:List Dm) (k:List Int):Prop:=k.length=l.length∧∀ x∈k,0≤x∧x≤1000000
structure zch (l:List Dm) (t:List Rw) (ls:List KV):Prop where
 has:zci t ls
 srt:srt t
 key:∀ x∈ls,zkh l x.1
 val:∀ x∈ls,∀ v∈x.2,i64 v
theorem zch.row {l:List Dm} {t:List Rw} {ls:List KV} (h:zch l t ls) {r:Rw} (hr:r∈t):zkh l r.1∧zcd r.2 (zap ls r.1)∧∀ v∈zap ls r.1,i64 v:=by
 obtain ⟨⟨x,hx,e⟩,h2⟩:=yi7 h.has h.srt hr
 refine ⟨e ▸ h.key x hx,h2,fun v hv=>?_⟩
 obtain ⟨y,hy,_,hv'⟩:=ye4 hv
 exact h.val y hy v hv'
theorem zch.sound {l:List Dm} {t:List Rw} {ls:List KV} (h:zch l t ls):zdy l.length t=true:=by
 refine zx7 (fun r hr=>?_) h.srt
 obtain ⟨a,b,c⟩:=h.row hr
 exact yix (by rw [a.1]) (fun x hx=>(a.2 x hx).1) b c
theorem zch.i64 {l:List Dm} {t:List Rw} {ls:List KV} (h:zch l t ls):∀ r∈t,∀ x∈r.1,A.i64 x:=fun r hr x hx=>by
 have := (h.row hr).1.2 x hx
 exact ⟨by omega,by omega⟩
theorem zch.okK {l:List Dm} (hl:l.length≤1000) {t:List Rw} {ls:List KV} (h:zch l t ls):∀ r∈t,A.okK r.1:=fun r hr=>
 ⟨by rw [(h.row hr).1.1]; omega,h.i64 r hr⟩
theorem zch.ext {l:List Dm} {t u:List Rw} {ls ms:List KV} (h:zch l t ls) (k:zch l u ms) (hp:∀ q,(zap ls q).Perm (zap ms q)):t=u:=h.has.ext k.has h.srt k.srt hp
theorem zch.facts {l:List Dm} (hl:zdb l) {ks:List (List Int)} {v:List Int} (hv:∀ x∈v,A.i64 x):zch l (tab ((zcj l ks v).map fr1)) ((zcj l ks v).map kvF):=by
 refine ⟨ydn (zxw hv) (by rw [zlz]; omega),zpe _,fun x hx=>?_,fun x hx y hy=>?_⟩
 ·obtain ⟨f,hf,rfl⟩:=List.mem_map.1 hx
  obtain ⟨c,hc⟩:=(zm9 hf).1
  simp only [kvF]
  rw [hc]
  exact ⟨zes l c,fun x hx=>by have := ygq hl c x hx; omega⟩
 ·obtain ⟨f,hf,rfl⟩:=List.mem_map.1 hx
  simp [kvF] at hy
  rw [hy]; exact zxw hv f hf
theorem zch.merge {l:List Dm} {t u:List Rw} {ls ms:List KV} (h:zch l t ls) (k:zch l u ms) (hn:t.length*zby ls+u.length*zby ms<9223372036854775808):zch l (tab (t++u)) (ls++ms) :=
 ⟨yb7 h.has k.has h.srt k.srt hn,zpe _,fun x hx=>(List.mem_append.1 hx).elim (h.key x) (k.key x),fun x hx=>(List.mem_append.1 hx).elim (h.val x) (k.val x)⟩
theorem zch.roll {l:List Dm} {t:List Rw} {ls:List KV} (h:zch l t ls) (f:List Int→List Int) (hf:∀ k,zkh l k→zkh l (f k)) (hn:t.length*zby ls<9223372036854775808):zch l (tab (t.map fun r=>(f r.1,r.2))) (reK f ls) :=
 ⟨ye3 h.has h.srt f hn,zpe _,fun x hx=>by obtain ⟨y,hy,rfl⟩:=List.mem_map.1 hx; exact hf _ (h.key y hy),fun x hx=>by obtain ⟨y,hy,rfl⟩:=List.mem_map.1 hx; exact h.val y hy⟩
theorem yal:∀ (l:List Nat) (a:Nat),1≤a→a*5 ^ l.length≤10000→chk a ((zk8 a l).map (fun n:Nat=>(n:Int)))=true
 | [],a,_,_=>rfl
 | b::l,a,h,hn=>by
  have h1:a*(2+b%4)≤a*5:=Nat.mul_le_mul_left _ (by omega)
  have h2:a*2≤a*(2+b%4):=Nat.mul_le_mul_left _ (by omega)
  have h5:1≤5 ^ l.length:=Nat.one_le_pow _ _ (by decide)
  have h3:a*5*5 ^ l.length≤10000:=by rw [List.length_cons,Nat.pow_succ,Nat.mul_comm (5 ^ l.length) 5,← Nat.mul_assoc] at hn; exact hn
  have h4:a*(2+b%4)*5 ^ l.length≤10000:=Nat.le_trans (Nat.mul_le_mul_right _ h1) h3
  have h6:a*5*1≤10000:=Nat.le_trans (Nat.mul_le_mul_left _ h5) h3
  simp only [zk8,List.map_cons,chk]
  rw [yal l (a*(2+b%4)) (by omega) h4,Bool.and_true]
  refine decide_eq_true ?_
  have h7:((a*(2+b%4):Nat):Int)%(a:Int)=0:=by rw [← Int.natCast_emod,Nat.mul_mod_right]; rfl
  omega
theorem yj2 {c:Int×List Int} (hc:0≤c.1∧c.1<65536):zc2 (zgk c)=true:=by
 unfold zc2
 have hl:((c.2.take 4).map Int.toNat).length≤4:=by simp; omega
 have h1:chk 1 (zgk c).2=true:=by
  refine yal _ 1 (Nat.le_refl _) ?_
  rw [Nat.one_mul]
  exact Nat.le_trans (Nat.pow_le_pow_right (by decide) hl) (by decide)
 have h2:(zgk c).2.length≤4:=by simp only [zgk,List.length_map,yav]; simp; omega
 have h3:1≤(zgk c).1∧(zgk c).1≤10000:=by simp only [zgk]; omega
 rw [h1,decide_eq_true ⟨h3.1,h3.2,h2⟩]; rfl
theorem ygh {m:List (Int×List Int)} (hc:∀ c∈m,0≤c.1∧c.1<65536):zbh (zio m)=true:=by
 have hg:=zqg m hc
 unfold zbh
 rw [decide_eq_true ⟨hg.1,hg.2.1⟩,Bool.true_and,List.all_eq_true]
 intro d hd
 unfold zio at hd
 split at hd
 ·simp at hd; subst hd; decide +kernel
 ·obtain ⟨c,hc',rfl⟩:=List.mem_map.1 hd
  exact yj2 (hc c (List.mem_of_mem_take hc'))
def zpo (l:List Dm) (a b:List Int):Prop:=a.length=l.length∧b.length=l.length∧∀ (i:Nat) (h:i<l.length),0≤a.getD i 0∧a.getD i 0≤b.getD i 0∧b.getD i 0<l[i].2.length+2
theorem yf2:∀ {l:List Dm} {a b:List Int},zpo l a b→lvs l a b=true
 | [],_,_,_=>by simp [lvs]
 | d::l,[],_,h=>by have := h.1; simp at this
 | d::l,_::_,[],h=>by have := h.2.1; simp at this
 | d::l,x::a,y::b,h=>by
  simp only [lvs]
  have h0:=h.2.2 0 (by simp)
  simp at h0
  rw [yf2 (l:=l) (a:=a) (b:=b) ⟨by have := h.1; simp at this; exact this,by have := h.2.1; simp at this; exact this,fun i hi=>by
   have := h.2.2 (i+1) (by simp; exact hi)
   simpa using this⟩,Bool.and_true]
  exact decide_eq_true (by omega)
theorem yc9 {l:List Dm} {a b:List Int} (h:zpo l a b):zjc l a b=true:=by
 unfold zjc
 rw [yf2 h,decide_eq_true ⟨h.1,h.2.1⟩]; rfl
def zcf (n:Nat):List Int:=List.replicate n 0
theorem yg6 (n i:Nat):(zcf n).getD i 0=0:=by
 unfold zcf
 rw [List.getD_eq_getElem?_getD,List.getElem?_replicate]
 split<;>rfl
theorem yae {l:List Dm} {m:List Int} (hl:m.length=l.length) (h:zjs l m):zpo l (zcf l.length) m :=
 ⟨by simp [zcf],hl,fun i hi=>by rw [yg6]; have := h i hi; omega⟩
theorem yg3 (l:List Dm):zjs l []:=fun i h=>by simp; omega
theorem zkf {l:List Dm} (h:zbh l=true):∀ d∈l,zc2 d=true:=by
 unfold zbh at h
 rw [Bool.and_eq_true] at h
 exact List.all_eq_true.1 h.2
theorem ym7 {d:Dm} (hd:zc2 d=true) {a b v:Int} (h0:0≤a) (h1:a≤b) (h2:b<d.2.length+2) (hv:0≤v):upF d a b v=if a=b then v else if byF d b=0 then 0 else v/(byF d b/byF d a):=by
 unfold upF
 rw [if_neg (by rw [hd]; simp; omega)]
theorem yhd {d:Dm} (hd:zc2 d=true) {b:Int} (h0:0≤b):byF d b=0↔b>d.2.length:=by
 constructor
 ·intro h
  by_cases hb:b≤d.2.length
  ·have := (zjr hd h0 hb).1; omega
  ·omega
 ·intro h
  unfold byF
  rw [if_neg (by omega),if_pos h]
theorem yht {d:Dm} (hd:zc2 d=true) {a b v:Int} (h0:0≤a) (h1:a≤b) (h2:b<d.2.length+2) (hv:0≤v):0≤upF d a b v∧upF d a b v≤v:=by
 rw [ym7 hd h0 h1 h2 hv]
 split
 ·exact ⟨hv,Int.le_refl _⟩
 ·split
  ·exact ⟨Int.le_refl _,hv⟩
  ·rename_i h3 h4
   have hb:b≤d.2.length:=by
    by_cases h:b≤d.2.length
    ·exact h
    ·exact absurd ((yhd hd (by omega)).2 (by omega)) h4
   obtain ⟨r,s⟩:=zpk hd (a:=a) (b:=b) h0 (by omega) hb
   exact ⟨Int.ediv_nonneg hv (by omega),Int.ediv_le_self _ hv⟩
theorem ylz {l:List Dm} (hl:zbh l=true) {a b k:List Int} (h:zpo l a b) (hk:k.length=l.length):atF l a b k=atL l a b k:=by
 unfold atF zj1
 rw [hl,decide_eq_true ⟨h.1,h.2.1,hk⟩]; rfl
theorem yk8 {l:List Dm} {a b k:List Int} {i:Nat} (h:i<l.length):(atL l a b k)[i]?=some (upF l[i] (a.getD i 0) (b.getD i 0) (k.getD i 0)):=by
 simp [atL,h]
theorem yj6 {l:List Dm} (hl:zbh l=true) {a b:List Int} (h:zpo l a b) (k:List Int) (hk:zkh l k):zkh l (atF l a b k):=by
 rw [ylz hl h hk.1]
 refine ⟨zkl l a b k,fun x hx=>?_⟩
 obtain ⟨i,hi,rfl⟩:=List.mem_iff_getElem.1 hx
 rw [zkl] at hi
 have e:=yk8 (a:=a) (b:=b) (k:=k) hi
 rw [List.getElem?_eq_getElem (by rw [zkl]; exact hi)] at e
 injection e with e
 rw [e]
 obtain ⟨h1,h2,h3⟩:=h.2.2 i hi
 have hki:=hk.2 (k[i]'(by rw [hk.1]; exact hi)) (List.getElem_mem _)
 have e2:k.getD i 0=k[i]'(by rw [hk.1]; exact hi):=by rw [List.getD_eq_getElem?_getD,List.getElem?_eq_getElem (by rw [hk.1]; exact hi)]; rfl
 rw [e2]
 have := yht (zkf hl l[i] (List.getElem_mem _)) h1 h2 h3 hki.1
 omega
theorem zch.rolled {l:List Dm} (hl:zbh l=true) {t:List Rw} {ls:List KV} (h:zch l t ls) {a b:List Int} (hab:zpo l a b) (hn:t.length*zby ls<9223372036854775808):zff l t a b=0∧zch l (zgl l t a b) (reK (atF l a b) ls):=by
 have e0:zff l t a b=0:=by unfold zff; rw [hl,yc9 hab,h.sound]; rfl
 refine ⟨e0,?_⟩
 unfold zgl
 rw [if_pos e0]
 exact h.roll (atF l a b) (fun k hk=>yj6 hl hab k hk) hn
theorem yjt {n:Nat} (hn:n≤1000000) (k:∀ b,N≤b→K (.slice (some ⟨b,0,none⟩) n n) ⟨F,upd M b (some (.cells 3 (ic (zcf n)) n)),b+1⟩):mks 3 [(.int .i64 0)] 1 8 (.int .i64 (n:Nat)) (.int .i64 (n:Nat)) K ⟨F,M,N⟩:=by
 refine ⟨_,n,_,n,rfl,rfl,Nat.le_refl _,by omega,by unfold maxLen; omega,fun b hb=>?_⟩
 have hflat:∀ n:Nat,(List.replicate n [(Value.int .i64 0)]).flatten=ic (zcf n):=fun n=>by
  induction n with
  | zero=>rfl
  | succ n ih=>rw [List.replicate_succ,List.flatten_cons,ih]; rfl
 rw [hflat,Nat.mul_one]
 exact k b hb
theorem ymq {a b:Nat} (h1:a≤1000) (h2:b≤1000):a*b<9223372036854775808:=by
 have := Nat.mul_le_mul h1 h2
 omega
theorem zon (n:Nat):(zcf n).length=n:=by simp [zcf]
theorem yf7 {l:List Dm} {m:List Int} (hl:m.length=l.length) (h:zjs l m) (hd:∀ d∈l,d.2.length≤1000000):∀ x∈m,i64 x:=fun x hx=>by
 obtain ⟨i,hi,rfl⟩:=List.mem_iff_getElem.1 hx
 have h1:=h i (by omega)
 have h2:=hd (l[i]'(by omega)) (List.getElem_mem _)
 rw [List.getD_eq_getElem?_getD,List.getElem?_eq_getElem hi] at h1
 simp only [Option.getD_some] at h1
 exact ⟨by omega,by omega⟩
theorem zok {d:Dm} (h:zc2 d=true):d.2.length≤4:=by unfold zc2 at h; rw [Bool.and_eq_true] at h; exact (of_decide_eq_true h.1).2.2
theorem zcs {p:Nat→Bool} {n i:Nat} (hi:i<n) (h:p i=false):(List.range n).all p=false:=by
 rw [List.all_eq_false]
 exact ⟨i,List.mem_range.2 hi,by simp [h]⟩
theorem zf4 {p:Nat→Bool} {i:Nat} (h:(List.range i).all p=true) (hp:p i=true):(List.range (i+1)).all p=true:=by
 rw [List.range_succ,List.all_append,h]; simp [hp]
theorem yce {v fv:Value} {ls:List (List Int)} {p:Nat→Bool} {n:Nat} (hv:zis .i64 F v ls) (hl:ls.length≤1000000) (h0:0<ls.length) (hn:ls[0].length=n) (hnl:n≤140737488351232)
  (hf:(∀ x∈ls,x.length=n)→∀ {K:zae} (N1 i:Nat),N≤N1→i<n→(∀ N',N1≤N'→(Hp.mk F M N').wf→K (.bool (p i)) ⟨F,M,N'⟩)→za2 Tryz.prog fv #[.int .i64 (i:Nat)] K E ⟨F,M,N1⟩)
  (k:∀ N',N≤N'→(Hp.mk F M N').wf→K (.bool ((ls.all fun x=>decide (x.length=n))&&(List.range n).all p)) ⟨F,M,N'⟩) :
  za2 Tryz.prog (.func (.func 160) #[] #[]) #[fv,v] K E ⟨F,M,N⟩:=by
 refine za3 mixed Tryz.func160 (by kernel_rfl) (yt3 _ E _ _) (fun hw=>?_)
 have hlv:za9 v=some (.int .i64 (ls.length:Nat)):=by obtain ⟨rows,h1,_⟩:=hv; obtain ⟨a,c,rfl,_⟩:=h1.form; rfl
 have fin:∀ v',v'=((ls.all fun x=>decide (x.length=n))&&(List.range n).all p)→∀ N',N≤N'→∀ h',h'=(⟨F,M,N'⟩:Hp)→h'.wf→∃ h'',h'.wk h''∧(h''.wf→K (.bool v') h''):=fun v' e N' hN h' e' hc=>by
  subst e; subst e'
  exact ⟨_,za0 hc,fun hw'=>k _ hN hw'⟩
 try simp only [hlv]
 try simp only [sS]
 refine zw9 (σ:=Nat) (fun i=>.int .i64 (i:Nat)) (fun i h=>h=⟨F,M,N⟩∧i≤ls.length∧∀ x∈ls.take i,x.length=n) (fun i=>ls.length - i) 0 rfl
  (fun hw1=>⟨_,za0 hw1,rfl,Nat.zero_le _,by simp⟩) (fun k1 i j h1 hI hw1 next=>?_)
 rw [zw1]
 obtain ⟨rfl,hi,he⟩:=hI
 refine zaf (fun hlt=>?_) (fun hge=>?_)
 ·have h1:i<ls.length:=by omega
  try simp only [sS]
  refine ycs hv h1 fun q u hu hul=>zam hu ?_
  refine ycs (i:=0) hv h0 fun q' u' hu' hul'=>zam hu' ?_
  refine zc9 (fun h2=>?_) (fun h2=>?_)
  ·try simp only [sS]
   refine fin _ ?_ _ (Nat.le_refl _) _ rfl
   have:(ls.all fun x=>decide (x.length=n))=false:=by
    rw [List.all_eq_false]
    exact ⟨ls[i],List.getElem_mem _,by rw [decide_eq_false (by omega)]; simp⟩
   rw [this]; rfl
  ·try simp only [sS]
   refine zai (by omega) ?_
   refine next (i+1) _ _ (by omega) (fun hw2=>⟨_,za0 hw2,rfl,h1,fun x hx=>?_⟩)
   rw [List.take_add_one,List.getElem?_eq_getElem h1] at hx
   rcases List.mem_append.1 hx with hx | hx
   ·exact he x hx
   ·simp at hx; rw [hx]; omega
 ·try simp only [sS]
  rw [List.take_of_length_le (by omega)] at he
  have hall:(ls.all fun x=>decide (x.length=n))=true:=List.all_eq_true.2 fun x hx=>decide_eq_true (he x hx)
  rw [hall,Bool.true_and] at fin
  refine ycs (i:=0) hv h0 fun q' u' hu' hul'=>zam hu' ?_
  rw [hn]
  refine zs1 (σ:=Nat) (fun i=>.int .i64 (i:Nat)) (fun i h=>∃ N',h=⟨F,M,N'⟩∧N≤N'∧i≤n∧(List.range i).all p=true) (fun i=>n - i) 0 rfl
   (fun hw1=>⟨_,za0 hw1,N,rfl,Nat.le_refl _,Nat.zero_le _,rfl⟩) (fun k1 i j h1 hI hw1 next=>?_)
  rw [zqx]
  obtain ⟨N1,rfl,hN1,hi2,hp⟩:=hI
  refine zaf (fun hlt=>?_) (fun hge=>?_)
  ·have h1:i<n:=by omega
   try simp only [sS]
   refine hf he N1 i hN1 h1 (fun N2 hN2 hw2=>?_)
   cases hpi:p i
   ·try simp only [sS]
    exact fin _ (zcs h1 hpi).symm _ (by omega) _ rfl
   ·try simp only [sS]
    refine zai (by omega) ?_
    exact next (i+1) _ _ (by omega) (fun hw3=>⟨_,za0 hw3,N2,rfl,by omega,h1,zf4 hp hpi⟩)
  ·try simp only [sS]
   rw [show i=n by omega] at hp
   exact fin _ hp.symm _ hN1 _ rfl
def zcm (lo hi key:List Int):Bool:=decide (hi.length=lo.length∧key.length=lo.length)&&(List.range lo.length).all fun i=>decide (lo.getD i 0≤key.getD i 0∧key.getD i 0<hi.getD i 0)
def zfc (l:List Dm) (lo hi:List Int):Bool:=decide (lo.length=l.length∧hi.length=l.length)&&(List.range lo.length).all fun i=>decide (0≤lo.getD i 0∧lo.getD i 0≤hi.getD i 0∧hi.getD i 0≤(l.getD i (0,[])).1)
theorem zb0 {α:Type} {l:List α} {i:Nat} (h:i<l.length) (d:α):l.getD i d=l[i]:=by rw [List.getD_eq_getElem?_getD,List.getElem?_eq_getElem h]; rfl
theorem yga {ks:List (List Int)} {b:Nat} {cells:List Value} (hF:F b=some cells) (hl:cells.length=ks.length) (hr:zad (fun r c=>∃ u,r=[u]∧sF F 1 u c.length (ick .i64 c)∧c.length≤140737488351232) 1 (cells.map fun x=>[x]) ks):zis .i64 F (.slice (some ⟨b,0,none⟩) ks.length ks.length) ks:=by
 refine ⟨_,zhr (cells:=(cells.map fun x=>[x]).flatten) ?_ ?_ (Nat.le_refl _),hr⟩
 ·rw [hF]
  congr 1
  clear hF hl hr
  induction cells with
  | nil=>rfl
  | cons x xs ih=>simp only [List.map_cons,List.flatten_cons]; rw [← ih]; rfl
 ·have := zck (sz:=1) (cells.map fun x=>[x]) (by simp)
  rw [this,List.length_map,hl]
theorem zik {p:Nat→Prop} {b:Nat} {e:TypeId} {cs:List Value} {tot:Nat} (hp:p b) (hM:M b=some (.cells e cs tot)):frzP F M p b=some cs:=by simp [frzP,hp,hM]
theorem yf0 {b1 b2 b3:Nat} {ul uh uk:Value} {lo hi key:List Int} {e1 e2 e3:TypeId} {i:Nat} (h1:M b1=some (.cells e1 [ul] 1)) (h2:M b2=some (.cells e2 [uh] 1)) (h3:M b3=some (.cells e3 [uk] 1)) (hl:sF F 1 ul lo.length (ic lo)) (hh:sF F 1 uh hi.length (ic hi)) (hk:sF F 1 uk key.length (ic key)) (i1:i<lo.length) (i2:i<hi.length) (i3:i<key.length)
  (k:∀ N',N≤N'→(Hp.mk F M N').wf→K (.bool (decide (lo.getD i 0≤key.getD i 0∧key.getD i 0<hi.getD i 0))) ⟨F,M,N'⟩) :
  za2 Tryz.prog (.func (.func 167) #[] #[.pointer (some ⟨b3,0,none⟩),.pointer (some ⟨b1,0,none⟩),.pointer (some ⟨b2,0,none⟩)]) #[.int .i64 (i:Nat)] K E ⟨F,M,N⟩:=by
 refine za3 mixed Tryz.func167 (by kernel_rfl) (yoe _ E _ _ _ _) (fun hw=>?_)
 rw [zb0 i1,zb0 i2,zb0 i3] at k
 refine ldM (v:=uk) (zax hk i3 fun p=>?_)
 refine ldM (v:=ul) (zax hl i1 fun p=>?_)
 refine ze1 (fun h4=>?_) (fun h4=>?_)
 ·try simp only [sS]
  refine ldM (v:=uk) (zax hk i3 fun p=>?_)
  refine ldM (v:=uh) (zax hh i2 fun p=>?_)
  refine zaf (fun h5=>?_) (fun h5=>?_)
  ·try simp only [sS]
   rw [decide_eq_true ⟨h4,h5⟩] at k
   exact fun hc=>⟨_,za0 hc,fun hw'=>k _ (Nat.le_refl _) hw'⟩
  ·try simp only [sS]
   rw [decide_eq_false fun q=>h5 q.2] at k
   exact fun hc=>⟨_,za0 hc,fun hw'=>k _ (Nat.le_refl _) hw'⟩
 ·try simp only [sS]
  rw [decide_eq_false fun q=>h4 q.1] at k
  exact fun hc=>⟨_,za0 hc,fun hw'=>k _ (Nat.le_refl _) hw'⟩
theorem zox {u:Value} {c:List Int} (h:sF F 1 u c.length (ic c)) (hl:c.length≤140737488351232):∃ w,[u]=[w]∧sF F 1 w c.length (ick .i64 c)∧c.length≤140737488351232:=⟨u,rfl,h,hl⟩
theorem zoq {sz m:Nat} {v:Value} {cells:List Value} (h:sF F sz v m cells):[v].length=1∧∀ c∈[v],c.oneCell'=true:=by
 obtain ⟨a,c,rfl,_⟩:=h.form
 exact ⟨rfl,List.all_eq_true.1 rfl⟩
theorem yjm {ul uh uk:Value} {lo hi key:List Int} (hl:sF F 1 ul lo.length (ic lo)) (hh:sF F 1 uh hi.length (ic hi)) (hk:sF F 1 uk key.length (ic key)) (hll:lo.length≤140737488351232) (hhl:hi.length≤140737488351232) (hkl:key.length≤140737488351232)
  (k:∀ F' N',(Hp.mk F' M N').wf→zac F F'→N≤N'→K (.bool (zcm lo hi key)) ⟨F',M,N'⟩) :
  za2 Tryz.prog (.func (.func 142) #[] #[]) #[ul,uh,uk] K E ⟨F,M,N⟩:=by
 refine za3 mixed Tryz.func142 (by kernel_rfl) (yq1 _ E _ _ _) (fun hw=>?_)
 have hm:za7 M N:=hw.m
 obtain ⟨la,lc,hlf,_⟩:=hl.form
 obtain ⟨ha,hc0,hhf,_⟩:=hh.form
 obtain ⟨ka,kc,hkf,_⟩:=hk.form
 refine zal (cs:=[ul]) (fun b1 hb1=>?_) (by rw [hlf]; rfl)
 refine zal (cs:=[uh]) (fun b2 hb2=>?_) (by rw [hhf]; rfl)
 refine zal (cs:=[uk]) (fun b3 hb3=>?_) (by rw [hkf]; rfl)
 refine ldM (v:=ul) (ldM (v:=uh) (ldM (v:=uk) ?_))
 refine zde (cs:=[ul,uh,uk]) (by rw [hlf,hhf,hkf]; kernel_rfl) (fun b4 hb4=>?_)
 refine zej (fun hc=>⟨_,zgw (p:=fun q=>q=b4) hc,?_⟩)
 have hs:=zbd (p:=fun q=>q=b4) hc
 have g4:=zik (F:=F) (p:=fun q=>q=b4) rfl (za5 (upd (upd (upd M b1 (some (.cells 37 [ul] [ul].length))) b2 (some (.cells 37 [uh] [uh].length))) b3 (some (.cells 37 [uk] [uk].length))) b4 (some (.cells 37 [ul,uh,uk] [ul,uh,uk].length)))
 generalize hM4:upd (upd (upd (upd M b1 _) b2 _) b3 _) b4 _=M4 at *
 have hk4:∀ q,q≠b4→zbj M4 (fun q=>¬ q=b4) q=M4 q:=fun q hq=>zay hq
 have g1:zbj M4 (fun q=>¬ q=b4) b1=some (.cells 37 [ul] 1):=(hk4 _ (by omega)).trans (by rw [← hM4]; exact (za4 _ _ (by omega)).trans ((za4 _ _ (by omega)).trans ((za4 _ _ (by omega)).trans (za5 _ _ _))))
 have g2:zbj M4 (fun q=>¬ q=b4) b2=some (.cells 37 [uh] 1):=(hk4 _ (by omega)).trans (by rw [← hM4]; exact (za4 _ _ (by omega)).trans ((za4 _ _ (by omega)).trans (za5 _ _ _)))
 have g3:zbj M4 (fun q=>¬ q=b4) b3=some (.cells 37 [uk] 1):=(hk4 _ (by omega)).trans (by rw [← hM4]; exact (za4 _ _ (by omega)).trans (za5 _ _ _))
 have hMM:∀ q,q<N→zbj M4 (fun q=>¬ q=b4) q=M q:=fun q hq=>(hk4 _ (by omega)).trans (by rw [← hM4]; exact (za4 _ _ (by omega)).trans ((za4 _ _ (by omega)).trans ((za4 _ _ (by omega)).trans (za4 _ _ (by omega)))))
 generalize zbj M4 (fun q=>¬ q=b4)=M5 at *
 generalize frzP F M4 (fun q=>q=b4)=F5 at *
 have hl5:=hl.mono hs
 have hh5:=hh.mono hs
 have hk5:=hk.mono hs
 have hks:zis .i64 F5 (.slice (some ⟨b4,0,none⟩) 3 3) [lo,hi,key]:=by
  have h0:=zad.nil (fun (r:List Value) (c:List Int)=>∃ u,r=[u]∧sF F5 1 u c.length (ick .i64 c)∧c.length≤140737488351232) 1
  exact yga (ks:=[lo,hi,key]) g4 rfl (zau (zau (zau h0 (zoq hl5) (zox hl5 hll)) (zoq hh5) (zox hh5 hhl)) (zoq hk5) (zox hk5 hkl))
 refine yce (n:=lo.length) (p:=fun i=>decide (lo.getD i 0≤key.getD i 0∧key.getD i 0<hi.getD i 0)) hks (by simp) (by simp) rfl hll (fun hlen K1 N1 i hN1 hi1 hK=>?_) (fun N' hN' hw' hc=>?_)
 ·exact yf0 g1 g2 g3 hl5 hh5 hk5 hi1 (by rw [hlen hi (by simp)]; exact hi1) (by rw [hlen key (by simp)]; exact hi1) hK
 ·refine ⟨_,zb7 hm hMM hc,fun hw''=>?_⟩
  have e:zcm lo hi key=(([lo,hi,key].all fun x=>decide (x.length=lo.length))&&(List.range lo.length).all fun i=>decide (lo.getD i 0≤key.getD i 0∧key.getD i 0<hi.getD i 0)):=by
   unfold zcm
   congr 1
   simp
  have := k _ _ hw'' (hs.trans (zag hc)) (by omega)
  rw [e] at this; exact this
theorem zwn {v:Value} {l:List Dm} {K:Value→Value→zae} (hv:zbl F v l) {i:Nat} (hi:i<l.length) (k:∀ p q,K p q (.int .i64 l[i].1) ⟨F,M,N⟩) :
  pv (iaV none 2 v (.int .i64 (i:Nat))) (fun p=>pv (faV 0 p) fun q=>ld false 1 q (K p q)) ⟨F,M,N⟩:=by
 obtain ⟨rows,h1,h2⟩:=hv
 refine zbb h1 h2 (by decide) hi (off:=0) (by decide) fun p q r x hR _ hx=>?_
 obtain ⟨kv,rfl,hkv,hkl⟩:=hR
 simp at hx
 subst hx
 exact k p q
def zm0 (l:List Dm) (lo hi:List Int) (i:Nat):Bool:=decide (0≤lo.getD i 0∧lo.getD i 0≤hi.getD i 0∧hi.getD i 0≤(l.getD i (0,[])).1)
theorem yfy {b1 b2 b3:Nat} {ul uh ud:Value} {lo hi:List Int} {l:List Dm} {e1 e2 e3:TypeId} {i:Nat} (h1:M b1=some (.cells e1 [ul] 1)) (h2:M b2=some (.cells e2 [uh] 1)) (h3:M b3=some (.cells e3 [ud] 1)) (hl:sF F 1 ul lo.length (ic lo)) (hh:sF F 1 uh hi.length (ic hi)) (hd:zbl F ud l) (i1:i<lo.length) (i2:i<hi.length) (i3:i<l.length)
  (k:∀ N',N≤N'→(Hp.mk F M N').wf→K (.bool (zm0 l lo hi i)) ⟨F,M,N'⟩) :
  za2 Tryz.prog (.func (.func 161) #[] #[.pointer (some ⟨b1,0,none⟩),.pointer (some ⟨b2,0,none⟩),.pointer (some ⟨b3,0,none⟩)]) #[.int .i64 (i:Nat)] K E ⟨F,M,N⟩:=by
 refine za3 mixed Tryz.func161 (by kernel_rfl) (yrr _ E _ _ _ _) (fun hw=>?_)
 unfold zm0 at k
 rw [zb0 i1,zb0 i2,zb0 i3] at k
 refine ldM (v:=ul) (zax hl i1 fun p=>?_)
 refine ze1 (fun h4=>?_) (fun h4=>?_)
 ·try simp only [sS]
  refine ldM (v:=ul) (zax hl i1 fun p=>?_)
  refine ldM (v:=uh) (zax hh i2 fun p=>?_)
  refine zfd (fun h5=>?_) (fun h5=>?_)
  ·try simp only [sS]
   refine ldM (v:=uh) (zax hh i2 fun p=>?_)
   refine ldM (v:=ud) (zwn hd i3 fun p q=>?_)
   refine zfd (fun h6=>?_) (fun h6=>?_)
   ·try simp only [sS]
    rw [decide_eq_true ⟨h4,h5,h6⟩] at k
    exact fun hc=>⟨_,za0 hc,fun hw'=>k _ (Nat.le_refl _) hw'⟩
   ·try simp only [sS]
    rw [decide_eq_false fun q=>h6 q.2.2] at k
    exact fun hc=>⟨_,za0 hc,fun hw'=>k _ (Nat.le_refl _) hw'⟩
  ·try simp only [sS]
   rw [decide_eq_false fun q=>h5 q.2.1] at k
   exact fun hc=>⟨_,za0 hc,fun hw'=>k _ (Nat.le_refl _) hw'⟩
 ·try simp only [sS]
  rw [decide_eq_false fun q=>h4 q.1] at k
  exact fun hc=>⟨_,za0 hc,fun hw'=>k _ (Nat.le_refl _) hw'⟩
theorem yem {ud ul uh:Value} {l:List Dm} {lo hi:List Int} (hd:zbl F ud l) (hl:sF F 1 ul lo.length (ic lo)) (hh:sF F 1 uh hi.length (ic hi)) (hll:lo.length≤140737488351232) (hhl:hi.length≤140737488351232)
  (k:∀ F' N',(Hp.mk F' M N').wf→zac F F'→N≤N'→K (.bool (zfc l lo hi)) ⟨F',M,N'⟩) :
  za2 Tryz.prog (.func (.func 135) #[] #[]) #[ud,ul,uh] K E ⟨F,M,N⟩:=by
 refine za3 mixed Tryz.func135 (by kernel_rfl) (ys9 _ E _ _ _) (fun hw=>?_)
 have hm:za7 M N:=hw.m
 obtain ⟨la,lc,hlf,_⟩:=hl.form
 obtain ⟨ha,hc0,hhf,_⟩:=hh.form
 obtain ⟨da,dc,hdf⟩:=hd.form
 have hlv:za9 ul=some (.int .i64 (lo.length:Nat)):=by rw [hlf]; rfl
 have hdv:za9 ud=some (.int .i64 (l.length:Nat)):=by rw [hdf]; rfl
 refine zal (cs:=[ud]) (fun b1 hb1=>?_) (by rw [hdf]; rfl)
 refine zal (cs:=[ul]) (fun b2 hb2=>?_) (by rw [hlf]; rfl)
 refine zal (cs:=[uh]) (fun b3 hb3=>?_) (by rw [hhf]; rfl)
 refine ldM (v:=ul) ?_
 refine zaa hlv ?_
 refine ldM (v:=ud) (zaa hdv ?_)
 refine zba (fun hq=>?_) (fun hq=>?_)
 ·try simp only [sS]
  refine ldM (v:=ul) (ldM (v:=uh) ?_)
  refine zde (cs:=[ul,uh]) (by rw [hlf,hhf]; kernel_rfl) (fun b4 hb4=>?_)
  refine zej (fun hc=>⟨_,zgw (p:=fun q=>q=b4) hc,?_⟩)
  have hs:=zbd (p:=fun q=>q=b4) hc
  have g4:=zik (F:=F) (p:=fun q=>q=b4) rfl (za5 (upd (upd (upd M b1 (some (.cells 26 [ud] [ud].length))) b2 (some (.cells 37 [ul] [ul].length))) b3 (some (.cells 37 [uh] [uh].length))) b4 (some (.cells 37 [ul,uh] [ul,uh].length)))
  generalize hM4:upd (upd (upd (upd M b1 _) b2 _) b3 _) b4 _=M4 at *
  have hk4:∀ q,q≠b4→zbj M4 (fun q=>¬ q=b4) q=M4 q:=fun q hq=>zay hq
  have g1:zbj M4 (fun q=>¬ q=b4) b1=some (.cells 26 [ud] 1):=(hk4 _ (by omega)).trans (by rw [← hM4]; exact (za4 _ _ (by omega)).trans ((za4 _ _ (by omega)).trans ((za4 _ _ (by omega)).trans (za5 _ _ _))))
  have g2:zbj M4 (fun q=>¬ q=b4) b2=some (.cells 37 [ul] 1):=(hk4 _ (by omega)).trans (by rw [← hM4]; exact (za4 _ _ (by omega)).trans ((za4 _ _ (by omega)).trans (za5 _ _ _)))
  have g3:zbj M4 (fun q=>¬ q=b4) b3=some (.cells 37 [uh] 1):=(hk4 _ (by omega)).trans (by rw [← hM4]; exact (za4 _ _ (by omega)).trans (za5 _ _ _))
  have hMM:∀ q,q<N→zbj M4 (fun q=>¬ q=b4) q=M q:=fun q hq=>(hk4 _ (by omega)).trans (by rw [← hM4]; exact (za4 _ _ (by omega)).trans ((za4 _ _ (by omega)).trans ((za4 _ _ (by omega)).trans (za4 _ _ (by omega)))))
  generalize zbj M4 (fun q=>¬ q=b4)=M5 at *
  generalize frzP F M4 (fun q=>q=b4)=F5 at *
  have hl5:=hl.mono hs
  have hh5:=hh.mono hs
  have hd5:=hd.mono hs
  have hks:zis .i64 F5 (.slice (some ⟨b4,0,none⟩) 2 2) [lo,hi]:=by
   have h0:=zad.nil (fun (r:List Value) (c:List Int)=>∃ u,r=[u]∧sF F5 1 u c.length (ick .i64 c)∧c.length≤140737488351232) 1
   exact yga (ks:=[lo,hi]) g4 rfl (zau (zau h0 (zoq hl5) (zox hl5 hll)) (zoq hh5) (zox hh5 hhl))
  refine yce (n:=lo.length) (p:=zm0 l lo hi) hks (by simp) (by simp) rfl hll (fun hlen K1 N1 i hN1 hi1 hK=>?_) (fun N' hN' hw'=>?_)
  ·exact yfy g2 g3 g1 hl5 hh5 hd5 hi1 (by rw [hlen hi (by simp)]; exact hi1) (by omega) hK
  ·try simp only [sS]
   refine fun hc=>⟨_,zb7 hm hMM hc,fun hw''=>?_⟩
   have e:zfc l lo hi=(([lo,hi].all fun x=>decide (x.length=lo.length))&&(List.range lo.length).all (zm0 l lo hi)):=by
    have e0:decide (lo.length=l.length∧hi.length=l.length)=decide (hi.length=lo.length):=decide_eq_decide.2 ⟨fun q=>by omega,fun q=>by omega⟩
    unfold zfc zm0
    rw [e0]
    congr 1
    simp
   have := k _ _ hw'' (hs.trans (zag hc)) (by omega)
   rw [e] at this; exact this
 ·try simp only [sS]
  refine fun hc=>⟨⟨F,M,b3+1⟩,zbp hc (zav (zav (zav (zb6 _) (hm _ (by omega))) (hm _ (by omega))) (hm _ (by omega))),fun hw'=>?_⟩
  have e:zfc l lo hi=false:=by unfold zfc; rw [decide_eq_false (by omega)]; rfl
  have := k _ _ hw' (zac.refl _) (by omega)
  rw [e] at this; exact this
theorem yen {ud ul uh:Value} {l:List Dm} {lo hi:List Int} (hd:zbl F ud l) (hl:sF F 1 ul lo.length (ic lo)) (hh:sF F 1 uh hi.length (ic hi)) (hdl:l.length≤140737488351232)
  (k:∀ N',N≤N'→(Hp.mk F M N').wf→K (.bool (zfc l lo hi)) ⟨F,M,N'⟩) :
  za2 Tryz.prog (.func (.func 172) #[] #[]) #[ud,ul,uh] K E ⟨F,M,N⟩:=by
 refine za3 mixed Tryz.func172 (by kernel_rfl) (ypd _ E _ _ _) (fun hw=>?_)
 have hlv:za9 ul=some (.int .i64 (lo.length:Nat)):=by obtain ⟨a,c,rfl,_⟩:=hl.form; rfl
 have hhv:za9 uh=some (.int .i64 (hi.length:Nat)):=by obtain ⟨a,c,rfl,_⟩:=hh.form; rfl
 have hdv:za9 ud=some (.int .i64 (l.length:Nat)):=by obtain ⟨a,c,rfl⟩:=hd.form; rfl
 have fin:∀ v',v'=zfc l lo hi→∀ N',N≤N'→∀ h',h'=(⟨F,M,N'⟩:Hp)→h'.wf→∃ h'',h'.wk h''∧(h''.wf→K (.bool v') h''):=fun v' e N' hN h' e' hc=>by
  subst e; subst e'
  exact ⟨_,za0 hc,fun hw'=>k _ hN hw'⟩
 refine zaa hlv (zaa hdv ?_)
 refine zc9 (fun h1=>?_) (fun h1=>?_)
 ·try simp only [sS]
  exact fin _ (by unfold zfc; rw [decide_eq_false (by omega)]; rfl) _ (Nat.le_refl _) _ rfl
 try simp only [sS]
 refine zaa hhv (zaa hdv ?_)
 refine zc9 (fun h2=>?_) (fun h2=>?_)
 ·try simp only [sS]
  exact fin _ (by unfold zfc; rw [decide_eq_false (by omega)]; rfl) _ (Nat.le_refl _) _ rfl
 try simp only [sS]
 have hb:zfc l lo hi=(List.range l.length).all (zm0 l lo hi):=by
  unfold zfc zm0
  rw [decide_eq_true ⟨by omega,by omega⟩,Bool.true_and,show lo.length=l.length by omega]
 rw [hb] at fin
 refine zrf (σ:=Nat) (fun i=>.int .i64 (i:Nat)) (fun i h=>h=⟨F,M,N⟩∧i≤l.length∧(List.range i).all (zm0 l lo hi)=true) (fun i=>l.length - i) 0 rfl
  (fun hw1=>⟨_,za0 hw1,rfl,Nat.zero_le _,rfl⟩) (fun k1 i j h1 hI hw1 next=>?_)
 rw [zr8]
 obtain ⟨rfl,hi',he⟩:=hI
 refine zaa hdv ?_
 refine zaf (fun hlt=>?_) (fun hge=>?_)
 ·have i3:i<l.length:=by omega
  have i1:i<lo.length:=by omega
  have i2:i<hi.length:=by omega
  have hp:zm0 l lo hi i=decide (0≤lo[i]∧lo[i]≤hi[i]∧hi[i]≤l[i].1):=by
   unfold zm0
   rw [zb0 i1,zb0 i2,zb0 i3]
  try simp only [sS]
  refine zax hl i1 fun p=>?_
  refine zaf (fun h4=>?_) (fun h4=>?_)
  ·try simp only [sS]
   exact fin _ (zcs i3 (by rw [hp]; exact decide_eq_false (by omega))).symm _ (Nat.le_refl _) _ rfl
  try simp only [sS]
  refine zax hl i1 fun p=>zax hh i2 fun p=>?_
  refine zbu (fun h5=>?_) (fun h5=>?_)
  ·try simp only [sS]
   exact fin _ (zcs i3 (by rw [hp]; exact decide_eq_false (by omega))).symm _ (Nat.le_refl _) _ rfl
  try simp only [sS]
  refine zax hh i2 fun p=>zwn hd i3 fun p q=>?_
  refine zbu (fun h6=>?_) (fun h6=>?_)
  ·try simp only [sS]
   exact fin _ (zcs i3 (by rw [hp]; exact decide_eq_false (by omega))).symm _ (Nat.le_refl _) _ rfl
  try simp only [sS]
  refine zai (by omega) ?_
  exact next (i+1) _ _ (by omega) (fun hw3=>⟨_,za0 hw3,rfl,i3,zf4 he (by rw [hp]; exact decide_eq_true ⟨by omega,by omega,by omega⟩)⟩)
 ·try simp only [sS]
  rw [show i=l.length by omega] at he
  exact fin _ he.symm _ (Nat.le_refl _) _ rfl
theorem yfw {ul uh uk:Value} {lo hi key:List Int} (hl:sF F 1 ul lo.length (ic lo)) (hh:sF F 1 uh hi.length (ic hi)) (hk:sF F 1 uk key.length (ic key)) (hll:lo.length≤140737488351232)
  (k:∀ N',N≤N'→(Hp.mk F M N').wf→K (.bool (zcm lo hi key)) ⟨F,M,N'⟩) :
  za2 Tryz.prog (.func (.func 176) #[] #[]) #[ul,uh,uk] K E ⟨F,M,N⟩:=by
 refine za3 mixed Tryz.func176 (by kernel_rfl) (yo8 _ E _ _ _) (fun hw=>?_)
 have hlv:za9 ul=some (.int .i64 (lo.length:Nat)):=by obtain ⟨a,c,rfl,_⟩:=hl.form; rfl
 have hhv:za9 uh=some (.int .i64 (hi.length:Nat)):=by obtain ⟨a,c,rfl,_⟩:=hh.form; rfl
 have hkv:za9 uk=some (.int .i64 (key.length:Nat)):=by obtain ⟨a,c,rfl,_⟩:=hk.form; rfl
 have fin:∀ v',v'=zcm lo hi key→∀ N',N≤N'→∀ h',h'=(⟨F,M,N'⟩:Hp)→h'.wf→∃ h'',h'.wk h''∧(h''.wf→K (.bool v') h''):=fun v' e N' hN h' e' hc=>by
  subst e; subst e'
  exact ⟨_,za0 hc,fun hw'=>k _ hN hw'⟩
 refine zaa hlv (zaa hhv ?_)
 refine zc9 (fun h1=>?_) (fun h1=>?_)
 ·try simp only [sS]
  exact fin _ (by unfold zcm; rw [decide_eq_false (by omega)]; rfl) _ (Nat.le_refl _) _ rfl
 try simp only [sS]
 refine zaa hlv (zaa hkv ?_)
 refine zc9 (fun h2=>?_) (fun h2=>?_)
 ·try simp only [sS]
  exact fin _ (by unfold zcm; rw [decide_eq_false (by omega)]; rfl) _ (Nat.le_refl _) _ rfl
 try simp only [sS]
 have hb:zcm lo hi key=(List.range lo.length).all fun i=>decide (lo.getD i 0≤key.getD i 0∧key.getD i 0<hi.getD i 0):=by
  unfold zcm
  rw [decide_eq_true ⟨by omega,by omega⟩,Bool.true_and]
 rw [hb] at fin
 refine zrh (σ:=Nat) (fun i=>.int .i64 (i:Nat)) (fun i h=>h=⟨F,M,N⟩∧i≤lo.length∧((List.range i).all fun i=>decide (lo.getD i 0≤key.getD i 0∧key.getD i 0<hi.getD i 0))=true) (fun i=>lo.length - i) 0 rfl
  (fun hw1=>⟨_,za0 hw1,rfl,Nat.zero_le _,rfl⟩) (fun k1 i j h1 hI hw1 next=>?_)
 rw [zs3]
 obtain ⟨rfl,hi',he⟩:=hI
 refine zaa hlv ?_
 refine zaf (fun hlt=>?_) (fun hge=>?_)
 ·have i1:i<lo.length:=by omega
  have i2:i<hi.length:=by omega
  have i3:i<key.length:=by omega
  have hp:decide (lo.getD i 0≤key.getD i 0∧key.getD i 0<hi.getD i 0)=decide (lo[i]≤key[i]∧key[i]<hi[i]):=by
   rw [zb0 i1,zb0 i2,zb0 i3]
  try simp only [sS]
  refine zax hk i3 fun p=>zax hl i1 fun p=>?_
  refine zaf (fun h4=>?_) (fun h4=>?_)
  ·try simp only [sS]
   exact fin _ (zcs i1 (by rw [hp]; exact decide_eq_false (by omega))).symm _ (Nat.le_refl _) _ rfl
  try simp only [sS]
  refine zax hk i3 fun p=>zax hh i2 fun p=>?_
  refine ze1 (fun h5=>?_) (fun h5=>?_)
  ·try simp only [sS]
   exact fin _ (zcs i1 (by rw [hp]; exact decide_eq_false (by omega))).symm _ (Nat.le_refl _) _ rfl
  try simp only [sS]
  refine zai (by omega) ?_
  exact next (i+1) _ _ (by omega) (fun hw3=>⟨_,za0 hw3,rfl,i1,zf4 he (by rw [hp]; exact decide_eq_true ⟨by omega,by omega⟩)⟩)
 ·try simp only [sS]
  rw [show i=lo.length by omega] at he
  exact fin _ he.symm _ (Nat.le_refl _) _ rfl
def zfs (lo hi:List Int) (t:List Rw):List Rw:=t.filter fun r=>zcm lo hi r.1
theorem zji (lo hi:List Int) (t:List Rw):(zfs lo hi t).length≤t.length:=List.length_filter_le _ _
theorem zsz {lo hi:List Int} {t:List Rw} {i:Nat} (h:i<t.length) (hp:zcm lo hi t[i].1=true):zfs lo hi (t.take (i+1))=zfs lo hi (t.take i)++[t[i]]:=by
 unfold zfs
 rw [List.take_add_one,List.getElem?_eq_getElem h,Option.toList_some,List.filter_append]
 simp [hp]
theorem zu3 {lo hi:List Int} {t:List Rw} {i:Nat} (h:i<t.length) (hp:zcm lo hi t[i].1=false):zfs lo hi (t.take (i+1))=zfs lo hi (t.take i):=by
 unfold zfs
 rw [List.take_add_one,List.getElem?_eq_getElem h,Option.toList_some,List.filter_append]
 simp [hp]
set_option maxRecDepth 10000 in
theorem yev {v ul uh:Value} {t:List Rw} {lo hi:List Int} (hv:zbt F v t) (hl:sF F 1 ul lo.length (ic lo)) (hh:sF F 1 uh hi.length (ic hi)) (hll:lo.length≤140737488351232) (hhl:hi.length≤140737488351232) (htl:t.length≤1000000000) (hk:∀ r∈t,r.1.length≤10000000000)
  (k:∀ v' F' N',(Hp.mk F' M N').wf→zac F F'→N≤N'→zbt F' v' (zfs lo hi t)→K v' ⟨F',M,N'⟩) :
  za2 Tryz.prog (.func (.func 106) #[] #[]) #[v,ul,uh] K E ⟨F,M,N⟩:=by
 refine za3 mixed Tryz.func106 (by kernel_rfl) (ysl _ E _ _ _) (fun hw=>?_)
 have hm:za7 M N:=hw.m
 obtain ⟨trs,hvs,hrs⟩:=hv
 refine zam hvs ?_
 refine zrd (σ:=Nat×Value) (fun s=>s.2) (fun s=>.int .i64 (s.1:Nat))
  (fun s h=>∃ F' M' N' rows,h=⟨F',M',N'⟩∧zac F F'∧N≤N'∧(∀ q,q<N→M' q=M q)∧za7 M' N'∧s.1≤t.length∧own M' N 110 5 s.2 (zfs lo hi (t.take s.1)).length rows.flatten∧zad (zd5 F') 5 rows (zfs lo hi (t.take s.1))) (fun s=>t.length - s.1) (0,.slice none 0 0) rfl rfl
  (fun hw1=>⟨_,za0 hw1,F,M,N,[],rfl,zac.refl _,Nat.le_refl _,fun _ _=>rfl,hm,Nat.zero_le _,own.nil,zad.nil _ _⟩) (fun k1 s j h1 hI hw1 next=>?_)
 rw [zs9]
 obtain ⟨F1,M1,N1,rows,rfl,hF1,hN1,hM1,hm1,hi',ho,hr⟩:=hI
 have hcl:=zji lo hi (t.take s.1)
 rw [List.length_take] at hcl
 refine zaf (fun hlt=>?_) (fun hge=>?_)
 ·have h1:s.1<t.length:=by omega
  try simp only [sS]
  refine zcr (hvs.mono hF1) (hrs.mono fun _ _ h=>h.mono hF1) (by decide) h1 (fun p r _ hR hrl hr1=>?_)
  obtain ⟨kv,hre,hkv,hkl⟩:=hR
  subst hre
  refine zal (fun b1 hb1=>?_)
  refine stM (cs':=kv::t[s.1].2.cs) ?_ (za5 _ _ _) rfl rfl hr1
  refine zaa rfl (ldM (v:=kv) ?_)
  rw [zbe]
  have hM2:∀ q,q<N→upd M1 b1 (some (.cells 110 (kv::t[s.1].2.cs) 5)) q=M q:=fun q hq=>(za4 _ _ (by omega)).trans (hM1 q hq)
  have hb2:=za5 M1 b1 (some (.cells 110 (kv::t[s.1].2.cs) 5))
  have ho2:=ho.box hm1 hb1 (some (.cells 110 (kv::t[s.1].2.cs) 5))
  refine yjm (hl.mono hF1) (hh.mono hF1) hkv hll hhl hkl (fun F2 N2 hw2 hF2 hN2=>?_)
  have hm2:za7 (upd M1 b1 (some (.cells 110 (kv::t[s.1].2.cs) 5))) N2:=hw2.m
  generalize upd M1 b1 _=M2 at *
  cases hp:zcm lo hi t[s.1].1
  ·try simp only [sS]
   rw [zhz]
   refine zai (by omega) ?_
   refine next (s.1+1,s.2) _ _ (by simp only; omega) (fun hw3=>⟨_,za0 hw3,F2,M2,N2,rows,rfl,hF1.trans hF2,by omega,hM2,hm2,h1,?_,?_⟩)
   ·simp only; rw [zu3 h1 hp]; exact ho2
   ·simp only; rw [zu3 h1 hp]; exact hr.mono fun _ _ h=>h.mono hF2
  ·try simp only [sS]
   refine ldM (v:=kv) ?_ hb2
   try simp only [sS]
   refine zas (vs:=t[s.1].2.cs) ?_ hb2
   refine zmg hm2 (hkv.mono hF2).sR (by have := hk _ (List.getElem_mem h1); omega) (fun kv' F3 N3 hw3 hF3 hN3 hkv'=>?_)
   refine ⟨zfx (zaq hb2) (by exact Nat.le_of_ble_eq_true rfl) rfl,?_⟩
   have hrc:=zlr (c:=t[s.1].2) hkv'
   obtain ⟨ak,ck,hkf,hck⟩:=hkv'.form
   refine zaa (v:=.agg (kv'::t[s.1].2.cs).toArray) (by rw [hkf]; kernel_rfl) ?_
   refine zcq (new:=kv'::t[s.1].2.cs) ho2 hw3.m (by omega) (by rw [hkf]; kernel_rfl) hrc.1 hrc.2 (by omega) (by unfold maxLen; omega) (fun p v' M4 N4 h4 h5 h6 h7=>?_)
   rw [zhz]
   refine zai (by omega) ?_
   refine next (s.1+1,v') _ _ (by simp only; omega) (fun hw5=>⟨_,za0 hw5,F3,M4,N4,rows++[kv'::t[s.1].2.cs],rfl,(hF1.trans hF2).trans hF3,by omega,fun q hq=>?_,h7,h1,?_,?_⟩)
   ·exact ((h5 q (fun e=>by have := (ho2.ge q e).1; omega) (by omega)).1).trans (hM2 q hq)
   ·simp only; rw [zsz h1 hp,List.length_append]; simpa using h4
   ·simp only
    rw [zsz h1 hp]
    exact zau (hr.mono fun _ _ h=>h.mono (hF2.trans hF3)) hrc ⟨kv',rfl,hkv',hkl⟩
 ·try simp only [sS]
  rw [List.take_of_length_le (by omega)] at ho hr
  exact fun hc=>⟨_,zb7 hm hM1 hc,fun hw'=>k _ _ _ hw' (hF1.trans (zag hc)) hN1 (zmo hc ho hr)⟩
set_option maxRecDepth 10000 in
theorem yls {v ul uh:Value} {t:List Rw} {lo hi:List Int} (hv:zbt F v t) (hl:sF F 1 ul lo.length (ic lo)) (hh:sF F 1 uh hi.length (ic hi)) (hll:lo.length≤140737488351232) (htl:t.length≤1000000000) (hk:∀ r∈t,r.1.length≤10000000000)
  (k:∀ v' F' N',(Hp.mk F' M N').wf→zac F F'→N≤N'→zbt F' v' (zfs lo hi t)→K v' ⟨F',M,N'⟩) :
  za2 Tryz.prog (.func (.func 149) #[] #[]) #[v,ul,uh] K E ⟨F,M,N⟩:=by
 refine za3 mixed Tryz.func149 (by kernel_rfl) (yrz _ E _ _ _) (fun hw=>?_)
 have hm:za7 M N:=hw.m
 obtain ⟨trs,hvs,hrs⟩:=hv
 have hlv:za9 v=some (.int .i64 (t.length:Nat)):=by obtain ⟨a,c,rfl,_⟩:=hvs.form; rfl
 refine zrc (σ:=Nat×Value) (fun s=>s.2) (fun s=>.int .i64 (s.1:Nat))
  (fun s h=>∃ F' M' N' rows,h=⟨F',M',N'⟩∧zac F F'∧N≤N'∧(∀ q,q<N→M' q=M q)∧za7 M' N'∧s.1≤t.length∧own M' N 110 5 s.2 (zfs lo hi (t.take s.1)).length rows.flatten∧zad (zd5 F') 5 rows (zfs lo hi (t.take s.1))) (fun s=>t.length - s.1) (0,.slice none 0 0) rfl rfl
  (fun hw1=>⟨_,za0 hw1,F,M,N,[],rfl,zac.refl _,Nat.le_refl _,fun _ _=>rfl,hm,Nat.zero_le _,own.nil,zad.nil _ _⟩) (fun k1 s j h1 hI hw1 next=>?_)
 rw [zrv]
 obtain ⟨F1,M1,N1,rows,rfl,hF1,hN1,hM1,hm1,hi',ho,hr⟩:=hI
 have hcl:=zji lo hi (t.take s.1)
 rw [List.length_take] at hcl
 refine zaa hlv ?_
 refine zaf (fun hlt=>?_) (fun hge=>?_)
 ·have h1:s.1<t.length:=by omega
  have hvs1:=hvs.mono hF1
  have hrs1:zad (zd5 F1) 5 trs t:=hrs.mono fun _ _ h=>h.mono hF1
  try simp only [sS]
  refine zi2 hvs1 hrs1 h1 fun p q kv hkv hkl=>?_
  refine yfw (hl.mono hF1) (hh.mono hF1) hkv hll (fun N2 hN2 hw2=>?_)
  have hm2:za7 M1 N2:=hw2.m
  cases hp:zcm lo hi t[s.1].1
  ·try simp only [sS]
   rw [ziu]
   refine zai (by omega) ?_
   refine next (s.1+1,s.2) _ _ (by simp only; omega) (fun hw3=>⟨_,za0 hw3,F1,M1,N2,rows,rfl,hF1,by omega,hM1,hm2,h1,?_,?_⟩)
   ·simp only; rw [zu3 h1 hp]; exact ho
   ·simp only; rw [zu3 h1 hp]; exact hr
  ·try simp only [sS]
   refine zi2 hvs1 hrs1 h1 fun p q kv hkv hkl=>?_
   have hkl2:=hk _ (List.getElem_mem h1)
   refine (own.nil (B:=N2)).app hm2 (Nat.le_refl _) hkv.sR (zg5 _) (by omega) (by unfold maxLen; omega) (fun kv' M3 N3 h4 h5 h6 h7=>?_)
   rw [Nat.zero_add,List.nil_append] at h4
   refine zpc hvs1 hrs1 h1 fun p q=>?_
   obtain ⟨ak,ck,hkf,hck⟩:=h4.form
   have hrc:(kv'::t[s.1].2.cs).length=5∧∀ x∈kv'::t[s.1].2.cs,x.oneCell'=true:=by rw [hkf]; exact ⟨rfl,List.all_eq_true.1 rfl⟩
   have hon:∀ q,kv'.ownBlock=some q→N2≤q∧q<N3:=fun q e=>⟨(h4.ge q e).1,h4.lt h7 q e⟩
   have hos:∀ q,s.2.ownBlock=some q→q<N2:=fun q e=>ho.lt hm2 q e
   refine zaa (v:=.agg (kv'::t[s.1].2.cs).toArray) (by rw [hkf]; kernel_rfl) ?_
   refine zcq (new:=kv'::t[s.1].2.cs) (ho.keep (fun q hq=>(h5 q (by simp [Value.ownBlock]) (hos q hq)).1) (Nat.le_refl _)) h7 (by omega) (by rw [hkf]; kernel_rfl) hrc.1 hrc.2 (by omega) (by unfold maxLen; omega) (fun p v' M4 N4 g4 g5 g6 g7=>?_)
   rw [ziu]
   refine zai (by omega) ?_
   have h8:own M4 N2 3 1 kv' t[s.1].1.length (ic t[s.1].1):=h4.keep (fun q hq=>(g5 q (fun e=>by have := hos q e; have := hon q hq; omega) (hon q hq).2).1) (Nat.le_refl _)
   have hne:∀ q,v'.ownBlock=some q→¬ kv'.ownBlock=some q:=fun q e e'=>(g5 q (fun e2=>by have := hos q e2; have := hon q e'; omega) (hon q e').2).2 e
   refine next (s.1+1,v') _ _ (by simp only; omega) (fun hw5=>⟨_,zgw (p:=fun q=>kv'.ownBlock=some q) hw5,frzP F1 M4 (fun q=>kv'.ownBlock=some q),zbj M4 (fun q=>¬ kv'.ownBlock=some q),N4,rows++[kv'::t[s.1].2.cs],rfl,hF1.trans (zbd hw5),by omega,fun q hq=>?_,zcl g7,h1,?_,?_⟩)
   ·rw [zay (fun e=>by have := hon q e; omega)]
    have e1:kv'.ownBlock≠some q:=fun e=>by have := hon q e; omega
    exact ((g5 q (fun e=>by have := (ho.ge q e).1; omega) (by omega)).1).trans (((h5 q (by simp [Value.ownBlock]) (by omega)).1).trans (hM1 q hq))
   ·simp only; rw [zsz h1 hp,List.length_append]
    refine own.keep ?_ (fun q hq=>zay (hne q hq)) (Nat.le_refl _)
    simpa using g4
   ·simp only
    rw [zsz h1 hp]
    exact zau (hr.mono fun _ _ h=>h.mono (zbd hw5)) hrc ⟨kv',rfl,h8.frzP (fun q h=>h),hkl⟩
 ·try simp only [sS]
  rw [List.take_of_length_le (by omega)] at ho hr
  exact fun hc=>⟨_,zb7 hm hM1 hc,fun hw'=>k _ _ _ hw' (hF1.trans (zag hc)) hN1 (zmo hc ho hr)⟩
def lvP (l:List Dm) (m:List Int) (i:Nat):Bool:=decide (0≤m.getD i 0∧m.getD i 0<((l.getD i (0,[])).2.length+2:Nat))
def zho (l:List Dm) (m:List Int):Bool:=decide (m.length=l.length)&&(List.range l.length).all (lvP l m)
theorem ymv {cs:List Value} {d:Dm} {n:Int} (hd:zfh F cs d) (k:∀ N',N≤N'→(Hp.mk F M N').wf→K (.bool (decide (0≤n∧n<(d.2.length+2:Nat)))) ⟨F,M,N'⟩) :
  za2 Tryz.prog (.func (.func 133) #[] #[]) #[.agg cs.toArray,.int .i64 n] K E ⟨F,M,N⟩:=by
 refine za3 mixed Tryz.func133 (by kernel_rfl) (ypc _ E _ _) (fun hw=>?_)
 have hm:=hw.m
 have hd':=hd
 obtain ⟨v,rfl,hv,hvl⟩:=hd
 refine zal (cs:=[.int .i64 d.1,v]) (fun b hb=>?_)
 refine ze1 (fun h1=>?_) (fun h1=>?_)
 ·try simp only [sS]
  refine zas (vs:=[.int .i64 d.1,v]) ?_
  refine zr5 hd' (fun N1 hN1 hw1=>?_)
  refine zaf (fun h2=>?_) (fun h2=>?_)
  ·try simp only [sS]
   rw [decide_eq_true ⟨h1,h2⟩] at k
   exact fun hc=>⟨⟨F,M,N1⟩,zc3 hc,fun hw'=>k _ (by omega) hw'⟩
  ·try simp only [sS]
   rw [decide_eq_false fun q=>h2 q.2] at k
   exact fun hc=>⟨⟨F,M,N1⟩,zc3 hc,fun hw'=>k _ (by omega) hw'⟩
 ·try simp only [sS]
  rw [decide_eq_false fun q=>h1 q.1] at k
  exact fun hc=>⟨⟨F,M,b+1⟩,zc3 hc,fun hw'=>k _ (by omega) hw'⟩
theorem ynk {v u:Value} {l:List Dm} {m:List Int} (hv:zbl F v l) (hu:sF F 1 u m.length (ic m)) (hl:l.length≤140737488351232) (k:∀ N',N≤N'→(Hp.mk F M N').wf→K (.bool (zho l m)) ⟨F,M,N'⟩) :
  za2 Tryz.prog (.func (.func 86) #[] #[]) #[v,u,.func (.func 133) #[] #[]] K E ⟨F,M,N⟩:=by
 refine za3 mixed Tryz.func86 (by kernel_rfl) (t86 _ E _ _ _) (fun hw=>?_)
 have hm:za7 M N:=hw.m
 have hlv:za9 v=some (.int .i64 (l.length:Nat)):=by obtain ⟨a,c,rfl⟩:=hv.form; rfl
 have hlu:za9 u=some (.int .i64 (m.length:Nat)):=by obtain ⟨a,c,rfl,_⟩:=hu.form; rfl
 have fin:∀ v',v'=zho l m→∀ N',N≤N'→∀ h',h'=(⟨F,M,N'⟩:Hp)→h'.wf→∃ h'',h'.wk h''∧(h''.wf→K (.bool v') h''):=fun v' e N' hN h' e' hc=>by
  subst e; subst e'
  exact ⟨_,za0 hc,fun hw'=>k _ hN hw'⟩
 unfold zho at fin
 refine zaa hlv (zaa hlu ?_)
 refine zc9 (fun h1=>?_) (fun h1=>?_)
 ·try simp only [sS]
  exact fin _ (by rw [decide_eq_false (by omega)]; rfl) _ (Nat.le_refl _) _ rfl
 rw [decide_eq_true (by omega),Bool.true_and] at fin
 try simp only [sS]
 refine zaa hlv ?_
 obtain ⟨rows,hv1,hv2⟩:=hv
 refine zls (σ:=Nat) (fun i=>.int .i64 (i:Nat)) (fun i h=>∃ N',h=⟨F,M,N'⟩∧N≤N'∧i≤l.length∧(List.range i).all (lvP l m)=true) (fun i=>l.length - i) 0 rfl
  (fun hw1=>⟨_,za0 hw1,N,rfl,Nat.le_refl _,Nat.zero_le _,rfl⟩) (fun k1 i j h1' hI hw1 next=>?_)
 rw [zlc]
 obtain ⟨N1,rfl,hN1,hi,he⟩:=hI
 have hm1:za7 M N1:=hw1.m
 refine zaf (fun hlt=>?_) (fun hge=>?_)
 ·have i1:i<l.length:=by omega
  have i2:i<m.length:=by omega
  try simp only [sS]
  refine zcr hv1 hv2 (by decide) i1 fun p r _ hR hr2 hr1=>?_
  have hR':=hR
  obtain ⟨kv,hre,hkv,hkl⟩:=hR
  subst hre
  refine zal (fun b1 hb1=>?_)
  refine stM (cs':=[.int .i64 l[i].1,kv]) ?_ (za5 _ _ _) rfl rfl hr1
  rw [zbe]
  refine zax hu i2 fun p=>?_
  refine zas (vs:=[.int .i64 l[i].1,kv]) ?_
  refine ymv hR' (fun N2 hN2 hw2=>?_)
  have hp:lvP l m i=decide (0≤m[i]∧m[i]<(l[i].2.length+2:Nat)):=by
   unfold lvP
   rw [zb0 i1,zb0 i2]
  rw [← hp]
  have hdrop:∀ {h:Hp},h=(⟨F,upd M b1 (some (.cells 88 [.int .i64 l[i].1,kv] 2)),N2⟩:Hp)→h.wf→h.wk ⟨F,M,N2⟩:=fun e hc=>by subst e; exact zbp hc (zav (zb6 _) (hm1 _ hb1))
  cases hpi:lvP l m i
  ·try simp only [sS]
   refine fun hc=>⟨⟨F,M,N2⟩,hdrop rfl hc,fun hw'=>?_⟩
   have := k N2 (by omega) hw'
   rw [show zho l m=false by unfold zho; rw [zcs i1 hpi]; simp] at this
   exact this
  ·try simp only [sS]
   refine zai (by omega) ?_
   exact next (i+1) _ _ (by omega) (fun hw3=>⟨⟨F,M,N2⟩,hdrop rfl hw3,N2,rfl,by omega,i1,zf4 he hpi⟩)
 ·try simp only [sS]
  rw [show i=l.length by omega] at he
  exact fin _ he.symm _ hN1 _ rfl
def zfa (F:Nat→Option (List Value)) (cs:List Value) (m lo hi:List Int):Prop:=∃ a b c,cs=[a,b,c]∧sF F 1 a m.length (ic m)∧sF F 1 b lo.length (ic lo)∧sF F 1 c hi.length (ic hi)∧m.length≤140737488351232∧lo.length≤140737488351232∧hi.length≤140737488351232
theorem zfa.mono {cs:List Value} {m lo hi:List Int} (h:zfa F cs m lo hi) (hF:zac F F'):zfa F' cs m lo hi:=let ⟨a,b,c,e,h1,h2,h3,h4⟩:=h; ⟨a,b,c,e,h1.mono hF,h2.mono hF,h3.mono hF,h4⟩
def zdg (l:List Dm) (m lo hi:List Int):Nat:=if zbh l=false then 30 else if zho l m=false then 40 else if zfc l lo hi=false then 60 else 0
theorem yla {u:Value} {cs:List Value} {l:List Dm} {m lo hi:List Int} (hu:zbl F u l) (hl:l.length≤140737488351232) (hq:zfa F cs m lo hi)
  (k:∀ F' N',(Hp.mk F' M N').wf→zac F F'→N≤N'→K (.int .u16 ((zdg l m lo hi:Nat):Int)) ⟨F',M,N'⟩) :
  za2 Tryz.prog (.func (.func 103) #[] #[]) #[u,.agg cs.toArray] K E ⟨F,M,N⟩:=by
 refine za3 mixed Tryz.func103 (by kernel_rfl) (yre _ E _ _) (fun hw=>?_)
 have hm:za7 M N:=hw.m
 obtain ⟨a,b,c,rfl,ha,hb,hc,hml,hlol,hhil⟩:=hq
 refine zal (cs:=[a,b,c]) (fun b1 hb1=>?_)
 have fin:∀ n,n=zdg l m lo hi→∀ F' N',zac F F'→N≤N'→∀ h',h'=(⟨F',upd M b1 (some (.cells 55 [a,b,c] 3)),N'⟩:Hp)→h'.wf→∃ h'',h'.wk h''∧(h''.wf→K (.int .u16 ((n:Nat):Int)) h''):=fun n e F' N' hF hN h' e' hc=>by
  subst e; subst e'
  exact ⟨⟨F',M,N'⟩,zbp hc (zav (zb6 _) (hm _ hb1)),fun hw'=>k _ _ hw' hF hN⟩
 unfold zdg at fin
 refine zmy hu hl (fun N1 hN1 hw1=>?_)
 cases h1:zbh l
 ·try simp only [sS]
  exact fin 30 (by rw [h1]; rfl) F N1 (zac.refl _) (by omega) _ rfl
 rw [h1,if_neg (by decide)] at fin
 try simp only [sS]
 refine ldM (v:=a) ?_
 refine ynk hu ha hl (fun N2 hN2 hw2=>?_)
 cases h2:zho l m
 ·try simp only [sS]
  exact fin 40 (by rw [h2]; rfl) F N2 (zac.refl _) (by omega) _ rfl
 rw [h2,if_neg (by decide)] at fin
 try simp only [sS]
 refine ldM (v:=b) ?_
 try simp only [sS]
 refine ldM (v:=c) ?_
 refine yem hu hb hc hlol hhil (fun F3 N3 hw3 hF3 hN3=>?_)
 cases h3:zfc l lo hi
 ·try simp only [sS]
  exact fin 60 (by rw [h3]; rfl) F3 N3 hF3 (by omega) _ rfl
 rw [h3,if_neg (by decide)] at fin
 try simp only [sS]
 exact fin 0 rfl F3 N3 hF3 (by omega) _ rfl
theorem yhi {u:Value} {cs:List Value} {l:List Dm} {m lo hi:List Int} (hu:zbl F u l) (hl:l.length≤140737488351232) (hq:zfa F cs m lo hi)
  (k:∀ N',(Hp.mk F M N').wf→N≤N'→K (.int .i64 ((zdg l m lo hi:Nat):Int)) ⟨F,M,N'⟩) :
  za2 Tryz.prog (.func (.func 146) #[] #[]) #[u,.agg cs.toArray] K E ⟨F,M,N⟩:=by
 refine za3 mixed Tryz.func146 (by kernel_rfl) (yt2 _ E _ _) (fun hw=>?_)
 have hm:za7 M N:=hw.m
 obtain ⟨a,b,c,rfl,ha,hb,hc,hml,hlol,hhil⟩:=hq
 refine zal (cs:=[a,b,c]) (fun b1 hb1=>?_)
 have fin:∀ n,n=zdg l m lo hi→∀ N',N≤N'→∀ h',h'=(⟨F,upd M b1 (some (.cells 55 [a,b,c] 3)),N'⟩:Hp)→h'.wf→∃ h'',h'.wk h''∧(h''.wf→K (.int .i64 ((n:Nat):Int)) h''):=fun n e N' hN h' e' hc=>by
  subst e; subst e'
  exact ⟨⟨F,M,N'⟩,zbp hc (zav (zb6 _) (hm _ hb1)),fun hw'=>k _ hw' hN⟩
 have hlu:za9 u=some (.int .i64 (l.length:Nat)):=by obtain ⟨a,c,rfl⟩:=hu.form; rfl
 have hla:za9 a=some (.int .i64 (m.length:Nat)):=by obtain ⟨a,c,rfl,_⟩:=ha.form; rfl
 unfold zdg at fin
 refine zlk hu hl (fun N1 hN1 hw1=>?_)
 cases h1:zbh l
 ·try simp only [sS]
  exact fin 30 (by rw [h1]; rfl) N1 (by omega) _ rfl
 rw [h1,if_neg (by decide)] at fin
 try simp only [sS]
 refine ldM (v:=a) (zaa hla (zaa hlu ?_))
 refine zc9 (fun h2=>?_) (fun h2=>?_)
 ·try simp only [sS]
  exact fin 40 (by rw [if_pos (by unfold zho; rw [decide_eq_false (by omega)]; rfl)]) N1 (by omega) _ rfl
 have hlv:zho l m=(List.range l.length).all (lvP l m):=by unfold zho; rw [decide_eq_true (by omega),Bool.true_and]
 rw [hlv] at fin
 try simp only [sS]
 have hu':=hu
 obtain ⟨rows,hu1,hu2⟩:=hu'
 refine zot (σ:=Nat) (fun i=>.int .i64 (i:Nat)) (fun i h=>∃ N',h=⟨F,upd M b1 (some (.cells 55 [a,b,c] 3)),N'⟩∧N≤N'∧i≤l.length∧(List.range i).all (lvP l m)=true) (fun i=>l.length - i) 0 rfl
  (fun hw1=>⟨_,za0 hw1,N1,rfl,by omega,Nat.zero_le _,rfl⟩) (fun k1 i j h1' hI hw1 next=>?_)
 rw [zol]
 obtain ⟨N2,rfl,hN2,hii,he⟩:=hI
 refine zaa hlu ?_
 refine zaf (fun hlt=>?_) (fun hge=>?_)
 ·have i1:i<l.length:=by omega
  have i2:i<m.length:=by omega
  have hp:lvP l m i=decide (0≤m[i]∧m[i]<(l[i].2.length+2:Nat)):=by
   unfold lvP
   rw [zb0 i1,zb0 i2]
  try simp only [sS]
  refine ldM (v:=a) (zax ha i2 fun p=>?_)
  refine zaf (fun h6=>?_) (fun h6=>?_)
  ·try simp only [sS]
   refine ⟨fun h=>by simp [isB] at h,fun h=>by simp [isB] at h,?_⟩
   exact fin 40 (by rw [if_pos (zcs i1 (by rw [hp]; exact decide_eq_false (by omega)))]) _ hN2 _ rfl
  try simp only [sS]
  refine ldM (v:=a) ?_
  obtain ⟨bb,bo,bc,bcs,hvb,hbF,hbx⟩:=zpp ha i2
  subst hvb
  refine zbz i2 (zfj (zao (zdi hbF) hbx) ?_)
  refine zcr hu1 hu2 (by decide) i1 fun p r _ hR hr2 hr1=>?_
  refine zlq hR (fun N3 hN3 hw3=>?_)
  refine ⟨fun _=>zao (zdi hbF) hbx,fun _=>zao (zaq (za5 _ _ _)) rfl,?_⟩
  refine ze1 (fun h8=>?_) (fun h8=>?_)
  ·try simp only [sS]
   exact fin 40 (by rw [if_pos (zcs i1 (by rw [hp]; exact decide_eq_false (by omega)))]) _ (by omega) _ rfl
  try simp only [sS]
  refine zai (by omega) ?_
  exact next (i+1) _ _ (by omega) (fun hw3=>⟨_,za0 hw3,N3,rfl,by omega,i1,zf4 he (by rw [hp]; exact decide_eq_true ⟨by omega,by omega⟩)⟩)
 ·try simp only [sS]
  rw [show i=l.length by omega] at he
  rw [he,if_neg (by decide)] at fin
  try simp only [sS]
  refine ldM (v:=b) ?_
  try simp only [sS]
  refine ldM (v:=c) ?_
  refine yen hu hb hc hl (fun N3 hN3 hw3=>?_)
  cases h3:zfc l lo hi
  ·try simp only [sS]
   exact fin 60 (by rw [h3]; rfl) N3 (by omega) _ rfl
  rw [h3,if_neg (by decide)] at fin
  try simp only [sS]
  exact fin 0 rfl N3 (by omega) _ rfl
theorem zv4 {p:Int}:∀ {t:List Rw} {o:Option (List Int)},zgd p o t=true→(∀ r∈t,zf8 p r=true)∧srt t∧(∀ k,o=some k→∀ r∈t,zbn k r.1<0)
 | [],o,_=>⟨by simp,.nil,by simp⟩
 | r::t,o,h=>by
  unfold zgd at h
  rw [Bool.and_eq_true,Bool.and_eq_true] at h
  obtain ⟨⟨h1,h2⟩,h3⟩:=h
  obtain ⟨a,b,c⟩:=zv4 h3
  refine ⟨fun x hx=>?_,List.pairwise_cons.2 ⟨fun x hx=>c _ rfl x hx,b⟩,fun k hk x hx=>?_⟩
  ·rcases List.mem_cons.1 hx with rfl | hx
   ·exact h1
   ·exact a x hx
  ·subst hk
   have h4:=of_decide_eq_true h2
   rcases List.mem_cons.1 hx with rfl | hx
   ·exact h4
   ·exact ziw h4 (c _ rfl x hx)
theorem yds {p:Int} {t:List Rw} {lo hi:List Int} (h:zdy p t=true):zdy p (zfs lo hi t)=true:=by
 obtain ⟨a,b,_⟩:=zv4 (show zgd p none t=true from h)
 exact zx7 (fun r hr=>a r ((List.mem_filter.1 hr).1)) (List.Pairwise.filter _ b)
theorem ygo {l:List Dm} {m:List Int} (h:zho l m=true):m.length=l.length∧zjs l m:=by
 unfold zho at h
 rw [Bool.and_eq_true] at h
 obtain ⟨h1,h2⟩:=h
 refine ⟨of_decide_eq_true h1,fun i hi=>?_⟩
 have h3:=List.all_eq_true.1 h2 i (List.mem_range.2 hi)
 unfold lvP at h3
 rw [zb0 hi] at h3
 have := of_decide_eq_true h3
 omega
def zfu (l:List Dm) (t:List Rw) (m lo hi:List Int):List Rw:=zgl l (zfs lo hi t) (zcf l.length) m
def ze9 (l:List Dm) (t:List Rw) (m lo hi:List Int):Nat:=if zdg l m lo hi=0 then (if zdy l.length t=false then 1 else if (zfu l t m lo hi).length>500 then 61 else 0) else zdg l m lo hi
def zft (l:List Dm) (t:List Rw) (m lo hi:List Int):List Rw:=if ze9 l t m lo hi=0 then zfu l t m lo hi else []
theorem zpa {l:List Dm} {m lo hi:List Int} (h:zdg l m lo hi=0):zbh l=true∧zho l m=true∧zfc l lo hi=true:=by
 unfold zdg at h
 cases h1:zbh l
 ·rw [h1] at h; simp at h
 cases h2:zho l m
 ·rw [h1,h2] at h; simp at h
 cases h3:zfc l lo hi
 ·rw [h1,h2,h3] at h; simp at h
 exact ⟨rfl,rfl,rfl⟩
theorem ya1 {l:List Dm} {t:List Rw} {m lo hi:List Int} (h:zdg l m lo hi=0) (ht:zdy l.length t=true):zff l (zfs lo hi t) (zcf l.length) m=0:=by
 obtain ⟨h1,h2,h3⟩:=zpa h
 obtain ⟨h4,h5⟩:=ygo h2
 unfold zff
 rw [h1,yc9 (yae h4 h5),yds ht]; rfl
theorem yh5 (l:List Dm) (t:List Rw) (m lo hi:List Int):(zft l t m lo hi).length≤t.length:=by
 have h1:=zln l (zfs lo hi t) (zcf l.length) m
 have h2:=zji lo hi t
 unfold zft
 split
 ·unfold zfu; omega
 ·simp
theorem ykr {v:Value} {t:List Rw} (hv:zbt F v t) (k:K (if t.length>500 then .tuple #[.slice none 0 0,.int .u16 61] else .tuple #[v,.int .u16 0]) ⟨F,M,N⟩) :
  za2 Tryz.prog (.func (.func 107) #[] #[]) #[v] K E ⟨F,M,N⟩:=by
 refine za3 mixed Tryz.func107 (by kernel_rfl) (yq3 _ E _) (fun hw=>?_)
 have hlv:za9 v=some (.int .i64 (t.length:Nat)):=by obtain ⟨a,c,rfl⟩:=hv.form; rfl
 refine zaa hlv ?_
 refine zbu (fun h1=>?_) (fun h1=>?_)
 ·try simp only [sS]
  rw [if_pos (by omega)] at k
  exact fun hc=>⟨_,za0 hc,fun _=>k⟩
 ·try simp only [sS]
  rw [if_neg (by omega)] at k
  exact fun hc=>⟨_,za0 hc,fun _=>k⟩
set_option maxRecDepth 10000 in
theorem yo6 {u vt:Value} {cs:List Value} {l:List Dm} {t:List Rw} {m lo hi:List Int} (hu:zbl F u l) (hl:l.length≤140737488351232) (ht:zbt F vt t) (htl:t.length≤1000000000) (hq:zfa F cs m lo hi) (hmi:∀ x∈m,i64 x) (hti:∀ r∈t,∀ x∈r.1,i64 x) (hk':zdg l m lo hi=0→∀ r∈t,r.1.length≤10000000000)
  (k:∀ v' F' N',(Hp.mk F' M N').wf→zac F F'→N≤N'→zbt F' v' (zft l t m lo hi)→K (.tuple #[v',.int .u16 ((ze9 l t m lo hi:Nat):Int)]) ⟨F',M,N'⟩) :
  za2 Tryz.prog (.func (.func 73) #[] #[]) #[u,vt,.agg cs.toArray] K E ⟨F,M,N⟩:=by
 refine za3 mixed Tryz.func73 (by kernel_rfl) (t73 _ E _ _ _) (fun hw=>?_)
 have hm:za7 M N:=hw.m
 have hq':=hq
 obtain ⟨a,b,c,rfl,ha,hb,hc,hml,hlol,hhil⟩:=hq'
 have hlu:za9 u=some (.int .i64 (l.length:Nat)):=by obtain ⟨a,c,rfl⟩:=hu.form; rfl
 refine zal (cs:=[a,b,c]) (fun b1 hb1=>?_)
 refine zas (vs:=[a,b,c]) ?_
 have fin:∀ v' (n:Nat) F' M' N',n=ze9 l t m lo hi→zac F F'→N≤N'→(∀ q,q<N→M' q=M q)→zbt F' v' (zft l t m lo hi)→∀ h',h'=(⟨F',M',N'⟩:Hp)→h'.wf→∃ h'',h'.wk h''∧(h''.wf→K (.tuple #[v',.int .u16 ((n:Nat):Int)]) h''):=fun v' n F' M' N' e hF hN hM hv h' e' hc=>by
  subst e; subst e'
  exact ⟨_,zb7 hm hM hc,fun hw'=>k _ _ _ hw' (hF.trans (zag hc)) hN (hv.mono (zag hc))⟩
 have hM1:∀ q,q<N→upd M b1 (some (.cells 55 [a,b,c] 3)) q=M q:=fun q hq=>za4 _ _ (by omega)
 refine yla hu hl hq (fun F2 N2 hw2 hF2 hN2=>?_)
 refine zc9 (fun h1=>?_) (fun h1=>?_)
 ·try simp only [sS]
  have e1:zdg l m lo hi=ze9 l t m lo hi:=by unfold ze9; rw [if_neg (by omega)]
  refine fin _ _ _ _ _ e1 hF2 (by omega) hM1 ?_ _ rfl
  unfold zft; rw [if_neg (by omega)]; exact zbt.nil
 have hch:zdg l m lo hi=0:=by omega
 have hk:=hk' hch
 obtain ⟨hokd,hoklv,hokb⟩:=zpa hch
 have hl4:=zhf hokd
 try simp only [sS]
 refine zaa hlu ?_
 refine yad (ht.mono hF2) (by omega) (fun N3 hN3 hw3=>?_)
 cases hs:zdy l.length t
 ·try simp only [sS]
  have e1:1=ze9 l t m lo hi:=by unfold ze9; rw [if_pos hch,if_pos hs]
  refine fin _ 1 _ _ _ e1 hF2 (by omega) hM1 ?_ _ rfl
  unfold zft; rw [if_neg (by omega)]; exact zbt.nil
 have hre:=ya1 hch hs
 have hcl:=zji lo hi t
 have hrl:(zfu l t m lo hi).length≤t.length:=by unfold zfu; have := zln l (zfs lo hi t) (zcf l.length) m; omega
 have hrun:ze9 l t m lo hi=if (zfu l t m lo hi).length>500 then 61 else 0:=by unfold ze9; rw [if_pos hch,if_neg (by rw [hs]; decide)]
 have htci:∀ r∈zfs lo hi t,∀ x∈r.1,i64 x:=fun r hr=>hti r ((List.mem_filter.1 hr).1)
 try simp only [sS]
 refine ldM (v:=b) ?_
 try simp only [sS]
 refine ldM (v:=c) ?_
 refine zaa hlu ?_
 try simp only [sS]
 refine ldM (v:=a) ?_
 have last:∀ v' F' M' N',zac F F'→N≤N'→(∀ q,q<N→M' q=M q)→zbt F' v' (zfu l t m lo hi)→za2 Tryz.prog (.func (.func 107) #[] #[]) #[v'] (fun t23=>pv (exV 0 t23) fun t24=>pv (exV 1 t23) fun t25=>fun h=>h.wf→∃ h',h.wk h'∧(h'.wf→K (.tuple #[t24,t25]) h')) E ⟨F',M',N'⟩:=fun v' F' M' N' hF hN hM hv=>by
  refine ykr hv ?_
  split
  ·rename_i h500
   try simp only [sS]
   refine fin _ 61 _ _ _ (by rw [hrun,if_pos h500]) hF hN hM ?_ _ rfl
   unfold zft; rw [if_neg (by rw [hrun,if_pos h500]; decide)]; exact zbt.nil
  ·rename_i h500
   try simp only [sS]
   refine fin _ 0 _ _ _ (by rw [hrun,if_neg h500]) hF hN hM ?_ _ rfl
   unfold zft; rw [if_pos (by rw [hrun,if_neg h500])]; exact hv
 have FF:=hF2
 have hbox:=za5 M b1 (some (.cells 55 [a,b,c] 3))
 have hm1:za7 (upd M b1 (some (.cells 55 [a,b,c] 3))) N3:=hw3.m
 have hb13:b1<N3:=hm1.lt hbox
 generalize upd M b1 _=M1 at *
 refine ⟨?_,?_⟩
 ·refine yev (ht.mono hF2) (hb.mono hF2) (hc.mono hF2) hlol hhil htl hk (fun v4 F4 N4 hw4 hF4 hN4 hcut=>?_)
  refine ⟨zao (zaq hbox) rfl,?_⟩
  refine yjt (by omega) (fun b5 hb5=>?_)
  refine ⟨zao (zaq ((za4 _ _ (by omega)).trans hbox)) rfl,?_⟩
  refine zej (fun hc'=>⟨_,zgw (p:=fun q=>q=b5) hc',?_⟩)
  have hs5:=zbd (p:=fun q=>q=b5) hc'
  have hz:sF (frzP F4 (upd M1 b5 (some (.cells 3 (ic (zcf l.length)) l.length))) (fun q=>q=b5)) 1 (.slice (some ⟨b5,0,none⟩) l.length l.length) (zcf l.length).length (ic (zcf l.length)):=by
   rw [zon]; exact zhr (zik (p:=fun q=>q=b5) rfl (za5 _ _ _)) (by simp [ic,zcf]) (Nat.le_refl _)
  have hM5:∀ q,q<N→zbj (upd M1 b5 (some (.cells 3 (ic (zcf l.length)) l.length))) (fun q=>¬ q=b5) q=M q:=fun q hq=>(zay (by omega)).trans ((za4 _ _ (by omega)).trans (hM1 q hq))
  generalize frzP F4 _ _=F5 at *
  generalize zbj _ _=M5 at *
  have F25:=hF4.trans hs5
  refine yc1 ((hu.mono hF2).mono F25) hl (hcut.mono hs5) (by omega) hz ((ha.mono hF2).mono F25) hmi htci (fun v6 F6 N6 hw6 hF6 hN6 hr=>?_)
  rw [hre]
  try simp only [sS]
  refine zit (by simp) ?_
  try simp only [sS]
  exact last _ _ _ _ ((hF2.trans F25).trans hF6) (by omega) hM5 hr
 ·refine yjt (by omega) (fun b5 hb5=>?_)
  refine ⟨zao (zaq ((za4 _ _ (by omega)).trans hbox)) rfl,zao (zaq ((za4 _ _ (by omega)).trans hbox)) rfl,zao (zaq ((za4 _ _ (by omega)).trans hbox)) rfl,?_⟩
  refine zej (fun hc'=>⟨_,zgw (p:=fun q=>q=b5) hc',?_⟩)
  have hs5:=zbd (p:=fun q=>q=b5) hc'
  have hz:sF (frzP F2 (upd M1 b5 (some (.cells 3 (ic (zcf l.length)) l.length))) (fun q=>q=b5)) 1 (.slice (some ⟨b5,0,none⟩) l.length l.length) (zcf l.length).length (ic (zcf l.length)):=by
   rw [zon]; exact zhr (zik (p:=fun q=>q=b5) rfl (za5 _ _ _)) (by simp [ic,zcf]) (Nat.le_refl _)
  have hM5:∀ q,q<N→zbj (upd M1 b5 (some (.cells 3 (ic (zcf l.length)) l.length))) (fun q=>¬ q=b5) q=M q:=fun q hq=>(zay (by omega)).trans ((za4 _ _ (by omega)).trans (hM1 q hq))
  have hbox5:zbj (upd M1 b5 (some (.cells 3 (ic (zcf l.length)) l.length))) (fun q=>¬ q=b5) b1=some (.cells 55 [a,b,c] 3):=(zay (by omega)).trans ((za4 _ _ (by omega)).trans hbox)
  generalize frzP F2 _ _=F5 at *
  generalize zbj _ _=M5 at *
  refine yev ((ht.mono hF2).mono hs5) ((hb.mono hF2).mono hs5) ((hc.mono hF2).mono hs5) hlol hhil htl hk (fun v4 F4 N4 hw4 hF4 hN4 hcut=>?_)
  refine ⟨zao (zaq hbox5) rfl,?_⟩
  have F25:=hs5.trans hF4
  refine yc1 ((hu.mono hF2).mono F25) hl hcut (by omega) (hz.mono hF4) ((ha.mono hF2).mono F25) hmi htci (fun v6 F6 N6 hw6 hF6 hN6 hr=>?_)
  rw [hre]
  try simp only [sS]
  refine zit (by simp) ?_
  try simp only [sS]
  exact last _ _ _ _ ((hF2.trans F25).trans hF6) (by omega) hM5 hr
theorem ydj (n:Nat):ic (zcf (n+1))=ic (zcf n)++[.int .i64 0]:=by
 unfold zcf ic
 rw [List.replicate_succ',List.map_append]; rfl
set_option maxRecDepth 10000 in
theorem ylt {u vt:Value} {cs:List Value} {l:List Dm} {t:List Rw} {m lo hi:List Int} (hu:zbl F u l) (hl:l.length≤140737488351232) (ht:zbt F vt t) (htl:t.length≤1000000000) (hq:zfa F cs m lo hi) (hmi:∀ x∈m,i64 x) (hti:∀ r∈t,∀ x∈r.1,i64 x) (hk':zdg l m lo hi=0→∀ r∈t,r.1.length≤10000000000)
  (k:∀ v' F' N',(Hp.mk F' M N').wf→zac F F'→N≤N'→zbt F' v' (zft l t m lo hi)→K (.tuple #[v',.int .i64 ((ze9 l t m lo hi:Nat):Int)]) ⟨F',M,N'⟩) :
  za2 Tryz.prog (.func (.func 115) #[] #[]) #[u,vt,.agg cs.toArray] K E ⟨F,M,N⟩:=by
 refine za3 mixed Tryz.func115 (by kernel_rfl) (yqp _ E _ _ _) (fun hw=>?_)
 have hm:za7 M N:=hw.m
 have hq':=hq
 obtain ⟨a,b,c,rfl,ha,hb,hc,hml,hlol,hhil⟩:=hq'
 have hlu:za9 u=some (.int .i64 (l.length:Nat)):=by obtain ⟨a,c,rfl⟩:=hu.form; rfl
 refine zal (cs:=[a,b,c]) (fun b1 hb1=>?_)
 refine zas (vs:=[a,b,c]) ?_
 have fin:∀ v' (n:Nat) F' M' N',n=ze9 l t m lo hi→zac F F'→N≤N'→(∀ q,q<N→M' q=M q)→zbt F' v' (zft l t m lo hi)→∀ h',h'=(⟨F',M',N'⟩:Hp)→h'.wf→∃ h'',h'.wk h''∧(h''.wf→K (.tuple #[v',.int .i64 ((n:Nat):Int)]) h''):=fun v' n F' M' N' e hF hN hM hv h' e' hc=>by
  subst e; subst e'
  exact ⟨_,zb7 hm hM hc,fun hw'=>k _ _ _ hw' (hF.trans (zag hc)) hN (hv.mono (zag hc))⟩
 have hM1:∀ q,q<N→upd M b1 (some (.cells 55 [a,b,c] 3)) q=M q:=fun q hq=>za4 _ _ (by omega)
 refine yhi hu hl hq (fun N2 hw2 hN2=>?_)
 refine zc9 (fun h1=>?_) (fun h1=>?_)
 ·try simp only [sS]
  have e1:zdg l m lo hi=ze9 l t m lo hi:=by unfold ze9; rw [if_neg (by omega)]
  refine fin _ _ _ _ _ e1 (zac.refl _) (by omega) hM1 ?_ _ rfl
  unfold zft; rw [if_neg (by omega)]; exact zbt.nil
 have hch:zdg l m lo hi=0:=by omega
 have hk:=hk' hch
 obtain ⟨hokd,hoklv,hokb⟩:=zpa hch
 have hl4:=zhf hokd
 try simp only [sS]
 refine zaa hlu ?_
 refine zxp ht (by omega) (fun N3 hN3 hw3=>?_)
 cases hs:zdy l.length t
 ·try simp only [sS]
  have e1:1=ze9 l t m lo hi:=by unfold ze9; rw [if_pos hch,if_pos hs]
  refine fin _ 1 _ _ _ e1 (zac.refl _) (by omega) hM1 ?_ _ rfl
  unfold zft; rw [if_neg (by omega)]; exact zbt.nil
 have hre:=ya1 hch hs
 have hcl:=zji lo hi t
 have hrl:(zfu l t m lo hi).length≤t.length:=by unfold zfu; have := zln l (zfs lo hi t) (zcf l.length) m; omega
 have hrun:ze9 l t m lo hi=if (zfu l t m lo hi).length>500 then 61 else 0:=by unfold ze9; rw [if_pos hch,if_neg (by rw [hs]; decide)]
 have htci:∀ r∈zfs lo hi t,∀ x∈r.1,i64 x:=fun r hr=>hti r ((List.mem_filter.1 hr).1)
 try simp only [sS]
 have hbox:=za5 M b1 (some (.cells 55 [a,b,c] 3))
 have hm1:za7 (upd M b1 (some (.cells 55 [a,b,c] 3))) N3:=hw3.m
 have hb13:b1<N3:=hm1.lt hbox
 generalize upd M b1 _=M1 at *
 refine zlw (σ:=Nat×Value) (fun s=>s.2) (fun s=>.int .i64 (s.1:Nat))
  (fun s h=>∃ M' N',h=⟨F,M',N'⟩∧N3≤N'∧(∀ q,q<N3→M' q=M1 q)∧za7 M' N'∧s.1≤l.length∧own M' N3 3 1 s.2 s.1 (ic (zcf s.1))) (fun s=>l.length - s.1) (0,.slice none 0 0) rfl rfl
  (fun hw4=>⟨_,za0 hw4,M1,N3,rfl,Nat.le_refl _,fun _ _=>rfl,hm1,Nat.zero_le _,own.nil⟩) (fun k1 s j h1' hI hw4 next=>?_)
 rw [zm4]
 obtain ⟨M4,N4,rfl,hN4,hM4,hm4,hii,ho⟩:=hI
 refine zaa hlu ?_
 refine zaf (fun hlt=>?_) (fun hge=>?_)
 ·have i1:s.1<l.length:=by omega
  try simp only [sS]
  refine zcq (new:=[.int .i64 0]) ho hm4 (by omega) (by kernel_rfl) rfl (List.all_eq_true.1 rfl) (by omega) (by unfold maxLen; omega) (fun p v' M5 N5 h4 h5 h6 h7=>?_)
  refine zai (by omega) ?_
  refine next (s.1+1,v') _ _ (by simp only; omega) (fun hw5=>⟨_,za0 hw5,M5,N5,rfl,by omega,fun q hq=>?_,h7,i1,?_⟩)
  ·exact ((h5 q (fun e=>by have := (ho.ge q e).1; omega) (by omega)).1).trans (hM4 q hq)
  ·simp only; rw [ydj]; exact h4
 ·try simp only [sS]
  rw [show s.1=l.length by omega] at ho
  have hbox4:M4 b1=some (.cells 55 [a,b,c] 3):=(hM4 _ hb13).trans hbox
  try simp only [sS]
  refine ldM (v:=b) ?_ hbox4
  try simp only [sS]
  refine ldM (v:=c) ?_ hbox4
  try simp only [sS]
  refine ldM (v:=a) ?_ hbox4
  refine zej (fun hc'=>⟨_,zgw (p:=fun q=>s.2.ownBlock=some q) hc',?_⟩)
  have hs5:=zbd (p:=fun q=>s.2.ownBlock=some q) hc'
  have hz:sF (frzP F M4 (fun q=>s.2.ownBlock=some q)) 1 s.2 (zcf l.length).length (ic (zcf l.length)):=by rw [zon]; exact ho.frzP (fun q h=>h)
  have hnb:∀ q,q<N3→¬ s.2.ownBlock=some q:=fun q hq e=>by have := (ho.ge q e).1; omega
  have hM5:∀ q,q<N→zbj M4 (fun q=>¬ s.2.ownBlock=some q) q=M q:=fun q hq=>(zay (hnb q (by omega))).trans ((hM4 q (by omega)).trans (hM1 q hq))
  have hbox5:zbj M4 (fun q=>¬ s.2.ownBlock=some q) b1=some (.cells 55 [a,b,c] 3):=(zay (hnb b1 hb13)).trans hbox4
  generalize frzP F M4 _=F5 at *
  generalize zbj M4 _=M5 at *
  refine yls (ht.mono hs5) (hb.mono hs5) (hc.mono hs5) hlol htl hk (fun v6 F6 N6 hw6 hF6 hN6 hcut=>?_)
  refine ⟨zao (zaq hbox5) rfl,?_⟩
  have F56:=hs5.trans hF6
  refine yk5 (hu.mono F56) hl hcut (by omega) (hz.mono hF6) (ha.mono F56) hmi htci (fun v7 F7 N7 hw7 hF7 hN7 hr=>?_)
  rw [hre]
  try simp only [sS]
  refine zaa (v:=.int .i64 ((zfu l t m lo hi).length:Nat)) (by obtain ⟨a,c,h⟩:=hr.form; rw [h]; rfl) ?_
  refine zbu (fun h500=>?_) (fun h500=>?_)
  ·try simp only [sS]
   refine fin _ 61 _ _ _ (by rw [hrun,if_pos (by omega)]) (F56.trans hF7) (by omega) hM5 ?_ _ rfl
   unfold zft; rw [if_neg (by rw [hrun,if_pos (by omega)]; decide)]; exact zbt.nil
  ·try simp only [sS]
   refine fin _ 0 _ _ _ (by rw [hrun,if_neg (by omega)]) (F56.trans hF7) (by omega) hM5 ?_ _ rfl
   unfold zft; rw [if_pos (by rw [hrun,if_neg (by omega)])]; exact hr
def yt6 (l:List Dm) (m lo hi:List Int):Prop:=l.length≤4∧(∀ d∈l,d.2.length≤4)∧m.length≤4∧lo.length≤4∧hi.length≤4
theorem zzt {b:Nat} {x:Int} (h:F b=some [.int .i64 x]):sF F 1 (.slice (some ⟨b,0,none⟩) 1 1) [x].length (ic [x]):=zhr h rfl (by decide)
def yta (ts:List (List Rw)):Nat:=if (tab ts.flatten).length>500 then 61 else 0
def ytb (ts:List (List Rw)):List Rw:=if (tab ts.flatten).length>500 then [] else tab ts.flatten
theorem ylh {x y:Int} {k:IntKind}:mm true (.int k x) (.int k y)=some (.int k (max x y)):=by
 simp only [mm,if_true]
 congr 2
 split<;>omega
theorem yly {x y:Int} {k:IntKind}:mm false (.int k x) (.int k y)=some (.int k (min x y)):=by
 simp only [mm,Bool.false_eq_true,if_false]
 congr 2
 split<;>omega
theorem zys {B:Nat} {v:Value} {l:List Int} {K:Value→zae} (h:own M B 3 1 v l.length (ic l)) {i:Nat} (hi:i<l.length) (k:∀ p,K p (.int .i64 l[i]) ⟨F,M,N⟩):pv (iaV none 1 v (.int .i64 (i:Nat))) (fun p=>ld false 1 p (K p)) ⟨F,M,N⟩:=by
 rcases h.2 with ⟨rfl,h0⟩ | ⟨b,c,rest,rfl,h1,h2,h3,h4⟩
 ·omega
 ·refine zbz hi (zfj (zao (zaq h4) ?_) (k _))
  rw [Nat.zero_add,Nat.mul_one,List.getElem?_append_left (by simpa [ic] using hi)]
  simp [ic,List.getElem?_eq_getElem hi]
theorem yjq {B:Nat} {v:Value} {l:List Int} {K:Value→zae} {x:Int} (h:own M B 3 1 v l.length (ic l)) {i:Nat} (hi:i<l.length)
  (k:∀ p M',own M' B 3 1 v (l.set i x).length (ic (l.set i x))→(∀ q,v.ownBlock≠some q→M' q=M q)→(∀ n,za7 M n→za7 M' n)→K p undef ⟨F,M',N⟩):pv (iaV none 1 v (.int .i64 (i:Nat))) (fun p=>st 1 p (.int .i64 x) (K p)) ⟨F,M,N⟩:=by
 rcases h.2 with ⟨rfl,h0⟩ | ⟨b,c,rest,rfl,h1,h2,h3,h4⟩
 ·omega
 ·refine zbz hi ?_
  have hl:i<(ic l).length:=by simpa [ic] using hi
  refine ya6 (cs':=ic (l.set i x)++rest) h4 rfl (List.all_eq_true.1 rfl) (by rw [List.length_append]; omega) ?_ (k _ _ ⟨by simp [ic],.inr ⟨b,c,rest,by rw [List.length_set],by rw [List.length_set]; exact h1,h2,h3,za5 _ _ _⟩⟩ (fun q hq=>za4 _ _ (fun e=>hq (by rw [e]; rfl))) (fun n hc=>hc.set (hc.lt h4) _))
  rw [show (Value.int .i64 x).cells.toList=[Value.int .i64 x] from rfl,Nat.zero_add,Nat.mul_one,zts (by simp; omega)]
  congr 1
  unfold ic
  rw [List.map_set]
  unfold zbs
  rw [List.set_eq_take_append_cons_drop,if_pos (by simpa using hi)]
  simp
theorem yak {α:Type} {x a:List α} {i:Nat} (hx:i<x.length) (ha:i<a.length) (h:i<(x.take i++a.drop i).length):(x.take i++a.drop i)[i]=a[i]:=by
 rw [List.getElem_append_right (by rw [List.length_take]; omega)]
 simp [List.length_take,Nat.min_eq_left (Nat.le_of_lt hx)]
theorem yhy {α:Type} {x a:List α} {i:Nat} (hx:i<x.length) (ha:i<a.length):(x.take i++a.drop i).set i x[i]=x.take (i+1)++a.drop (i+1):=by
 rw [List.set_append,if_neg (by rw [List.length_take]; omega),List.length_take,Nat.min_eq_left (by omega),Nat.sub_self,List.drop_eq_getElem_cons ha,List.set_cons_zero,List.take_add_one,List.getElem?_eq_getElem hx,Option.toList_some,List.append_assoc]
 rfl
set_option maxRecDepth 10000 in
theorem yk0 {u v:Value} {l:List Dm} {c:List Int} (hu:zbl F u l) (hv:sF F 1 v c.length (ick .u16 c)) (hl:l.length≤1000000) (hs:∀ d∈l,0<d.1∧d.1≤1000000) (hc:∀ x∈c,0≤x∧x<65536) (hcl:c.length≤140737488351232)
  (k:∀ v' M' N',own M' N 3 1 v' (keyOf l c).length (ic (keyOf l c))→(∀ q,q<N→M' q=M q)→N≤N'→za7 M' N'→(Hp.mk F M' N').wf→K v' ⟨F,M',N'⟩) :
  za2 Tryz.prog (.func (.func 43) #[] #[]) #[u,v] K E ⟨F,M,N⟩:=by
 refine za3 mixed Tryz.func43 (by kernel_rfl) (t43 _ E _ _) (fun hw=>?_)
 have hm:za7 M N:=hw.m
 obtain ⟨rows,hu1,hu2⟩:=hu
 have hlu:za9 u=some (.int .i64 (l.length:Nat)):=by obtain ⟨a,c,rfl,_⟩:=hu1.form; rfl
 have hlv:za9 v=some (.int .i64 (c.length:Nat)):=by obtain ⟨a,c,rfl,_⟩:=hv.form; rfl
 refine zli (σ:=Nat×Value) (fun s=>s.2) (fun s=>.int .i64 (s.1:Nat))
  (fun s h=>∃ M' N',h=⟨F,M',N'⟩∧N≤N'∧(∀ q,q<N→M' q=M q)∧za7 M' N'∧s.1≤l.length∧own M' N 3 1 s.2 s.1 (ic (keyOf (l.take s.1) c))) (fun s=>l.length - s.1) (0,.slice none 0 0) rfl rfl
  (fun hw2=>⟨_,za0 hw2,M,N,rfl,Nat.le_refl _,fun _ _=>rfl,hm,Nat.zero_le _,own.nil⟩) (fun k1 s j h1 hI hw2 next=>?_)
 rw [zle]
 obtain ⟨M2,N2,rfl,hN2,hM2,hm2,hi,ho2⟩:=hI
 try simp only [hlu,hlv]
 try simp only [sS]
 refine zaf (fun hlt=>?_) (fun hge=>?_)
 ·have h1:s.1<l.length:=by omega
  obtain ⟨d1,d2⟩:=hs l[s.1] (List.getElem_mem _)
  try simp only [sS]
  have nat:∀ x:Int,0≤x→x<65536→x=c.getD s.1 0→∃ n:Nat,x=n∧n<65536∧(c.getD s.1 0)%l[s.1].1=((n%l[s.1].1.toNat:Nat):Int):=fun x h0 h1 e=>⟨x.toNat,by omega,by omega,by
   rw [← e,Int.natCast_emod,Int.toNat_of_nonneg h0,Int.toNat_of_nonneg (by omega)]⟩
  refine zaf (fun hlt2=>?_) (fun hge2=>?_)
  have h2:s.1<c.length:=by omega
  try simp only [sS]
  refine zla hv h2 fun p=>?_
  obtain ⟨x0,x1⟩:=hc c[s.1] (List.getElem_mem _)
  obtain ⟨n,hn,hn1,hn2⟩:=nat c[s.1] x0 x1 (by simp [List.getD_eq_getElem?_getD,h2])
  rw [hn]
  refine zml (a:=n) (by omega) ?_
  rotate_left
  try simp only [sS]
  have hg:c.getD s.1 0=0:=by rw [List.getD_eq_getElem?_getD,List.getElem?_eq_none (by omega)]; rfl
  obtain ⟨n,hn0,hn2⟩:∃ n:Nat,(.int .i64 0:Value)=.int .i64 (n:Nat)∧(c.getD s.1 0)%l[s.1].1=((n%l[s.1].1.toNat:Nat):Int):=⟨0,rfl,by rw [hg]; simp⟩
  rw [hn0]
  all_goals
   rw [zh1]
   refine zbb hu1 hu2 (by decide) h1 (off:=0) (by decide) fun p q r x hR _ hx=>?_
   obtain ⟨kv,rfl,hkv',hkl⟩:=hR
   simp at hx
   subst hx
   rw [show l[s.1].1=((l[s.1].1.toNat:Nat):Int) by omega]
   refine zse (by omega) ?_
   refine zcq (new:=[.int .i64 ((n%l[s.1].1.toNat:Nat):Int)]) ho2 hm2 hN2 (by kernel_rfl) rfl (List.all_eq_true.1 rfl) (by omega) (by unfold maxLen; omega) (fun p v' M3 N3 h4 h5 h6 h7=>?_)
   refine zai (by omega) ?_
   refine next (s.1+1,v') _ _ (by simp only; omega) (fun hw3=>⟨_,za0 hw3,M3,N3,rfl,by omega,fun q hq=>?_,h7,h1,?_⟩)
   ·exact ((h5 q (fun e=>by have := (ho2.ge q e).1; omega) (by omega)).1).trans (hM2 q hq)
   ·simp only
    rw [zsj l c h1,hn2]
    simpa [ic] using h4
 ·try simp only [sS]
  rw [List.take_of_length_le (by omega)] at ho2
  rw [show s.1=l.length by omega] at ho2
  exact fun hc'=>⟨_,za0 hc',fun hw'=>k _ _ _ (by rw [zes]; exact ho2) hM2 hN2 hm2 hw'⟩
def zhe (l:List Dm) (a b:List Int):List Int:=List.zipWith min (keyOf l a) (keyOf l b)
def zhg (l:List Dm) (a b:List Int):List Int:=List.zipWith (fun x y=>max x y+1) (keyOf l a) (keyOf l b)
theorem zop (l:List Dm) (a b:List Int):(zhe l a b).length=l.length:=by simp [zhe,zes]
theorem zof (l:List Dm) (a b:List Int):(zhg l a b).length=l.length:=by simp [zhg,zes]
theorem zkm {l:List Dm} {c:List Int} (hs:∀ d∈l,0<d.1∧d.1≤1000000) {i:Nat} (hi:i<(keyOf l c).length) (hl:i<l.length):0≤(keyOf l c)[i]∧(keyOf l c)[i]<l[i].1:=by
 obtain ⟨d1,d2⟩:=hs _ (List.getElem_mem hl)
 have e:(keyOf l c)[i]=(c.getD i 0)%l[i].1:=by simp [keyOf]
 rw [e]
 exact ⟨Int.emod_nonneg _ (by omega),Int.emod_lt_of_pos _ d1⟩
set_option maxRecDepth 10000 in
theorem ynm {u v w:Value} {l:List Dm} {a b:List Int} (hu:zbl F u l) (hv:sF F 1 v a.length (ick .u16 a)) (hw':sF F 1 w b.length (ick .u16 b)) (hl:l.length≤1000000) (hs:∀ d∈l,0<d.1∧d.1≤1000000) (hac:∀ x∈a,0≤x∧x<65536) (hbc:∀ x∈b,0≤x∧x<65536) (hal:a.length≤140737488351232) (hbl:b.length≤140737488351232)
  (k:∀ x y F' N',(Hp.mk F' M N').wf→zac F F'→N≤N'→sF F' 1 x (zhe l a b).length (ic (zhe l a b))→sF F' 1 y (zhg l a b).length (ic (zhg l a b))→K (.tuple #[x,y]) ⟨F',M,N'⟩) :
  za2 Tryz.prog (.func (.func 35) #[] #[]) #[u,v,w] K E ⟨F,M,N⟩:=by
 refine za3 mixed Tryz.func35 (by kernel_rfl) (t35 _ E _ _ _) (fun hw=>?_)
 have hm:za7 M N:=hw.m
 have hlu:za9 u=some (.int .i64 (l.length:Nat)):=by obtain ⟨a,c,h⟩:=hu.form; rw [h]; rfl
 refine yk0 hu hv hl hs hac hal (fun x M1 N1 ho1 hM1 hN1 hm1 hw1=>?_)
 refine yk0 hu hw' hl hs hbc hbl (fun y M2 N2 ho2 hM2 hN2 hm2 hw2=>?_)
 have hx1:∀ q,x.ownBlock=some q→N≤q∧q<N1:=fun q e=>⟨(ho1.ge q e).1,ho1.lt hm1 q e⟩
 have hy1:∀ q,y.ownBlock=some q→N1≤q:=fun q e=>(ho2.ge q e).1
 have hox:own M2 N 3 1 x (keyOf l a).length (ic (keyOf l a)):=ho1.keep (fun q e=>hM2 q (hx1 q e).2) (Nat.le_refl _)
 have hoy:own M2 N 3 1 y (keyOf l b).length (ic (keyOf l b)):=ho2.keep (fun q e=>rfl) hN1
 have hA:=zes l a
 have hB:=zes l b
 have hL:=zop l a b
 have hH:=zof l a b
 have bA:∀ i (h:i<(keyOf l a).length),0≤(keyOf l a)[i]∧(keyOf l a)[i]≤1000000:=fun i h=>by
  have := zkm hs h (by omega); have := hs _ (List.getElem_mem (show i<l.length by omega)); omega
 have bB:∀ i (h:i<(keyOf l b).length),0≤(keyOf l b)[i]∧(keyOf l b)[i]≤1000000:=fun i h=>by
  have := zkm hs h (by omega); have := hs _ (List.getElem_mem (show i<l.length by omega)); omega
 have eL:∀ i (h:i<(zhe l a b).length) (h1:i<(keyOf l a).length) (h2:i<(keyOf l b).length),(zhe l a b)[i]=min (keyOf l a)[i] (keyOf l b)[i]:=fun i h h1 h2=>by simp [zhe]
 have eH:∀ i (h:i<(zhg l a b).length) (h1:i<(keyOf l a).length) (h2:i<(keyOf l b).length),(zhg l a b)[i]=max (keyOf l a)[i] (keyOf l b)[i]+1:=fun i h h1 h2=>by simp [zhg]
 generalize keyOf l a=A at *
 generalize keyOf l b=B at *
 generalize zhe l a b=L at *
 generalize zhg l a b=H at *
 refine zpv (σ:=Nat) (fun i=>.int .i64 (i:Nat)) (fun i h=>∃ M',h=⟨F,M',N2⟩∧i≤l.length∧(∀ q,q<N→M' q=M q)∧za7 M' N2∧own M' N 3 1 x (L.take i++A.drop i).length (ic (L.take i++A.drop i))∧own M' N 3 1 y (H.take i++B.drop i).length (ic (H.take i++B.drop i))) (fun i=>l.length - i) 0 rfl
  (fun hw3=>⟨_,za0 hw3,M2,rfl,Nat.zero_le _,fun q hq=>(hM2 q (by omega)).trans (hM1 q hq),hm2,hox,hoy⟩) (fun k1 i j h1 hI hw3 next=>?_)
 rw [zqc]
 obtain ⟨M3,rfl,hi,hM3,hm3,h3,h4⟩:=hI
 refine zaa hlu ?_
 refine zaf (fun hlt=>?_) (fun hge=>?_)
 ·have i1:i<l.length:=by omega
  have i2:i<(L.take i++A.drop i).length:=by simp; omega
  have i3:i<(H.take i++B.drop i).length:=by simp; omega
  have gA:(L.take i++A.drop i)[i]=A[i]:=yak (by omega) (by omega) i2
  have gB:(H.take i++B.drop i)[i]=B[i]:=yak (by omega) (by omega) i3
  have cA:=bA i (by omega)
  have cB:=bB i (by omega)
  have dL:=eL i (by omega) (by omega) (by omega)
  have dH:=eH i (by omega) (by omega) (by omega)
  try simp only [sS]
  refine zys h3 i2 fun p=>zys h4 i3 fun p=>?_
  refine zaa (yly) ?_
  refine zys h3 i2 fun p=>zys h4 i3 fun p=>?_
  refine zaa (ylh) ?_
  rw [gA,gB]
  refine zyp (by omega) (by omega) ?_
  rw [← dL,← dH]
  refine yjq h4 i3 fun p M4 g1 g2 g3=>?_
  have h3':own M4 N 3 1 x (L.take i++A.drop i).length (ic (L.take i++A.drop i)):=h3.keep (fun q e=>g2 q (fun e2=>by have := hy1 q e2; have := hx1 q e; omega)) (Nat.le_refl _)
  refine yjq h3' i2 fun p M5 k1' k2 k3=>?_
  refine zai (by omega) ?_
  rw [yhy (by omega) (by omega)] at g1 k1'
  refine next (i+1) _ _ (by omega) (fun hw4=>⟨_,za0 hw4,M5,rfl,i1,fun q hq=>?_,k3 _ (g3 _ hm3),k1',g1.keep (fun q e=>k2 q (fun e2=>by have := hy1 q e; have := hx1 q e2; omega)) (Nat.le_refl _)⟩)
  exact (k2 q (fun e=>by have := hx1 q e; omega)).trans ((g2 q (fun e=>by have := hy1 q e; omega)).trans (hM3 q hq))
 ·try simp only [sS]
  rw [List.take_of_length_le (by omega),List.drop_eq_nil_of_le (by omega),List.append_nil] at h3 h4
  exact fun hc=>⟨_,zb7 hm hM3 hc,fun hw4=>k _ _ _ _ hw4 (zag hc) (by omega) (h3.rd.frz hc (fun b hb=>.inl (h3.ge b hb).1)) (h4.rd.frz hc (fun b hb=>.inl (h4.ge b hb).1))⟩
theorem yt7 {l:List Dm} {a b:List Int} (hs:∀ d∈l,0<d.1∧d.1≤1000000):zfc l (zhe l a b) (zhg l a b)=true:=by
 have hL:=zop l a b
 have hH:=zof l a b
 unfold zfc
 rw [decide_eq_true ⟨hL,hH⟩,Bool.true_and,List.all_eq_true]
 intro i hi
 have i1:i<l.length:=by rw [← hL]; exact List.mem_range.1 hi
 have i2:i<(keyOf l a).length:=by rw [zes]; exact i1
 have i3:i<(keyOf l b).length:=by rw [zes]; exact i1
 have h1:=zkm hs i2 i1
 have h2:=zkm hs i3 i1
 rw [zb0 (by omega),zb0 (by omega),zb0 i1]
 have eL:(zhe l a b)[i]=min (keyOf l a)[i] (keyOf l b)[i]:=by simp [zhe]
 have eH:(zhg l a b)[i]=max (keyOf l a)[i] (keyOf l b)[i]+1:=by simp [zhg]
 rw [eL,eH]
 exact decide_eq_true ⟨by omega,by omega,by omega⟩
set_option maxRecDepth 10000 in
theorem yn9 {u w va vb:Value} {l:List Dm} {c a b:List Int} (hu:zbl F u l) (hw':sF F 1 w c.length (ick .u8 c)) (hv:sF F 1 va a.length (ick .u16 a)) (hvb:sF F 1 vb b.length (ick .u16 b)) (hl:l.length≤1000000) (hs:∀ d∈l,0<d.1∧d.1≤1000000) (hdv:∀ d∈l,d.2.length≤1000000) (hcc:∀ x∈c,0≤x∧x<256) (hac:∀ x∈a,0≤x∧x<65536) (hbc:∀ x∈b,0≤x∧x<65536) (hcl:c.length≤140737488351232) (hal:a.length≤140737488351232) (hbl:b.length≤140737488351232)
  (k:∀ cs F' N',(Hp.mk F' M N').wf→zac F F'→N≤N'→zfa F' cs (zgo l c []) (zhe l a b) (zhg l a b)→K (.agg cs.toArray) ⟨F',M,N'⟩) :
  za2 Tryz.prog (.func (.func 17) #[] #[]) #[u,w,va,vb] K E ⟨F,M,N⟩:=by
 refine za3 mixed Tryz.func17 (by kernel_rfl) (t17 _ E _ _ _ _) (fun hw=>?_)
 have hm:za7 M N:=hw.m
 refine zal (fun b1 hb1=>?_)
 refine ynm hu hv hvb hl hs hac hbc hal hbl (fun x y F2 N2 hw2 hF2 hN2 hx hy=>?_)
 try simp only [sS]
 refine yms (m:=[]) (hu.mono hF2) (hw'.mono hF2) (sF.nil _ _ _) hl hdv hcc (yg3 l) hcl (by simp) (fun z F3 N3 hw3 hF3 hN3 hz=>?_)
 have hx3:=hx.mono hF3
 have hy3:=hy.mono hF3
 obtain ⟨a1,c1,e1,_⟩:=hx3.form
 obtain ⟨a2,c2,e2,_⟩:=hy3.form
 obtain ⟨a3,c3,e3,_⟩:=hz.form
 refine zaa (v:=.agg #[z,x,y]) (by rw [e1,e2,e3]; kernel_rfl) ?_
 refine stM (cs':=[z,x,y]) ?_ (za5 _ _ _) rfl rfl (by rw [e1,e2,e3]; exact List.all_eq_true.1 rfl) (by exact Nat.le_of_ble_eq_true rfl)
 rw [zbe]
 refine zas (vs:=[z,x,y]) ?_
 have h1:=zop l a b
 have h2:=zof l a b
 have h3:=zlb l c []
 exact fun hc=>⟨⟨F3,M,N3⟩,zbp hc (zav (zb6 _) (hm _ hb1)),fun hw4=>k [z,x,y] _ _ hw4 (hF2.trans hF3) (by omega) ⟨z,x,y,rfl,hz,hx3,hy3,by omega,by omega,by omega⟩⟩
theorem zkg {k:IntKind} (l:List Int):(ick k l).length=l.length:=by simp [ick]
theorem yn4 {k:IntKind} {l:List Int} {i:Nat} (h:i<l.length):(ick k l)[i]?=some (.int k l[i]):=by simp [ick,h]
theorem zk0 {B:Nat} {e:TypeId} {kd:IntKind} {v:Value} {l:List Int} {K:Value→zae} (h:own M B e 1 v l.length (ick kd l)) {i:Nat} (hi:i<l.length) (k:∀ p,K p (.int kd l[i]) ⟨F,M,N⟩):pv (iaV none 1 v (.int .i64 (i:Nat))) (fun p=>ld false 1 p (K p)) ⟨F,M,N⟩:=by
 rcases h.2 with ⟨rfl,h0⟩ | ⟨b,c,rest,rfl,h1,h2,h3,h4⟩
 ·omega
 ·refine zbz hi (zfj (zao (zaq h4) ?_) (k _))
  rw [Nat.zero_add,Nat.mul_one,List.getElem?_append_left (by rw [zkg]; exact hi),yn4 hi]
theorem yay {B:Nat} {e:TypeId} {kd:IntKind} {v:Value} {l:List Int} {K:Value→zae} {x:Int} (h:own M B e 1 v l.length (ick kd l)) {i:Nat} (hi:i<l.length)
  (k:∀ p M',own M' B e 1 v (l.set i x).length (ick kd (l.set i x))→(∀ q,v.ownBlock≠some q→M' q=M q)→(∀ n,za7 M n→za7 M' n)→K p undef ⟨F,M',N⟩):pv (iaV none 1 v (.int .i64 (i:Nat))) (fun p=>st 1 p (.int kd x) (K p)) ⟨F,M,N⟩:=by
 rcases h.2 with ⟨rfl,h0⟩ | ⟨b,c,rest,rfl,h1,h2,h3,h4⟩
 ·omega
 ·refine zbz hi ?_
  have hl:i<(ick kd l).length:=by rw [zkg]; exact hi
  refine ya6 (cs':=ick kd (l.set i x)++rest) h4 rfl (List.all_eq_true.1 rfl) (by rw [List.length_append]; omega) ?_ (k _ _ ⟨by rw [zkg,Nat.mul_one],.inr ⟨b,c,rest,by rw [List.length_set],by rw [List.length_set]; exact h1,h2,h3,za5 _ _ _⟩⟩ (fun q hq=>za4 _ _ (fun e=>hq (by rw [e]; rfl))) (fun n hc=>hc.set (hc.lt h4) _))
  rw [show (Value.int kd x).cells.toList=[Value.int kd x] from rfl,Nat.zero_add,Nat.mul_one,ziv (by rw [List.length_append]; omega),List.set_append_left _ _ hl]
  congr 1
  unfold ick
  rw [List.map_set]
theorem ymg {a b:Int} (k:∀ N',N≤N'→(Hp.mk F M N').wf→K (.bool (decide (a<b))) ⟨F,M,N'⟩) :
  za2 Tryz.prog (.func (.func 127) #[] #[]) #[.int .u32 a,.int .u32 b] K E ⟨F,M,N⟩:=by
 refine za3 mixed Tryz.func127 (by kernel_rfl) (ysi _ E _ _) (fun hw=>?_)
 refine za3 mixed Tryz.func132 (by kernel_rfl) (yn1 _ E _) (fun hw=>?_)
 refine zit rfl ?_
 refine fun hc=>⟨_,za0 hc,fun hw=>?_⟩
 try simp only [sS]
 refine zaf (fun h=>?_) (fun h=>?_)
 ·try simp only [sS]
  rw [decide_eq_true h] at k
  exact fun hc=>⟨_,za0 hc,fun hw=>k _ (Nat.le_refl _) hw⟩
 ·try simp only [sS]
  rw [decide_eq_false h] at k
  exact fun hc=>⟨_,za0 hc,fun hw=>k _ (Nat.le_refl _) hw⟩
def zvx (m:List Int) (i j:Nat):Prop:=(∀ p q,p<q→q≤i→p≠j→q≠j→m.getD p 0≤m.getD q 0)∧∀ q,j<q→q≤i→m.getD j 0≤m.getD q 0
def upto (m:List Int) (i:Nat):Prop:=∀ p q,p<q→q<i→m.getD p 0≤m.getD q 0
theorem yb5 {m:List Int} {i j:Nat} {x:Int} (hi:i<m.length):(m.set i x).getD j 0=if j=i then x else m.getD j 0:=by
 rw [List.getD_eq_getElem?_getD,List.getElem?_set]
 by_cases h:i=j
 ·subst h; rw [if_pos rfl,if_pos hi,if_pos rfl]; rfl
 ·rw [if_neg h,if_neg (fun e=>h e.symm),← List.getD_eq_getElem?_getD]
theorem ycz {m:List Int} {i:Nat} (h:upto m i):zvx m i i:=⟨fun p q h1 h2 _ h4=>h p q h1 (by omega),fun q h1 h2=>by omega⟩
theorem yfd {m:List Int} {i j:Nat} (h:zvx m i (j+1)) (hl:i<m.length) (hj:j+1≤i) (hlt:m.getD (j+1) 0<m.getD j 0):zvx ((m.set (j+1) (m.getD j 0)).set j (m.getD (j+1) 0)) i j:=by
 have e:∀ q,((m.set (j+1) (m.getD j 0)).set j (m.getD (j+1) 0)).getD q 0=if q=j then m.getD (j+1) 0 else if q=j+1 then m.getD j 0 else m.getD q 0:=fun q=>by
  rw [yb5 (by rw [List.length_set]; omega),yb5 (by omega)]
 refine ⟨fun p q h1 h2 h3 h4=>?_,fun q h1 h2=>?_⟩
 ·rw [e,e,if_neg h3,if_neg h4]
  by_cases hp:p=j+1
  ·rw [if_pos hp,if_neg (by omega)]; exact h.1 j q (by omega) h2 (by omega) (by omega)
  ·rw [if_neg hp]
   by_cases hq:q=j+1
   ·rw [if_pos hq]; exact h.1 p j (by omega) (by omega) (by omega) (by omega)
   ·rw [if_neg hq]; exact h.1 p q h1 h2 hp hq
 ·rw [e,e,if_pos rfl,if_neg (by omega)]
  by_cases hq:q=j+1
  ·rw [if_pos hq]; omega
  ·rw [if_neg hq]; exact h.2 q (by omega) h2
theorem yg1 {m:List Int} {i:Nat} (h:zvx m i 0):upto m (i+1):=fun p q h1 h2=>by
 by_cases hp:p=0
 ·subst hp; exact h.2 q h1 (by omega)
 ·exact h.1 p q h1 (by omega) hp (by omega)
theorem yh2 {m:List Int} {i j:Nat} (h:zvx m i (j+1)) (hge:¬ m.getD (j+1) 0<m.getD j 0) (hj:j+1≤i):upto m (i+1):=fun p q h1 h2=>by
 by_cases hp:p=j+1
 ·subst hp; exact h.2 q h1 (by omega)
 ·by_cases hq:q=j+1
  ·subst hq
   by_cases hpj:p=j
   ·subst hpj; omega
   ·have := h.1 p j (by omega) (by omega) hp (by omega); omega
  ·exact h.1 p q h1 (by omega) hp hq
theorem yg7 {m:List Int} {j:Nat} (h:j+1<m.length):((m.set (j+1) (m.getD j 0)).set j (m.getD (j+1) 0)).Perm m:=by
 have h1:j<m.length:=by omega
 have e1:m.getD j 0=m[j]:=zb0 h1 0
 have e2:m.getD (j+1) 0=m[j+1]:=zb0 h 0
 have hm:m=m.take j++m[j]::m[j+1]::m.drop (j+2):=by
  rw [← List.drop_eq_getElem_cons h,← List.drop_eq_getElem_cons h1,List.take_append_drop]
 have hs:(m.set (j+1) (m.getD j 0)).set j (m.getD (j+1) 0)=m.take j++m[j+1]::m[j]::m.drop (j+2):=by
  rw [e1,e2]
  apply List.ext_getElem?
  intro q
  rw [List.getElem?_set,List.getElem?_set]
  rcases Nat.lt_trichotomy q j with hq | hq | hq
  ·rw [if_neg (by omega),if_neg (by omega),List.getElem?_append_left (by rw [List.length_take]; omega),List.getElem?_take,if_pos hq]
  ·subst hq
   rw [if_pos rfl,if_pos (by rw [List.length_set]; omega),List.getElem?_append_right (by rw [List.length_take]; omega)]
   simp [List.length_take,Nat.min_eq_left (Nat.le_of_lt h1)]
  ·by_cases hq2:q=j+1
   ·subst hq2
    rw [if_neg (by omega),if_pos rfl,if_pos h,List.getElem?_append_right (by rw [List.length_take]; omega)]
    simp [List.length_take,Nat.min_eq_left (Nat.le_of_lt h1)]
   ·rw [if_neg (by omega),if_neg (by omega),List.getElem?_append_right (by rw [List.length_take]; omega)]
    rw [List.length_take,Nat.min_eq_left (by omega)]
    obtain ⟨d,hd⟩:∃ d,q - j=d+2:=⟨q - j - 2,by omega⟩
    rw [hd,List.getElem?_cons_succ,List.getElem?_cons_succ,List.getElem?_drop]
    congr 1; omega
 rw [hs]
 conv=>rhs; rw [hm]
 exact List.Perm.append_left _ (List.Perm.swap _ _ _)
set_option maxRecDepth 10000 in
theorem yj5 {B:Nat} {v:Value} {l:List Int} (hv:own M B 30 1 v l.length (ick .u32 l)) (hl:l.length≤1000000) (h0:0<l.length)
  (k:∀ l' M' N',l'.Perm l→upto l' l.length→own M' B 30 1 v l'.length (ick .u32 l')→(∀ q,v.ownBlock≠some q→M' q=M q)→N≤N'→za7 M' N'→(Hp.mk F M' N').wf→K (.tuple #[]) ⟨F,M',N'⟩) :
  za2 Tryz.prog (.func (.func 121) #[] #[]) #[v,.int .i64 0,.int .i64 (l.length:Nat)] K E ⟨F,M,N⟩:=by
 refine za3 mixed Tryz.func121 (by kernel_rfl) (ylk _ E _ _ _) (fun hw=>?_)
 have hm:za7 M N:=hw.m
 refine zai (a:=0) (by omega) ?_
 refine zv5 (σ:=Nat) (fun i=>.int .i64 (i:Nat)) (fun i h=>∃ M' N' l',h=⟨F,M',N'⟩∧N≤N'∧own M' B 30 1 v l'.length (ick .u32 l')∧l'.Perm l∧upto l' i∧(∀ q,v.ownBlock≠some q→M' q=M q)∧za7 M' N'∧1≤i∧i≤l.length) (fun i=>l.length - i) 1 rfl
  (fun hw1=>⟨_,za0 hw1,M,N,l,rfl,Nat.le_refl _,hv,List.Perm.refl _,fun p q h1 h2=>by omega,fun _ _=>rfl,hm,Nat.le_refl _,h0⟩) (fun kk i j h1 hI hw1 next=>?_)
 rw [zt5]
 obtain ⟨M1,N1,l1,rfl,hN1,ho1,hp1,hu1,hM1,hm1,hi1,hi2⟩:=hI
 have hlen1:=hp1.length_eq
 refine zaf (fun hlt=>?_) (fun hge=>?_)
 ·have i1:i<l.length:=by omega
  try simp only [sS]
  refine zmb (σ:=Nat) (fun j=>.int .i64 (j:Nat)) (fun j h=>∃ M' N' l',h=⟨F,M',N'⟩∧N≤N'∧own M' B 30 1 v l'.length (ick .u32 l')∧l'.Perm l∧zvx l' i j∧(∀ q,v.ownBlock≠some q→M' q=M q)∧za7 M' N'∧j≤i) (fun j=>j) i rfl
   (fun hw2=>⟨_,za0 hw2,M1,N1,l1,rfl,hN1,ho1,hp1,ycz hu1,hM1,hm1,Nat.le_refl _⟩) (fun k2 j jj h2 hI2 hw2 next2=>?_)
  rw [zm7]
  obtain ⟨M2,N2,l2,rfl,hN2,ho2,hp2,hu2,hM2,hm2,hj⟩:=hI2
  have hlen2:=hp2.length_eq
  refine zbu (fun hj0=>?_) (fun hj0=>?_)
  ·obtain ⟨j',rfl⟩:∃ j',j=j'+1:=⟨j - 1,by omega⟩
   have b1:j'+1<l2.length:=by omega
   have b2:j'<l2.length:=by omega
   try simp only [sS]
   refine zk0 ho2 b1 fun _=>?_
   try simp only [sS]
   refine zgn (a:=j'+1) (b:=1) (by omega) (by omega) ?_
   rw [Nat.add_sub_cancel]
   refine zk0 ho2 b2 fun _=>?_
   try simp only [sS]
   refine ymg (fun N3 hN3 hw3=>?_)
   have e1:l2.getD j' 0=l2[j']:=zb0 b2 0
   have e2:l2.getD (j'+1) 0=l2[j'+1]:=zb0 b1 0
   by_cases hlt2:l2[j'+1]<l2[j']
   ·rw [decide_eq_true hlt2]
    try simp only [sS]
    refine zgn (a:=j'+1) (b:=1) (by omega) (by omega) ?_
    rw [Nat.add_sub_cancel]
    refine zgn (a:=j'+1) (b:=1) (by omega) (by omega) ?_
    rw [Nat.add_sub_cancel]
    refine zk0 ho2 b2 fun _=>?_
    refine zk0 ho2 b1 fun _=>?_
    refine yay ho2 b1 fun _ M4 ho4 hM4 hm4=>?_
    refine yay ho4 (by rw [List.length_set]; exact b2) fun _ M5 ho5 hM5 hm5=>?_
    refine zgn (a:=j'+1) (b:=1) (by omega) (by omega) ?_
    rw [Nat.add_sub_cancel]
    rw [← e1,← e2] at ho5
    refine next2 j' _ _ (by omega) (fun hw6=>⟨_,za0 hw6,M5,N3,_,rfl,by omega,ho5,(yg7 b1).trans hp2,yfd hu2 (by omega) hj (by omega),fun q hq=>(hM5 q hq).trans ((hM4 q hq).trans (hM2 q hq)),hm5 _ (hm4 _ (hm2.up hN3)),by omega⟩)
   ·rw [decide_eq_false hlt2]
    try simp only [sS]
    refine zai (by omega) ?_
    exact next (i+1) _ _ (by omega) (fun hw6=>⟨_,za0 hw6,M2,N3,l2,rfl,by omega,ho2,hp2,yh2 hu2 (by omega) hj,hM2,hm2.up hN3,by omega,i1⟩)
  ·have hj0':j=0:=by omega
   subst hj0'
   try simp only [sS]
   refine zai (by omega) ?_
   exact next (i+1) _ _ (by omega) (fun hw6=>⟨_,za0 hw6,M2,N2,l2,rfl,hN2,ho2,hp2,yg1 hu2,hM2,hm2,by omega,i1⟩)
 ·try simp only [sS]
  exact fun hc=>⟨_,za0 hc,fun hw'=>k l1 M1 N1 hp1 (by rw [show l.length=i by omega]; exact hu1) ho1 hM1 hN1 hm1 hw'⟩
set_option maxRecDepth 20000 in
theorem yf3 {n:Nat} (hn:n≤12) (k:∀ r N',N≤N'→(Hp.mk F M N').wf→K r ⟨F,M,N'⟩) :
  za2 Tryz.prog (.func (.func 99) #[] #[]) #[.int .u64 (n:Nat)] K E ⟨F,M,N⟩:=by
 refine za3 mixed Tryz.func99 (by kernel_rfl) (t99 _ E _) (fun hw=>?_)
 refine zc8 ?_
 refine za3 mixed Tryz.func131 (by kernel_rfl) (yrj _ E _) (fun hw=>?_)
 refine zpf (by omega) ?_
 try simp only [sS]
 rw [ygm]
 refine zpf (by omega) ?_
 try simp only [sS]
 rw [yd1]
 refine zpf (by omega) ?_
 try simp only [sS]
 rw [zzp]
 have:n=0∨n=1∨n=2∨n=3∨n=4∨n=5∨n=6∨n=7∨n=8∨n=9∨n=10∨n=11∨n=12:=by omega
 rcases this with rfl | rfl | rfl | rfl | rfl | rfl | rfl | rfl | rfl | rfl | rfl | rfl | rfl <;>
  exact zaa rfl (zaa rfl (zaa rfl (zaa rfl (fun hc=>⟨_,za0 hc,fun hw' hc'=>⟨_,za0 hc',fun hw''=>k _ _ (Nat.le_refl _) hw''⟩⟩))))
theorem yeu {v:Value} (k:(Hp.mk F M N).wf→K (.tuple #[]) ⟨F,M,N⟩) :
  za2 Tryz.prog (.func (.func 121) #[] #[]) #[v,.int .i64 0,.int .i64 0] K E ⟨F,M,N⟩:=by
 refine za3 mixed Tryz.func121 (by kernel_rfl) (ylk _ E _ _ _) (fun hw=>?_)
 refine zai (a:=0) (by omega) ?_
 refine zv5 (σ:=Nat) (fun i=>.int .i64 (i:Nat)) (fun i h=>h=⟨F,M,N⟩∧1≤i) (fun i=>0) 1 rfl
  (fun hw1=>⟨_,za0 hw1,rfl,Nat.le_refl _⟩) (fun kk i j h1 hI hw1 next=>?_)
 rw [zt5]
 obtain ⟨rfl,hi⟩:=hI
 refine zh2 (by omega) ?_
 try simp only [sS]
 exact fun hc=>⟨_,za0 hc,k⟩
theorem ykj {B:Nat} {v:Value} {l:List Int} (hv:own M B 30 1 v l.length (ick .u32 l)) (hl:l.length≤12)
  (k:∀ l' M' N',l'.Perm l→upto l' l.length→own M' B 30 1 v l'.length (ick .u32 l')→(∀ q,v.ownBlock≠some q→M' q=M q)→N≤N'→za7 M' N'→(Hp.mk F M' N').wf→K (.tuple #[]) ⟨F,M',N'⟩) :
  za2 Tryz.prog (.func (.func 70) #[] #[]) #[v] K E ⟨F,M,N⟩:=by
 refine za3 mixed Tryz.func70 (by kernel_rfl) (t70 _ E _) (fun hw=>?_)
 have hm:za7 M N:=hw.m
 have hlv:za9 v=some (.int .i64 (l.length:Nat)):=by obtain ⟨a,c,e,_⟩:=hv.form; rw [e]; rfl
 refine zaa hlv ?_
 refine zaa (v:=.int .u64 (l.length:Nat)) (by simp only [cvV]; rw [yb2 (by omega) (by omega)]) ?_
 refine yf3 hl (fun r N1 hN1 hw1=>?_)
 refine za3 mixed Tryz.func98 (by kernel_rfl) (t98 _ E _ _ _ _) (fun hw=>?_)
 refine ybh (σ:=Unit) (fun _=>.int .i64 0) (fun _=>.int .i64 (l.length:Nat)) (fun _=>r) (fun _=>.bool true) (fun _=>.bool true) (fun _ h=>h=⟨F,M,N1⟩) (fun _=>0) () rfl rfl rfl rfl rfl
  (fun hw2=>⟨_,za0 hw2,rfl⟩) (fun kk s j h1 hI hw2 next=>?_)
 rw [ybn]
 subst hI
 refine zgn (a:=l.length) (b:=0) (by omega) (by omega) ?_
 refine ynl (by omega) ?_
 try simp only [sS]
 by_cases h0:0<l.length
 ·refine yj5 hv (by omega) h0 (fun l' M2 N2 q1 q2 q3 q4 q5 q6 q7=>?_)
  exact fun hc=>⟨_,za0 hc,fun hw' hc'=>⟨_,za0 hc',fun hw''=>k l' M2 N2 q1 q2 q3 q4 (by omega) q6 hw''⟩⟩
 ·have e0:l=[]:=List.eq_nil_of_length_eq_zero (by omega)
  subst e0
  refine yeu (fun hw3=>?_)
  exact fun hc=>⟨_,za0 hc,fun hw' hc'=>⟨_,za0 hc',fun hw''=>k [] M N1 (List.Perm.refl _) (fun p q h1 h2=>by simp at h2) hv (fun _ _=>rfl) hN1 (hm.up hN1) hw''⟩⟩
def zlj (l:List Int):Prop:=l.Pairwise (· < ·)
theorem yd0 {l:List Int} (h:upto l l.length) (hn:l.Nodup):zlj l:=by
 unfold zlj
 rw [List.pairwise_iff_getElem]
 intro i j hi hj hij
 have h1:=h i j hij hj
 rw [zb0 hi,zb0 hj] at h1
 have h2:l[i]≠l[j]:=List.pairwise_iff_getElem.1 hn i j hi hj hij
 omega
theorem zx1:∀ {a b:List Int},zlj a→zlj b→(∀ x,x∈a↔x∈b)→a=b:=by
 intro a b ha hb h
 have na:a.Nodup:=ha.imp (fun {x y} h=>by omega)
 have nb:b.Nodup:=hb.imp (fun {x y} h=>by omega)
 have hp:a.Perm b:=(List.perm_ext_iff_of_nodup na nb).2 h
 exact hp.eq_of_pairwise (fun x y _ _ h1 h2=>by omega) ha hb
theorem zko {α:Type}:∀ {a b:List α},a.Nodup→(∀ x∈a,x∈b)→a.length≤b.length
 | [],b,_,_=>Nat.zero_le _
 | x::a,b,hn,hs=>by
  obtain ⟨s,t,rfl⟩:=List.append_of_mem (hs x List.mem_cons_self)
  obtain ⟨h1,h2⟩:=List.pairwise_cons.1 hn
  have := zko (b:=s++t) h2 (fun y hy=>by
   have h3:=hs y (List.mem_cons_of_mem _ hy)
   have h4:y≠x:=fun e=>h1 y hy e.symm
   simp only [List.mem_append,List.mem_cons] at h3 ⊢
   rcases h3 with h3 | h3 | h3
   ·exact .inl h3
   ·exact absurd h3 h4
   ·exact .inr h3)
  simp only [List.length_append,List.length_cons] at this ⊢
  omega
theorem yei {bm mb:Nat} {es:Array MapEntry} {clock:Nat} (hE:E [] zh4) (hbm:F bm=some [.map (some mb)]) (hmb:M mb=some (.obj (.map es clock))) (hK:yj1 es clock) (h12:es.size≤12)
  (k:∀ v' (l:List Int) M' N',zlj l→(∀ x:Int,x∈l↔∃ e∈es.toList,e.key=.int .u32 x)→own M' N 30 1 v' l.length (ick .u32 l)→(∀ q,q<N→M' q=M q)→N≤N'→za7 M' N'→(Hp.mk F M' N').wf→K v' ⟨F,M',N'⟩) :
  za2 Tryz.prog (.func (.func 38) #[] #[]) #[.func (.func 71) #[] #[.pointer (some ⟨bm,0,none⟩)]] K E ⟨F,M,N⟩:=by
 refine za3 mixed Tryz.func38 (by kernel_rfl) (t38 _ E _) (fun hw=>?_)
 refine ydm hE hbm hmb hK (fun v ss M1 N1 hn hall ho hM1 hN1 hm1=>?_)
 have hlen:ss.length≤12:=by
  have hsub:∀ x∈ss,(Value.int .u32 x)∈es.toList.map (·.key):=fun x hx=>by
   obtain ⟨e,he,h1⟩:=(hall x).1 hx
   exact List.mem_map.2 ⟨e,he,h1⟩
  have h1:(ss.map (Value.int .u32)).Nodup:=by
   refine List.pairwise_map.2 (hn.imp (fun {a b} h e=>h (by simpa using e)))
  have h2:=zko h1 (fun v hv=>by
   obtain ⟨x,hx,rfl⟩:=List.mem_map.1 hv
   exact hsub x hx)
  simp only [List.length_map,Array.length_toList] at h2
  omega
 refine ykj (l:=ss) ho hlen (fun l M2 N2 hp hu ho2 hM2 hN2 hm2 hw2=>?_)
 refine fun hc=>⟨_,za0 hc,fun hw'=>k v l M2 N2 (yd0 (by rw [hp.length_eq]; exact hu) (hp.nodup_iff.2 hn)) (fun x=>(hp.mem_iff).trans (hall x)) ho2 (fun q hq=>(hM2 q (fun e=>by have := (ho.ge q e).1; omega)).trans (hM1 q hq)) (by omega) hm2 hw'⟩
end Go.Proofs.YtgcmbkoejjcjlaaGreatDoor.A
open Go Go.RowKit Go.Proofs.YtgcmbkoejjcjlaaGreatDoor.K
set_option linter.unusedVariables false
set_option maxRecDepth 100000
namespace Go.Proofs.YtgcmbkoejjcjlaaGreatDoor.T
section
variable (K:zae) (E:zat) (k1 k2 k3 k4 k5:Env→Hp→Prop) (x0 x1 x2 x3 x4 x5 x6 x7 x8 x9 x10 x11 x12 x13 x14 x15 x16 x17 x18 x19 x20 x21 x22 x23 x24 x25 x26 x27 x28 x29 x30 x31 x32 x33 x34 x35 x36 x37 x38 x39 x40 x41 x42 x43 x44 x45 x46 x47 x48 x49 x50 x51 x52 x53 x54 x55 x56 x57 x58 v0 v1 v2 v3 v4 v5 v6 v7 v8 v9 v10 v11 v12 v13 v14 v15 v16 v17 v18 v19 v20 v21 v22 v23 v24 v25 v26 v27 v28 v29 v30 v31 v32 v33 v34 v35 v36 v37 v38 v39 v40 v41 v42 v43 v44 v45 v46 v47 v48 v49 v50 v51 v52 v53 v54 v55 v56 v57 v58:Value) (j:Nat→Value)
abbrev q13:QD:=zab Tryz.prog Tryz.f13.results.toList K E
abbrev d13 (p:List Nat):QD→Env→Hp→Prop:=den Tryz.prog (sel (za8 Tryz.f13) p)
theorem t13:d13 [] (q13 K E) #[x0,U,U,U,U,U,U,U,U,U,U,U] =
 za2 Tryz.prog (.func (.func 30) #[] #[]) #[x0] (fun t1=>
 pv (za1 .ptr .eql t1 (.pointer none)) fun t2=>
 cnd t2 (
  K (.pointer none)) (
  mkm fun t3=>
  pv (bdC #[(.pointer none),(.map none),(.int .u32 0)] [(0,1),(1,1),(2,1)] #[(0,t1),(1,t3)]) fun t4=>
  nw 72 (Value.cells t4).toList fun t5=>
  K t5)) E:=by kernel_rfl
abbrev q14:QD:=zab Tryz.prog Tryz.f14.results.toList K E
abbrev d14 (p:List Nat):QD→Env→Hp→Prop:=den Tryz.prog (sel (za8 Tryz.f14) p)
theorem t14:d14 [] (q14 K E) #[x0,x1,U,U,U,U,U,U,U,U,U,U,U,U,U,U,U,U,U,U,U,U,U,U,U,U,U] =
 nw 44 (Value.cells x1).toList fun t1=>
 pv (faV 0 t1) fun t2=>
 ld false 1 t2 fun t3=>
 pv (za1 .none .eql t3 (.int .u8 1)) fun t4=>
 cnd t4 (
  ld true 10 t1 fun t5=>
  za2 Tryz.prog (.func (.func 31) #[] #[]) #[x0,t5] (fun t6=>
  K t6) E) (
  pv (za1 .none .eql t3 (.int .u8 2)) fun t7=>
  cnd t7 (
  ld true 10 t1 fun t8=>
  za2 Tryz.prog (.func (.func 32) #[] #[]) #[x0,t8] (fun t9=>
  K t9) E) (
  pv (za1 .none .eql t3 (.int .u8 3)) fun t10=>
  cnd t10 (
   ld true 10 t1 fun t11=>
   za2 Tryz.prog (.func (.func 33) #[] #[]) #[x0,t11] (fun t12=>
   K t12) E) (
   pv (za1 .none .eql t3 (.int .u8 7)) fun t13=>
   cnd t13 (
   ld true 10 t1 fun t14=>
   za2 Tryz.prog (.func (.func 34) #[] #[]) #[x0,t14] (fun t15=>
   K t15) E) (
   K (.int .u16 1))))):=by kernel_rfl
abbrev q16:QD:=zab Tryz.prog Tryz.f16.results.toList K E
abbrev d16 (p:List Nat):QD→Env→Hp→Prop:=den Tryz.prog (sel (za8 Tryz.f16) p)
theorem t16:d16 [] (q16 K E) #[x0,x1,U,U,U,U,U,U,U,U,U,U] =
 nw 32 [(.int .u8 0),(.int .u32 0)] fun t1=>
 pv (zan x0) fun t2=>
 pv (faV 1 t2) fun t3=>
 ld false 1 t3 fun t4=>
 lkp Tryz.prog 70 t4 x1 false fun t5=>
 pv (fdV true 0 2 t5) fun t6=>
 st 2 t1 t6 fun _=>
 ld true 2 t1 fun t7=>
 K t7:=by kernel_rfl
abbrev q18:QD:=zab Tryz.prog Tryz.f18.results.toList K E
abbrev d18 (p:List Nat):QD→Env→Hp→Prop:=den Tryz.prog (sel (za8 Tryz.f18) p)
theorem t18:d18 [] (q18 K E) #[x0,U,U,U,U,U,U,U,U,U,U] =
 nw 28 (Value.cells x0).toList fun t1=>
 ld false 1 t1 fun t2=>
 pv (zan t2) fun t3=>
 pv (faV 1 t3) fun t4=>
 ld false 1 t4 fun t5=>
 za2 Tryz.prog (.func (.func 39) #[] #[]) #[t5] (fun t6=>
 za2 Tryz.prog (.func (.func 38) #[] #[]) #[t6] (fun t7=>
 za2 Tryz.prog (.func (.func 37) #[] #[]) #[t7,(.func (.func 40) #[] #[t1])] (fun t8=>
 K t8) E) E) E:=by kernel_rfl
abbrev q19:QD:=zab Tryz.prog Tryz.f19.results.toList K E
abbrev d19 (p:List Nat):QD→Env→Hp→Prop:=den Tryz.prog (sel (za8 Tryz.f19) p)
theorem t19:d19 [] (q19 K E) #[x0,x1,x2,U,U,U,U,U,U,U,U,U,U,U,U,U,U,U,U,U,U] =
 nw 55 (Value.cells x1).toList fun t1=>
 za2 Tryz.prog (.func (.func 18) #[] #[]) #[x0] (fun t2=>
 pv (za9 t2) fun t3=>
 pv (za1 .none .gtr t3 (.int .i64 0)) fun t4=>
 cnd t4 (
  K (.tuple #[(.slice none 0 0),(.int .u16 141)])) (
  pv (zan x0) fun t5=>
  pv (faV 0 t5) fun t6=>
  ld false 1 t6 fun t7=>
  ld true 3 t1 fun t8=>
  za2 Tryz.prog (.func (.func 42) #[] #[]) #[t7,t8,x2] (fun t9=>
  pv (exV 0 t9) fun t10=>
  pv (exV 1 t9) fun t11=>
  K (.tuple #[t10,t11])) E)) E:=by kernel_rfl
abbrev q23:QD:=zab Tryz.prog Tryz.f23.results.toList K E
abbrev d23 (p:List Nat):QD→Env→Hp→Prop:=den Tryz.prog (sel (za8 Tryz.f23) p)
theorem t23:d23 [] (q23 K E) #[x0,U,U,U,U,U,U] =
 pv (zan x0) fun t1=>
 pv (faV 2 t1) fun t2=>
 ld false 1 t2 fun t3=>
 K t3:=by kernel_rfl
abbrev q31:QD:=zab Tryz.prog Tryz.f31.results.toList K E
abbrev d31 (p:List Nat):QD→Env→Hp→Prop:=den Tryz.prog (sel (za8 Tryz.f31) p)
abbrev zzc:=za6 k1 (blk 1 (za6 (d31 [1,1,1,1] (q31 K E)) (q31 K E)))
def zd3 (j:Nat→Value):Env:=#[x0,x1,x2,x3,x4,x5,x6,(j 7),x8,x9,x10,x11,x12,x13,x14,x15,x16,x17,x18,x19,x20,x21,x22,x23,x24,x25,x26,x27,x28,x29,x30,x31,x32,x33,x34,x35,v36,(j 37),(j 38),(j 39),(j 40),(j 41),(j 42),(j 43),(j 44),(j 45),(j 46),(j 47),(j 48),(j 49),(j 50),(j 51),x52,x53,x54,x55,x56,x57,x58]
theorem t31:d31 [] (q31 K E) #[x0,x1,U,U,U,U,U,U,U,U,U,U,U,U,U,U,U,U,U,U,U,U,U,U,U,U,U,U,U,U,U,U,U,U,U,U,U,U,U,U,U,U,U,U,U,U,U,U,U,U,U,U,U,U,U,U,U,U,U] =
 nw 44 (Value.cells x1).toList fun t1=>
 pv (zan x0) fun t2=>
 pv (faV 1 t2) fun t3=>
 ld false 1 t3 fun t4=>
 pv (faV 1 t1) fun t5=>
 ld false 1 t5 fun t6=>
 lkp Tryz.prog 70 t4 t6 false fun t7=>
 pv (fdV true 0 2 t7) fun t8=>
 pv (fdV false 0 1 t8) fun t9=>
 pv (za1 .none .neq t9 (.int .u8 0)) fun t10=>
 cnd t10 (
  K (.int .u16 140)) (
  pv (zan x0) fun t11=>
  pv (faV 0 t11) fun t12=>
  ld false 1 t12 fun t13=>
  pv (faV 4 t1) fun t14=>
  ld false 1 t14 fun t15=>
  za2 Tryz.prog (.func (.func 27) #[] #[]) #[t13,t15] (fun t16=>
  pv (unV .not t16) fun t17=>
  cnd t17 (
  K (.int .u16 1)) (
  pv (bdC #[(.int .u8 0),(.int .u32 0)] [(0,1),(1,1)] #[(0,(.int .u8 1))]) fun t18=>
  pv (faV 3 t1) fun t19=>
  ld false 1 t19 fun t20=>
  za2 Tryz.prog (.func (.func 65) #[] #[]) #[t20] (fun t21=>
  pv (bdC #[(.int .u8 0),(.int .u32 0),(.slice none 0 0),(.slice none 0 0)] [(0,2),(2,1),(3,1)] #[(0,t18),(1,t21)]) fun t22=>
  nw 95 [(.int .u8 0),(.int .u32 0),(.slice none 0 0),(.slice none 0 0)] fun t23=>
  st 4 t23 t22 fun _=>
  pv (faV 4 t1) fun t24=>
  ld false 1 t24 fun t25=>
  pv (za9 t25) fun t26=>
  lp (fun k1=>d31 [1,1,1,0,1,0,0] (zzc K E k1)) (zd3 x0 x1 U t1 (.int .u16 0) t23 U t10 x0 t2 t3 t4 t5 t6 t7 t8 t9 t10 t17 x0 t11 t12 t13 t14 t15 t16 t17 t18 t19 t20 t21 t22 t24 t25 t26 U U U U U U U (.int .i64 0) (jf #[]))) E)) E):=by kernel_rfl
theorem zq3:d31 [1,1,1,0,1,0,0] (zzc K E k1) (zd3 x0 x1 x2 x3 x4 x5 x6 x8 x9 x10 x11 x12 x13 x14 x15 x16 x17 x18 x19 x20 x21 x22 x23 x24 x25 x26 x27 x28 x29 x30 x31 x32 x33 x34 x35 x52 x53 x54 x55 x56 x57 x58 v36 j) =
 pv (za1 .none .lss v36 x35) fun t1=>
 cnd t1 (
  pv (iaV none 2 x34 v36) fun t2=>
  ld true 2 t2 fun t3=>
  nw 90 [(.slice none 0 0),(.int .i64 0)] fun t4=>
  st 2 t4 t3 fun _=>
  pv (faV 3 x5) fun t5=>
  ld false 1 t5 fun t6=>
  pv (faV 0 t4) fun t7=>
  ld false 1 t7 fun t8=>
  pv (faV 1 t4) fun t9=>
  ld false 1 t9 fun t10=>
  za2 Tryz.prog (.func (.func 65) #[] #[]) #[t8] (fun t11 h12=>(ldV h12 false 1 t9 t10)∧(ldV h12 false 1 t5 t6)∧(
  pv (bdC #[(.slice none 0 0),(.int .i64 0)] [(0,1),(1,1)] #[(0,t11),(1,t10)]) fun t13=>
  nws 90 1 (bsC #[(.slice none 0 0),(.int .i64 0)] 2 1 #[(0,t13)]) (fun t14 h15=>(ldV h15 false 1 t5 t6)∧(
   zbf 90 2 32 t6 t14 fun t16=>
   pv (faV 3 x5) fun t17=>
   st 1 t17 t16 fun _=>
   pv (za1 .none .add v36 (.int .i64 1)) fun t18=>
   k1 (zd3 x0 x1 x2 x3 x4 x5 x6 x8 x9 x10 x11 x12 x13 x14 x15 x16 x17 x18 x19 x20 x21 x22 x23 x24 x25 x26 x27 x28 x29 x30 x31 x32 x33 x34 x35 x52 x53 x54 x55 x56 x57 x58 t18 (jf #[U,U,U,U,U,U,U,t4,U,U,U,U,U,U,U,U,U,U,U,U,U,U,U,U,U,U,U,U,U,U,U,U,U,U,U,U,U,t1,t2,t3,t5,t6,t7,t8,t11,t9,t10,t13,t14,t16,t17,t18]))) h15)) h12) E) (
  pv (zan x0) fun t19=>
  pv (faV 1 t19) fun t20=>
  ld false 1 t20 fun t21=>
  pv (faV 1 x3) fun t22=>
  ld false 1 t22 fun t23=>
  ld true 4 x5 fun t24=>
  mup Tryz.prog 70 t21 t23 t24 fun _=>
  K (.int .u16 0)):=by kernel_rfl
abbrev q32:QD:=zab Tryz.prog Tryz.f32.results.toList K E
abbrev d32 (p:List Nat):QD→Env→Hp→Prop:=den Tryz.prog (sel (za8 Tryz.f32) p)
theorem t32:d32 [] (q32 K E) #[x0,x1,U,U,U,U,U,U,U,U,U,U,U,U,U,U,U,U,U,U,U,U,U,U,U,U,U,U,U,U,U,U,U,U,U,U,U,U,U] =
 nw 44 (Value.cells x1).toList fun t1=>
 pv (faV 1 t1) fun t2=>
 ld false 1 t2 fun t3=>
 za2 Tryz.prog (.func (.func 41) #[] #[]) #[x0,t3] (fun t4=>
 pv (unV .not t4) fun t5=>
 cnd t5 (
  K (.int .u16 140)) (
  pv (zan x0) fun t6=>
  pv (faV 0 t6) fun t7=>
  ld false 1 t7 fun t8=>
  pv (faV 2 t1) fun t9=>
  ld false 1 t9 fun t10=>
  pv (zan x0) fun t11=>
  pv (faV 1 t11) fun t12=>
  ld false 1 t12 fun t13=>
  pv (faV 1 t1) fun t14=>
  ld false 1 t14 fun t15=>
  lkp Tryz.prog 70 t13 t15 false (fun t16 h17=>(ldV h17 false 1 t9 t10)∧(ldV h17 false 1 t7 t8)∧(
  pv (fdV false 3 1 t16) fun t18=>
  za2 Tryz.prog (.func (.func 66) #[] #[]) #[t8,t10,t18] (fun t19=>
  pv (za1 .none .neq t19 (.int .u16 0)) fun t20=>
  cnd t20 (
   K t19) (
   pv (zan x0) fun t21=>
   pv (faV 1 t21) fun t22=>
   ld false 1 t22 fun t23=>
   pv (faV 1 t1) fun t24=>
   ld false 1 t24 fun t25=>
   pv (faV 2 t1) fun t26=>
   ld false 1 t26 fun t27=>
   pv (bdC #[(.int .u8 0),(.int .u32 0)] [(0,1),(1,1)] #[(0,(.int .u8 2)),(1,t27)]) fun t28=>
   pv (bdC #[(.int .u8 0),(.int .u32 0),(.slice none 0 0),(.slice none 0 0)] [(0,2),(2,1),(3,1)] #[(0,t28)]) fun t29=>
   mup Tryz.prog 70 t23 t25 t29 fun _=>
   K (.int .u16 0))) E) h17))) E:=by kernel_rfl
abbrev q33:QD:=zab Tryz.prog Tryz.f33.results.toList K E
abbrev d33 (p:List Nat):QD→Env→Hp→Prop:=den Tryz.prog (sel (za8 Tryz.f33) p)
theorem t33:d33 [] (q33 K E) #[x0,x1,U,U,U,U,U,U,U,U,U,U,U,U,U,U,U,U,U,U,U,U,U] =
 nw 44 (Value.cells x1).toList fun t1=>
 pv (zan x0) fun t2=>
 pv (faV 1 t2) fun t3=>
 ld false 1 t3 fun t4=>
 pv (faV 1 t1) fun t5=>
 ld false 1 t5 fun t6=>
 lkp Tryz.prog 70 t4 t6 false fun t7=>
 pv (fdV true 0 2 t7) fun t8=>
 pv (fdV false 0 1 t8) fun t9=>
 pv (za1 .none .gtr t9 (.int .u8 1)) fun t10=>
 cnd t10 (
  K (.int .u16 140)) (
  pv (zan x0) fun t11=>
  pv (faV 1 t11) fun t12=>
  ld false 1 t12 fun t13=>
  pv (faV 1 t1) fun t14=>
  ld false 1 t14 fun t15=>
  pv (bdC #[(.int .u8 0),(.int .u32 0)] [(0,1),(1,1)] #[(0,(.int .u8 3))]) fun t16=>
  pv (bdC #[(.int .u8 0),(.int .u32 0),(.slice none 0 0),(.slice none 0 0)] [(0,2),(2,1),(3,1)] #[(0,t16)]) fun t17=>
  mup Tryz.prog 70 t13 t15 t17 fun _=>
  K (.int .u16 0)):=by kernel_rfl
abbrev q34:QD:=zab Tryz.prog Tryz.f34.results.toList K E
abbrev d34 (p:List Nat):QD→Env→Hp→Prop:=den Tryz.prog (sel (za8 Tryz.f34) p)
theorem t34:d34 [] (q34 K E) #[x0,x1,U,U,U,U,U,U,U,U,U,U,U,U,U,U,U,U,U,U,U,U,U,U,U,U,U,U,U,U,U,U] =
 nw 44 (Value.cells x1).toList fun t1=>
 pv (faV 1 t1) fun t2=>
 ld false 1 t2 fun t3=>
 pv (zan x0) fun t4=>
 pv (faV 2 t4) fun t5=>
 ld false 1 t5 fun t6=>
 pv (za1 .none .leq t3 t6) fun t7=>
 cnd t7 (
  K (.int .u16 140)) (
  pv (zan x0) fun t8=>
  pv (faV 0 t8) fun t9=>
  ld false 1 t9 fun t10=>
  pv (faV 7 t1) fun t11=>
  ld false 1 t11 fun t12=>
  pv (faV 8 t1) fun t13=>
  ld false 1 t13 fun t14=>
  pv (faV 9 t1) fun t15=>
  ld false 1 t15 fun t16=>
  za2 Tryz.prog (.func (.func 67) #[] #[]) #[t10,t12,t14,t16] (fun t17=>
  pv (za1 .none .eql t17 (.int .u16 0)) fun t18=>
  cnd t18 (
  pv (faV 1 t1) fun t19=>
  ld false 1 t19 fun t20=>
  pv (zan x0) fun t21=>
  pv (faV 2 t21) fun t22=>
  st 1 t22 t20 fun _=>
  d34 [1,1,1,1] (q34 K E) #[x0,x1,U,t1,(.int .u16 0),t17,t2,t3,x0,t4,t5,t6,t7,x0,t8,t9,t10,t11,t12,t13,t14,t15,t16,t17,t17,t18,x0,t19,t20,t21,t22,U]) (
  d34 [1,1,1,1] (q34 K E) #[x0,x1,U,t1,(.int .u16 0),t17,t2,t3,x0,t4,t5,t6,t7,x0,t8,t9,t10,t11,t12,t13,t14,t15,t16,t17,t17,t18,U,U,U,U,U,U])) E):=by kernel_rfl
theorem zqs:d34 [1,1,1,1] (q34 K E) #[x0,x1,x2,x3,x4,x5,x6,x7,x8,x9,x10,x11,x12,x13,x14,x15,x16,x17,x18,x19,x20,x21,x22,x23,x24,x25,x26,x27,x28,x29,x30,x31] =
 K x5:=by kernel_rfl
abbrev q61:QD:=zab Tryz.prog Tryz.f61.results.toList K E
abbrev d61 (p:List Nat):QD→Env→Hp→Prop:=den Tryz.prog (sel (za8 Tryz.f61) p)
theorem t61:d61 [] (q61 K E) #[x0,x1,U,U,U,U,U,U,U,U,U,U,U] =
 pv (zan x0) fun t1=>
 pv (faV 1 t1) fun t2=>
 ld false 1 t2 fun t3=>
 lkp Tryz.prog 70 t3 x1 false fun t4=>
 pv (fdV false 2 1 t4) fun t5=>
 za2 Tryz.prog (.func (.func 65) #[] #[]) #[t5] (fun t6=>
 K t6) E:=by kernel_rfl
end
section
variable {K:zae} {E:zat} {k1 k2 k3 k4 k5:Env→Hp→Prop} {σ:Type} {x0 x1 x2 x3 x4 x5 x6 x7 x8 x9 x10 x11 x12 x13 x14 x15 x16 x17 x18 x19 x20 x21 x22 x23 x24 x25 x26 x27 x28 x29 x30 x31 x32 x33 x34 x35 x36 x37 x38 x39 x40 x41 x42 x43 x44 x45 x46 x47 x48 x49 x50 x51 x52 x53 x54 x55 x56 x57 x58 v0 v1 v2 v3 v4 v5 v6 v7 v8 v9 v10 v11 v12 v13 v14 v15 v16 v17 v18 v19 v20 v21 v22 v23 v24 v25 v26 v27 v28 v29 v30 v31 v32 v33 v34 v35 v36 v37 v38 v39 v40 v41 v42 v43 v44 v45 v46 v47 v48 v49 v50 v51 v52 v53 v54 v55 v56 v57 v58:Value} {h:Hp} {j:Nat→Value}
theorem zpw (f36:σ→Value) (I:σ→Hp→Prop) (μ:σ→Nat) (s0:σ) (e36:v36=f36 s0) (h0:h.wf→∃ h',h.wk h'∧I s0 h')
 (round:∀ (k1:Env→Hp→Prop) (s:σ) (j:Nat→Value) (h:Hp),I s h→h.wf→(∀ s' j' h',μ s'<μ s→(h'.wf→∃ h'',h'.wk h''∧I s' h'')→k1 (zd3 x0 x1 x2 x3 x4 x5 x6 x8 x9 x10 x11 x12 x13 x14 x15 x16 x17 x18 x19 x20 x21 x22 x23 x24 x25 x26 x27 x28 x29 x30 x31 x32 x33 x34 x35 x52 x53 x54 x55 x56 x57 x58 (f36 s') j') h')→d31 [1,1,1,0,1,0,0] (zzc K E k1) (zd3 x0 x1 x2 x3 x4 x5 x6 x8 x9 x10 x11 x12 x13 x14 x15 x16 x17 x18 x19 x20 x21 x22 x23 x24 x25 x26 x27 x28 x29 x30 x31 x32 x33 x34 x35 x52 x53 x54 x55 x56 x57 x58 (f36 s) j) h) :
 lp (fun k1=>d31 [1,1,1,0,1,0,0] (zzc K E k1)) (zd3 x0 x1 x2 x3 x4 x5 x6 x8 x9 x10 x11 x12 x13 x14 x15 x16 x17 x18 x19 x20 x21 x22 x23 x24 x25 x26 x27 x28 x29 x30 x31 x32 x33 x34 x35 x52 x53 x54 x55 x56 x57 x58 v36 j) h:=by
 subst e36
 exact zaj (fun s j=>zd3 x0 x1 x2 x3 x4 x5 x6 x8 x9 x10 x11 x12 x13 x14 x15 x16 x17 x18 x19 x20 x21 x22 x23 x24 x25 x26 x27 x28 x29 x30 x31 x32 x33 x34 x35 x52 x53 x54 x55 x56 x57 x58 (f36 s) j) I μ round s0 j h0
end
end Go.Proofs.YtgcmbkoejjcjlaaGreatDoor.T
open Go Go.RowKit Go.Proofs.YtgcmbkoejjcjlaaGreatDoor.K Go.Proofs.YtgcmbkoejjcjlaaGreatDoor.T
set_option linter.unusedVariables false
set_option linter.unusedSimpArgs false
namespace Go.Proofs.YtgcmbkoejjcjlaaGreatDoor.A
variable {F F':Nat→Option (List Value)} {M M':Nat→Option zak} {N N':Nat} {K:zae} {E:zat}
theorem ya3 {x:Int} (h:(Lit.int .i64 x).wf=true):i64 x:=by
 have h':-9223372036854775808≤x∧x≤9223372036854775807:=by simpa [Lit.wf,IntKind.min,IntKind.max,IntKind.signed,IntKind.bits] using h
 exact h'
theorem zl9 {α:Type} {R:List Value→α→Prop} {sz:Nat} {rows:List (List Value)} {xs:List α} (h:zad R sz rows xs):∀ x∈xs,∃ r,R r x:=fun x hx=>by
 obtain ⟨i,hi,rfl⟩:=List.mem_iff_getElem.1 hx
 obtain ⟨r,_,h2,_⟩:=h.get (List.getElem?_eq_getElem hi)
 exact ⟨r,h2⟩
theorem yol {cs:List Value} {l:List Int} (h:rS 1 (rI .i64) F cs l):∃ v,cs=[v]∧sF F 1 v l.length (ic l)∧(∀ x∈l,i64 x)∧l.length≤140737488351232:=by
 obtain ⟨v,rows,rfl,h2⟩:=h
 obtain ⟨h3,h4,h5⟩:=yc0 ⟨v,rows,rfl,h2⟩
 exact ⟨v,rfl,h3,fun x hx=>ya3 (h4 x hx),h5⟩
theorem yb4 {v:Value} {y:List (List Int×Int)} (h:rS 2 (rP (rS 1 (rI .i64)) (rI .i64)) F [v] y):zar F v y∧y.length≤140737488351232∧∀ f∈y,(∀ x∈f.1,i64 x)∧i64 f.2:=by
 obtain ⟨v',rows,e,hv,hr,hl⟩:=h
 injection e with e _
 subst e
 have hr':zad (fun r f=>zc1 F r f∧(∀ x∈f.1,i64 x)∧i64 f.2) 2 rows y:=hr.mono fun r f ⟨c1,c2,e,ha,hb⟩=>by
  obtain ⟨u,rfl,h1,h2,h3⟩:=yol ha
  obtain ⟨rfl,h4⟩:=hb
  exact ⟨⟨u,by rw [e]; rfl,h1,h3⟩,h2,ya3 h4⟩
 exact ⟨⟨rows,hv,hr'.mono fun _ _ h=>h.1⟩,hl,fun f hf=>by obtain ⟨r,h⟩:=zl9 hr' f hf; exact h.2⟩
abbrev ynw:(Nat→Option (List Value))→List Value→Int×Int×Int×Int→Prop:=rP (rI .i64) (rP (rI .i64) (rP (rI .i64) (rI .i64)))
abbrev yth:(Nat→Option (List Value))→List Value→List Int×Int×Int×Int×Int→Prop:=rP (rS 1 (rI .i64)) ynw
def ytc (y:List Int×Int×Int×Int×Int):Rw:=(y.1,⟨y.2.1,y.2.2.1,y.2.2.2.1,y.2.2.2.2⟩)
theorem yjn {α β γ:Type} {R:α→γ→Prop} (f:β→γ) {xs:List α} {ys:List β} (h:zi7 (fun a b=>R a (f b)) xs ys):zi7 R xs (ys.map f) :=
 ⟨by simp [h.1],fun i x y hx hy=>by
  rw [List.getElem?_map] at hy
  cases hb:ys[i]? with
  | none=>rw [hb] at hy; cases hy
  | some b=>rw [hb] at hy; simp at hy; subst hy; exact h.2 i x b hx hb⟩
theorem yfj {α β:Type} {R:List Value→β→Prop} {sz:Nat} (f:α→β) {rows:List (List Value)} {xs:List α} (h:zad (fun r x=>R r (f x)) sz rows xs):zad R sz rows (xs.map f):=⟨h.len,h.one,yjn f h.all⟩
theorem zt2 {x:Int} (h:(Lit.int .u16 x).wf=true):0≤x∧x<65536:=by
 have h':0≤x∧x≤65535:=by simpa [Lit.wf,IntKind.min,IntKind.max,IntKind.signed,IntKind.bits] using h
 omega
theorem ycy {x:Int} (h:(Lit.int .u8 x).wf=true):0≤x∧x<256:=by
 have h':0≤x∧x≤255:=by simpa [Lit.wf,IntKind.min,IntKind.max,IntKind.signed,IntKind.bits] using h
 omega
theorem yct {kk:IntKind} {cs:List Value} {l:List Int} (h:rS 1 (rI kk) F cs l):∃ v,cs=[v]∧sF F 1 v l.length (ick kk l)∧(∀ x∈l,(Lit.int kk x).wf=true)∧l.length≤140737488351232:=by
 obtain ⟨v,rows,rfl,h2⟩:=h
 obtain ⟨h3,h4,h5⟩:=yc0 ⟨v,rows,rfl,h2⟩
 exact ⟨v,rfl,h3,h4,h5⟩
theorem zmh {kk:IntKind} {v:Value} {l:List Int} (h:rS 1 (rI kk) F [v] l):sF F 1 v l.length (ick kk l)∧(∀ x∈l,(Lit.int kk x).wf=true)∧l.length≤140737488351232:=by
 obtain ⟨u,e,h⟩:=yct h
 injection e with e _
 subst e; exact h
theorem yje {kk:IntKind} {v:Value} {ls:List (List Int)} (h:rS 1 (rS 1 (rI kk)) F [v] ls):zis kk F v ls∧ls.length≤140737488351232∧∀ l∈ls,∀ x∈l,(Lit.int kk x).wf=true:=by
 obtain ⟨v',rows,e,hv,hr,hl⟩:=h
 injection e with e _
 subst e
 have hr':zad (fun r c=>(∃ u,r=[u]∧sF F 1 u c.length (ick kk c)∧c.length≤140737488351232)∧∀ x∈c,(Lit.int kk x).wf=true) 1 rows ls:=hr.mono fun r c h=>by
  obtain ⟨u,rfl,h1,h2,h3⟩:=yct h
  exact ⟨⟨u,rfl,h1,h3⟩,h2⟩
 exact ⟨⟨rows,hv,hr'.mono fun _ _ h=>h.1⟩,hl,fun l hl=>by obtain ⟨r,h⟩:=zl9 hr' l hl; exact h.2⟩
abbrev yme:(Nat→Option (List Value))→List Value→Int×List Int→Prop:=rP (rI .u16) (rS 1 (rI .u8))
theorem ykt {v:Value} {y:List (Int×List Int)} (h:rS 2 yme F [v] y):zps F v y∧y.length≤140737488351232∧∀ c∈y,(0≤c.1∧c.1<65536)∧∀ x∈c.2,0≤x∧x<256:=by
 obtain ⟨v',rows,e,hv,hr,hl⟩:=h
 injection e with e _
 subst e
 have hr':zad (fun r f=>zwc F r f∧(0≤f.1∧f.1<65536)∧∀ x∈f.2,0≤x∧x<256) 2 rows y:=hr.mono fun r f ⟨c1,c2,e,⟨ha,hb⟩,hc⟩=>by
  obtain ⟨u,rfl,h1,h2,h3⟩:=yct hc
  exact ⟨⟨u,by rw [e,ha]; rfl,h1,h3⟩,zt2 hb,fun x hx=>ycy (h2 x hx)⟩
 exact ⟨⟨rows,hv,hr'.mono fun _ _ h=>h.1⟩,hl,fun c hc=>by obtain ⟨r,h⟩:=zl9 hr' c hc; exact h.2⟩
abbrev yte:(Nat→Option (List Value))→List Value→Int×List Int→Prop:=rP (rI .i64) (rS 1 (rI .i64))
theorem zqh (p:List Int→Bool) (k:List Int):∀ t:List Rw,zbc (t.filter fun r=>p r.1) k=if p k=true then zbc t k else none
 | []=>by simp [zbc]
 | (k',c)::t=>by
  have ih:=zqh p k t
  rw [List.filter_cons]
  by_cases hk:k'=k
  ·subst hk
   by_cases hp:p k'=true
   ·rw [if_pos hp,if_pos hp]; simp [zbc]
   ·rw [if_neg hp,ih,if_neg hp,if_neg hp]
  ·have e:zbc ((k',c)::t) k=zbc t k:=by simp [zbc,hk]
   rw [e]
   split
   ·rw [← ih]; simp [zbc,hk]
   ·exact ih
theorem zqm (p:List Int→Bool) (k:List Int):∀ ls:List KV,zap (ls.filter fun x=>p x.1) k=if p k=true then zap ls k else []
 | []=>by simp [zap]
 | x::ls=>by
  have ih:=zqm p k ls
  rw [List.filter_cons,zcn]
  by_cases hk:x.1=k
  ·by_cases hp:p x.1=true
   ·have hp':p k=true:=by rw [← hk]; exact hp
    rw [if_pos hp,zcn,ih,if_pos hp',if_pos hp']
   ·rw [if_neg hp,ih,← hk,if_neg hp,if_neg hp]
  ·rw [if_neg hk,List.nil_append]
   split
   ·rw [zcn,if_neg hk,List.nil_append,ih]
   ·exact ih
theorem zp8 (p:KV→Bool):∀ ls:List KV,zby (ls.filter p)≤zby ls
 | []=>by simp
 | x::ls=>by
  have ih:=zp8 p ls
  rw [List.filter_cons]
  split
  ·simp only [zby,List.map_cons,List.sum_cons] at ih ⊢; omega
  ·simp only [zby,List.map_cons,List.sum_cons] at ih ⊢; omega
def ztj (lo hi:List Int) (ls:List KV):List KV:=ls.filter fun x=>zcm lo hi x.1
theorem zch.cut {l:List Dm} {t:List Rw} {ls:List KV} (h:zch l t ls) (lo hi:List Int):zch l (zfs lo hi t) (ztj lo hi ls):=by
 refine ⟨fun k=>?_,List.Pairwise.filter _ h.srt,fun x hx=>h.key x (List.mem_filter.1 hx).1,fun x hx=>h.val x (List.mem_filter.1 hx).1⟩
 have e1:zbc (zfs lo hi t) k=if zcm lo hi k=true then zbc t k else none:=zqh (zcm lo hi) k t
 have e2:zap (ztj lo hi ls) k=if zcm lo hi k=true then zap ls k else []:=zqm (zcm lo hi) k ls
 rw [e1,e2]
 have h0:=h.has k
 by_cases hp:zcm lo hi k=true
 ·rw [if_pos hp,if_pos hp]; exact h0
 ·rw [if_neg hp,if_neg hp]
def yom (l:List Dm) (m lo hi:List Int) (ls:List KV):List KV:=reK (atF l (zcf l.length) m) (ztj lo hi ls)
theorem ykq {l:List Dm} {m:List Int} (hl:m.length=l.length) (h:zjs l m):zho l m=true:=by
 unfold zho
 rw [decide_eq_true hl,Bool.true_and,List.all_eq_true]
 intro i hi
 have i1:=List.mem_range.1 hi
 unfold lvP
 rw [zb0 i1]
 have := h i i1
 exact decide_eq_true ⟨by omega,by omega⟩
theorem yf1 {l:List Dm} {m lo hi:List Int} (hd:zbh l=true) (hl:m.length=l.length) (h:zjs l m) (hb:zfc l lo hi=true):zdg l m lo hi=0:=by
 unfold zdg
 rw [hd,ykq hl h,hb]; rfl
theorem zch.run {l:List Dm} {t:List Rw} {ls:List KV} (h:zch l t ls) {m lo hi:List Int} (hd:zbh l=true) (hl:m.length=l.length) (hm:zjs l m) (hb:zfc l lo hi=true) (h1:t.length≤500) (h2:zby ls≤1000) :
  ze9 l t m lo hi=0∧zch l (zft l t m lo hi) (yom l m lo hi ls):=by
 have hc:=h.cut lo hi
 have h3:=zji lo hi t
 have h4:=zp8 (fun x=>zcm lo hi x.1) ls
 have h6:zby (ztj lo hi ls)≤1000:=Nat.le_trans h4 h2
 obtain ⟨h5,hg⟩:=hc.rolled hd (yae hl hm) (ymq (by omega) h6)
 have h7:(zfu l t m lo hi).length≤500:=by unfold zfu; have := zln l (zfs lo hi t) (zcf l.length) m; omega
 have e:ze9 l t m lo hi=0:=by
  unfold ze9
  rw [if_pos (yf1 hd hl hm hb),if_neg (by rw [h.sound]; decide),if_neg (by omega)]
 refine ⟨e,?_⟩
 unfold zft
 rw [if_pos e]; exact hg
theorem zch.none (l:List Dm):zch l [] []:=⟨fun k=>by simp [zbc,zap],.nil,by simp,by simp⟩
abbrev En:=Int×List Fc
def zcv (F:Nat→Option (List Value)) (cs:List Value) (e:En):Prop:=∃ v,cs=[.int .u32 e.1,v]∧zar F v e.2∧e.2.length≤140737488351232
theorem zcv.mono {cs:List Value} {e:En} (h:zcv F cs e) (hF:zac F F'):zcv F' cs e:=let ⟨v,h1,h2,h3⟩:=h; ⟨v,h1,h2.mono hF,h3⟩
theorem zar.form {v:Value} {t:List Fc} (h:zar F v t):∃ a c,v=.slice a t.length c:=let ⟨rows,h1,_⟩:=h; let ⟨a,c,h2,_⟩:=h1.form; ⟨a,c,h2⟩
theorem zcv.one {cs:List Value} {e:En} (h:zcv F cs e):cs.length=2∧∀ c∈cs,c.oneCell'=true:=by
 obtain ⟨v,rfl,hv,_⟩:=h
 obtain ⟨a,c,rfl⟩:=hv.form
 exact ⟨rfl,List.all_eq_true.1 rfl⟩
def zbw (h:List En):Prop:=h.Pairwise fun a b=>a.1<b.1
def zaz:List En→Int→Nat
 | [],_=>0
 | e::h,t=>if e.1<t then zaz h t+1 else 0
theorem zi6:∀ (h:List En) (t:Int),zaz h t≤h.length
 | [],_=>Nat.le_refl _
 | e::h,t=>by unfold zaz; split; simp; exact zi6 h t; simp
theorem zkt:∀ {h:List En} {t:Int} {i:Nat} (hi:i<h.length),i<zaz h t→h[i].1<t
 | e::h,t,i,hi,hp=>by
  unfold zaz at hp
  split at hp
  ·cases i with
   | zero=>assumption
   | succ i=>exact zkt (h:=h) (by simpa using hi) (by omega)
  ·omega
theorem zjj:∀ {h:List En} {t:Int} (hs:zbw h) {i:Nat} (hi:i<h.length),zaz h t≤i→t≤h[i].1
 | e::h,t,hs,i,hi,hp=>by
  obtain ⟨h1,h2⟩:=List.pairwise_cons.1 hs
  unfold zaz at hp
  split at hp
  ·cases i with
   | zero=>omega
   | succ i=>exact zjj h2 (by simpa using hi) (by omega)
  ·rename_i hn
   cases i with
   | zero=>simp; omega
   | succ i=>
    have := h1 (h[i]'(by simpa using hi)) (List.getElem_mem _)
    simp only [List.getElem_cons_succ]; omega
def zc4 (h:List En) (t:Int):Bool:=match h[zaz h t]? with
 | some e=>decide (e.1=t)
 | none=>false
theorem yfh {a:Int} (k:(Hp.mk F M N).wf→K (.bool false) ⟨F,M,N⟩):za2 Tryz.prog (.func (.func 132) #[] #[]) #[.int .u32 a] K E ⟨F,M,N⟩:=by
 refine za3 mixed Tryz.func132 (by kernel_rfl) (yn1 _ E _) (fun hw=>?_)
 refine zc9 (fun h=>absurd rfl h) (fun _=>?_)
 exact fun hc=>⟨_,za0 hc,fun hw'=>k hw'⟩
def zqz (a b:Int):Int:=if a<b then -1 else if a>b then 1 else 0
set_option maxRecDepth 10000 in
theorem ymx {a b:Int} (k:(Hp.mk F M N).wf→K (.int .i64 (zqz a b)) ⟨F,M,N⟩):za2 Tryz.prog (.func (.func 102) #[] #[]) #[.int .u32 a,.int .u32 b] K E ⟨F,M,N⟩:=by
 refine za3 mixed Tryz.func102 (by kernel_rfl) (yp0 _ E _ _) (fun hw=>?_)
 refine yfh (fun _=>yfh (fun _=>?_))
 unfold zqz at k
 try simp only [sS]
 refine zaf (fun h=>?_) (fun h=>?_)
 ·try simp only [sS]
  rw [if_pos h] at k
  exact fun hc=>⟨_,za0 hc,fun hw'=>k hw'⟩
 rw [if_neg h] at k
 try simp only [sS]
 refine zbu (fun h2=>?_) (fun h2=>?_)
 ·try simp only [sS]
  rw [if_pos h2] at k
  exact fun hc=>⟨_,za0 hc,fun hw'=>k hw'⟩
 rw [if_neg h2] at k
 try simp only [sS]
 exact fun hc=>⟨_,za0 hc,fun hw'=>k hw'⟩
theorem ybz {cs:List Value} {e:En} {t:Int} (he:zcv F cs e) (k:∀ N',N≤N'→(Hp.mk F M N').wf→K (.int .i64 (zqz e.1 t)) ⟨F,M,N'⟩):za2 Tryz.prog (.func (.func 101) #[] #[]) #[.agg cs.toArray,.int .u32 t] K E ⟨F,M,N⟩:=by
 refine za3 mixed Tryz.func101 (by kernel_rfl) (yrk _ E _ _) (fun hw=>?_)
 have hm:=hw.m
 obtain ⟨v,rfl,hv,hvl⟩:=he
 refine zal (cs:=[.int .u32 e.1,v]) (fun b hb=>?_)
 try simp only [sS]
 refine ldM (v:=.int .u32 e.1) ?_
 refine ymx (fun hw1=>?_)
 exact fun hc=>⟨⟨F,M,b+1⟩,zc3 hc,fun hw'=>k _ (by omega) hw'⟩
theorem zk5 {α:Type} {R:List Value→α→Prop} {B sz:Nat} {e:TypeId} {v:Value} {l:List α} {rows:List (List Value)} {K:Value→zae} (hv:own M B e sz v l.length rows.flatten) (hr:zad R sz rows l) (hz:0<sz) {i:Nat} (hi:i<l.length)
  (k:∀ p r,rows[i]?=some r→R r l[i]→r.length=sz→(∀ x∈r,x.oneCell'=true)→K p (.agg r.toArray) ⟨F,M,N⟩):pv (iaV none sz v (.int .i64 (i:Nat))) (fun p=>ld true sz p (K p)) ⟨F,M,N⟩:=by
 rcases hv.2 with ⟨rfl,h0⟩ | ⟨b,c,rest,rfl,h1,h2,h3,h4⟩
 ·omega
 obtain ⟨r,hri,hR,_⟩:=hr.get (List.getElem?_eq_getElem hi)
 have hil:=(List.getElem?_eq_some_iff.1 hri).1
 have hrm:r∈rows:=List.mem_of_getElem? hri
 have hlen:=hr.len r hrm
 have hfl:=hr.flen
 have hle:i*sz+sz≤l.length*sz:=by rw [← Nat.succ_mul]; exact Nat.mul_le_mul_right _ hi
 have hd:(rows.flatten.drop (i*sz)).take sz=r:=by
  rw [zkv rows i hr.len,List.drop_eq_getElem_cons hil,List.flatten_cons]
  rw [(List.getElem?_eq_some_iff.1 hri).2,← hlen,List.take_left]
 refine zbz hi (zfj (zfx (zaq h4) (by rw [List.length_append]; omega) ?_) (k _ r hri hR hlen (hr.one r hrm)))
 rw [Nat.zero_add,List.drop_append_of_le_length (by omega),List.take_append_of_le_length (by rw [List.length_drop]; omega),hd]
theorem yfe {k:IntKind} {a:Nat} {h:Hp} (h1:a≤9223372036854775807) (kk:K (.int .u64 (a:Nat)) h):pv (cvV .u64 (.int k (a:Nat))) K h :=
 ⟨_,rfl,by rw [yb2 (by omega) (by omega)]; exact kk⟩
theorem ymy {a:Nat} {h:Hp} (h1:a≤9223372036854775807) (kk:K (.int .u64 ((a/2:Nat):Int)) h):pv (za1 .none .shr (.int .u64 (a:Nat)) (.int .u64 1)) K h:=by
 have e:za1 .none .shr (.int .u64 (a:Nat)) (.int .u64 1)=some (.int .u64 ((a:Int).fdiv 2)):=by kernel_rfl
 refine ⟨_,e,?_⟩
 rw [Int.fdiv_eq_ediv_of_nonneg _ (by omega)]
 exact kk
theorem yc7 {a b:Int}:zqz a b<0↔a<b:=by unfold zqz; split<;>(try split)<;>omega
theorem yco {a b:Int}:zqz a b=0↔a=b:=by unfold zqz; split<;>(try split)<;>omega
theorem zjp {h:List En} {t:Int} (hi:zaz h t<h.length):zc4 h t=decide (h[zaz h t].1=t):=by
 unfold zc4; rw [List.getElem?_eq_getElem hi]
theorem zld {h:List En} {t:Int} (hi:¬ zaz h t<h.length):zc4 h t=false:=by
 unfold zc4; rw [List.getElem?_eq_none (by omega)]
theorem zu0 {B:Nat} {v:Value} {rows:List (List Value)} {h:List En} {t:Int} (hv:own M B 74 2 v h.length rows.flatten) (hr:zad (zcv F) 2 rows h) (hs:zbw h) (hl:h.length≤100000000000)
  (k:∀ N',N≤N'→(Hp.mk F M N').wf→K (.tuple #[.int .i64 (zaz h t:Nat),.bool (zc4 h t)]) ⟨F,M,N'⟩):za2 Tryz.prog (.func (.func 72) #[] #[]) #[v,.int .u32 t] K E ⟨F,M,N⟩:=by
 refine za3 mixed Tryz.func72 (by kernel_rfl) (t72 _ E _ _) (fun hw=>?_)
 refine za3 mixed Tryz.func100 (by kernel_rfl) (yp2 _ E _ _ _) (fun hw=>?_)
 have hlv:za9 v=some (.int .i64 (h.length:Nat)):=by obtain ⟨a,c,rfl,_⟩:=hv.form; rfl
 have hpl:=zi6 h t
 refine zaa hlv ?_
 refine zs8 (σ:=Nat×Nat) (fun s=>.int .i64 (s.1:Nat)) (fun s=>.int .i64 (s.2:Nat)) (fun s h'=>∃ N',h'=⟨F,M,N'⟩∧N≤N'∧s.1≤zaz h t∧zaz h t≤s.2∧s.2≤h.length) (fun s=>s.2 - s.1) (0,h.length) rfl rfl
  (fun hw1=>⟨_,za0 hw1,N,rfl,Nat.le_refl _,Nat.zero_le _,hpl,Nat.le_refl _⟩) (fun k1 s j h1 hI hw1 next=>?_)
 rw [zs2]
 obtain ⟨N1,rfl,hN1,a1,a2,a3⟩:=hI
 refine zaf (fun hlt=>?_) (fun hge=>?_)
 ·try simp only [sS]
  refine znc (by omega) (yfe (by omega) (ymy (by omega) (zml (by omega) ?_)))
  have hm:(s.1+s.2)/2<h.length:=by omega
  refine zk5 hv hr (by decide) hm fun p r _ hR _ _=>?_
  refine ybz hR (fun N2 hN2 hw2=>?_)
  refine zaf (fun hc=>?_) (fun hc=>?_)
  ·rw [yc7] at hc
   have:¬ zaz h t≤(s.1+s.2)/2:=fun e=>by have := zjj hs hm e; omega
   try simp only [sS]
   refine zai (by omega) ?_
   exact next ((s.1+s.2)/2+1,s.2) _ _ (by simp only; omega) (fun hw3=>⟨_,za0 hw3,N2,rfl,by omega,by simp only; omega,by simp only; omega,by simp only; omega⟩)
  ·rw [yc7] at hc
   have:¬ (s.1+s.2)/2<zaz h t:=fun e=>hc (zkt hm e)
   try simp only [sS]
   exact next (s.1,(s.1+s.2)/2) _ _ (by simp only; omega) (fun hw3=>⟨_,za0 hw3,N2,rfl,by omega,by simp only; omega,by simp only; omega,by simp only; omega⟩)
 ·try simp only [sS]
  have e:s.1=zaz h t:=by omega
  rw [e]
  refine zaf (fun hc=>?_) (fun hc=>?_)
  ·have hp:zaz h t<h.length:=by omega
   try simp only [sS]
   refine zk5 hv hr (by decide) hp fun p r _ hR _ _=>?_
   refine ybz hR (fun N2 hN2 hw2=>?_)
   rw [zjp hp] at k
   refine zba (fun hz=>?_) (fun hz=>?_)
   ·rw [yco] at hz
    rw [decide_eq_true hz] at k
    try simp only [sS]
    exact fun hc=>⟨_,za0 hc,fun hw3=>by
     try simp only [sS]
     exact fun hc=>⟨_,za0 hc,fun hw'=>k _ (by omega) hw'⟩⟩
   ·rw [yco] at hz
    rw [decide_eq_false hz] at k
    try simp only [sS]
    exact fun hc=>⟨_,za0 hc,fun hw3=>by
     try simp only [sS]
     exact fun hc=>⟨_,za0 hc,fun hw'=>k _ (by omega) hw'⟩⟩
  ·rw [zld (by omega)] at k
   try simp only [sS]
   exact fun hc=>⟨_,za0 hc,fun hw3=>by
    try simp only [sS]
    exact fun hc=>⟨_,za0 hc,fun hw'=>k _ (by omega) hw'⟩⟩
theorem yj8 {v:Value} {t:List Fc} {rows:List (List Value)} {p:Nat→Prop} (ho:own M N 90 2 v t.length rows.flatten) (hr:zad (zc1 F) 2 rows t) (hc:(Hp.mk F M N').wf) (hp:∀ q,v.ownBlock=some q→p q):zar (frzP F M p) v t :=
 ⟨rows,ho.frzP hp,hr.mono fun _ _ h=>h.mono (zbd hc)⟩
set_option maxRecDepth 10000 in
theorem zzq {v:Value} {l:List Fc} (hv:zar F v l) (hl:l.length≤1000000000) (hk:∀ f∈l,f.1.length≤10000000000)
  (k:za7 M N→∀ v' F' M' N' rows,zac F F'→N≤N'→own M' N 90 2 v' l.length rows.flatten→zad (zc1 F') 2 rows l→(∀ q,q<N→M' q=M q)→za7 M' N'→(Hp.mk F' M' N').wf→∃ h',(Hp.mk F' M' N').wk h'∧(h'.wf→K v' h')) :
  za2 Tryz.prog (.func (.func 76) #[] #[]) #[v] K E ⟨F,M,N⟩:=by
 refine za3 mixed Tryz.func76 (by kernel_rfl) (t76 _ E _) (fun hw=>?_)
 have hm:za7 M N:=hw.m
 obtain ⟨trs,hvs,hrs⟩:=hv
 refine zam hvs ?_
 refine zt4 (σ:=Nat×Value) (fun s=>s.2) (fun s=>.int .i64 (s.1:Nat))
  (fun s h=>∃ F' M' N' rows,h=⟨F',M',N'⟩∧zac F F'∧N≤N'∧(∀ q,q<N→M' q=M q)∧za7 M' N'∧s.1≤l.length∧own M' N 90 2 s.2 s.1 rows.flatten∧zad (zc1 F') 2 rows (l.take s.1)) (fun s=>l.length - s.1) (0,.slice none 0 0) rfl rfl
  (fun hw1=>⟨_,za0 hw1,F,M,N,[],rfl,zac.refl _,Nat.le_refl _,fun _ _=>rfl,hm,Nat.zero_le _,own.nil,zad.nil _ _⟩) (fun k1 s j h1 hI hw1 next=>?_)
 rw [zv2]
 obtain ⟨F1,M1,N1,rows,rfl,hF1,hN1,hM1,hm1,hi',ho,hr⟩:=hI
 refine zaf (fun hlt=>?_) (fun hge=>?_)
 ·have h1:s.1<l.length:=by omega
  try simp only [sS]
  refine zcr (hvs.mono hF1) (hrs.mono fun _ _ h=>h.mono hF1) (by decide) h1 (fun p r _ hR hrl hr1=>?_)
  obtain ⟨kv,hre,hkv,hkl⟩:=hR
  subst hre
  refine zal (fun b1 hb1=>?_)
  refine stM (cs':=[kv,.int .i64 l[s.1].2]) ?_ (za5 _ _ _) rfl rfl hr1
  rw [zbe]
  have hb2:=za5 M1 b1 (some (.cells 90 [kv,.int .i64 l[s.1].2] [Value.slice none 0 0,Value.int .i64 0].length))
  have hM2:∀ q,q<N→upd M1 b1 (some (.cells 90 [kv,.int .i64 l[s.1].2] [Value.slice none 0 0,Value.int .i64 0].length)) q=M q:=fun q hq=>(za4 _ _ (by omega)).trans (hM1 q hq)
  have ho2:=ho.box hm1 hb1 (some (.cells 90 [kv,.int .i64 l[s.1].2] [Value.slice none 0 0,Value.int .i64 0].length))
  have hm2:=hm1.new hb1 (some (.cells 90 [kv,.int .i64 l[s.1].2] [Value.slice none 0 0,Value.int .i64 0].length))
  generalize upd M1 b1 _=M2 at *
  try simp only [sS]
  refine ldM (v:=kv) ?_ hb2
  try simp only [sS]
  refine ldM (v:=.int .i64 l[s.1].2) ?_ hb2
  refine zmg hm2 hkv.sR (by have := hk _ (List.getElem_mem h1); omega) (fun kv' F3 N3 hw3 hF3 hN3 hkv'=>?_)
  refine ⟨zao (zaq hb2) rfl,?_⟩
  have h1f:zc1 F3 [kv',.int .i64 l[s.1].2] l[s.1]:=⟨kv',rfl,hkv',hkl⟩
  obtain ⟨ak,ck,hkf,hck⟩:=hkv'.form
  refine zaa (v:=.agg #[kv',.int .i64 l[s.1].2]) (by rw [hkf]; kernel_rfl) ?_
  refine zcq (new:=[kv',.int .i64 l[s.1].2]) ho2 hw3.m (by omega) (by rw [hkf]; kernel_rfl) rfl h1f.one.2 (by omega) (by unfold maxLen; omega) (fun p v' M4 N4 h4 h5 h6 h7=>?_)
  refine zai (by omega) ?_
  refine next (s.1+1,v') _ _ (by simp only; omega) (fun hw5=>⟨_,za0 hw5,F3,M4,N4,rows++[[kv',.int .i64 l[s.1].2]],rfl,hF1.trans hF3,by omega,fun q hq=>?_,h7,h1,?_,?_⟩)
  ·exact ((h5 q (fun e=>by have := (ho2.ge q e).1; omega) (by omega)).1).trans (hM2 q hq)
  ·simpa using h4
  ·simp only
   rw [List.take_add_one,List.getElem?_eq_getElem h1,Option.toList_some]
   exact zau (hr.mono fun _ _ h=>h.mono hF3) h1f.one h1f
 ·try simp only [sS]
  rw [show s.1=l.length by omega] at ho
  rw [List.take_of_length_le (by omega)] at hr
  exact fun hc=>k hm s.2 F1 M1 N1 rows hF1 hN1 ho hr hM1 hm1 hc
theorem zk4 {v:Value} {t:List Fc} {rows:List (List Value)} (hc:(Hp.mk F M' N').wf) (ho:own M' N 90 2 v t.length rows.flatten) (hr:zad (zc1 F) 2 rows t):zar (zdh F M' N) v t :=
 ⟨rows,ho.rd.frz hc (fun b hb=>.inl (ho.ge b hb).1),hr.mono fun _ _ h=>h.mono (zag hc)⟩
theorem yax {v:Value} {l:List Fc} (hv:zar F v l) (hl:l.length≤1000000000) (hk:∀ f∈l,f.1.length≤10000000000)
  (k:∀ v' F' N',(Hp.mk F' M N').wf→zac F F'→N≤N'→zar F' v' l→K v' ⟨F',M,N'⟩) :
  za2 Tryz.prog (.func (.func 76) #[] #[]) #[v] K E ⟨F,M,N⟩ :=
 zzq hv hl hk (fun hm v' F' M' N' rows hF hN ho hr hM _ hc=>⟨_,zb7 hm hM hc,fun hw'=>k _ _ _ hw' (hF.trans (zag hc)) hN (zk4 hc ho hr)⟩)
theorem yjd {v:Value} {l:List Fc} (hv:zar F v l) (hl:l.length≤1000000000) (hk:∀ f∈l,f.1.length≤10000000000)
  (k:∀ v' F' M' N' rows,zac F F'→N≤N'→own M' N 90 2 v' l.length rows.flatten→zad (zc1 F') 2 rows l→(∀ q,q<N→M' q=M q)→za7 M' N'→(Hp.mk F' M' N').wf→K v' ⟨F',M',N'⟩) :
  za2 Tryz.prog (.func (.func 76) #[] #[]) #[v] K E ⟨F,M,N⟩ :=
 zzq hv hl hk (fun _ v' F' M' N' rows hF hN ho hr hM hm' hc=>⟨_,za0 hc,fun hw'=>k v' F' M' N' rows hF hN ho hr hM hm' hw'⟩)
set_option maxRecDepth 100000 in
theorem szE:∀ w,(Go.sizeOf 74).run Tryz.prog w=.ok 2 w:=fun w=>zb3 (i:=(Tryz.prog.info? 74).getD default) (by kernel_rfl) w
theorem ydo {b o l c b2 l2 c2:Nat} {e e2:TypeId} {cs cs2:List Value} {tot tot2:Nat} (h1:M b2=some (.cells e2 cs2 tot2)) (h2:M b=some (.cells e cs tot)) (hne:b2≠b) (ht:0<tot) (k:K (.bool false) ⟨F,M,N⟩) :
  za2 Tryz.prog (.func (.func 153) #[] #[]) #[.slice (some ⟨b2,0,none⟩) l2 c2,.slice (some ⟨b,o,none⟩) l c] K E ⟨F,M,N⟩:=by
 refine .inr fun w0 w r=>⟨.bool false,w,⟨F,M,N⟩,?_,r,k⟩
 obtain ⟨_,_,_,arr2,a1,a2,_⟩:=r.cl b2 e2 cs2 tot2 h1
 obtain ⟨_,_,_,arr,a3,a4,_⟩:=r.cl b e cs tot h2
 rw [run_callFunc_extern Tryz.func153 (by kernel_rfl) (by kernel_rfl) (by kernel_rfl) (e:=Extern.SlicesOverlaps.overlaps #[42,42] #[4]) (by kernel_rfl)]
 have := Lib.run_overlaps_apart (P:=Tryz.prog) w 42 4 74 Tryz.underlying42 2 szE ⟨b2,0,none⟩ ⟨b,o,none⟩ l2 c2 l c hne e2 e arr2.size arr.size (by simp [World.shape?,a1]) (by simp [World.shape?,a3]) (by omega) (by simp [World.frozen?,a1]) (by simp [World.frozen?,a1])
 have h3:zh9 (zh9 #[] #[.slice (some ⟨b2,0,none⟩) l2 c2,.slice (some ⟨b,o,none⟩) l c]) #[] = #[Value.slice (some ⟨b2,0,none⟩) l2 c2,.slice (some ⟨b,o,none⟩) l c]:=rfl
 rw [h3,this]
 rfl
theorem yib {α:Type} (L:List α) (n:Nat) (h:n≤L.length):∃ X Y,L=X++Y∧X.length=n:=⟨L.take n,L.drop n,(List.take_append_drop n L).symm,by simp; omega⟩
theorem yj4 {b b2 n c:Nat} {A B:List (List Value)} {r rest:List Value} (hM:M b=some (.cells 74 ((A++B).flatten++rest) (c*2))) (hM2:M b2=some (.cells 74 r 2)) (hne:b2≠b) (hl:∀ r∈A++B,r.length=2) (h1:∀ r∈A++B,∀ c∈r,c.oneCell'=true)
  (hr:r.length=2) (hr1:∀ c∈r,c.oneCell'=true) (hn:(A++B).length=n) (hc:n≤c) (hcm:c≤maxLen) (hi:A.length<n) (hn2:n<100000000000)
  (k:∀ rest' b' c' N' X,(b'=b∨N≤b')→(∀ k,k≠b→k<N→X k=M k)→X b'=some (.cells 74 ((A++r::B).flatten++rest') (c'*2))→n+1≤c'→c'≤maxLen→N≤N'→(Hp.mk F X N').wf→K (.slice (some ⟨b',0,none⟩) (n+1) c') ⟨F,X,N'⟩) :
  za2 Tryz.prog (.func (.func 119) #[] #[]) #[.slice (some ⟨b,0,none⟩) n c,.int .i64 (A.length:Nat),.slice (some ⟨b2,0,none⟩) 1 1] K E ⟨F,M,N⟩:=by
 refine zzw hM rfl (by kernel_rfl) (fun ext hext=>?_)
 obtain ⟨R,hR⟩:∃ R,R=rest++ext:=⟨_,rfl⟩
 rw [List.append_assoc,← hR] at hext
 obtain ⟨M1,hM1⟩:∃ M1,M1=upd M b (some (.cells 74 ((A++B).flatten++R) (c*2))):=⟨_,rfl⟩
 rw [show (Hp.mk F M N).set b (.cells 74 ((A++B).flatten++rest++ext) (c*2))=⟨F,M1,N⟩ by rw [hM1,hR,← List.append_assoc]; rfl]
 clear hM
 have hM:M1 b=some (.cells 74 ((A++B).flatten++R) (c*2)):=by rw [hM1,za5]
 have hM2':M1 b2=some (.cells 74 r 2):=by rw [hM1,za4 _ _ hne]; exact hM2
 have hMo:∀ k,k≠b→M1 k=M k:=fun k hk=>by rw [hM1,za4 _ _ hk]
 clear hM1
 refine zlf mixed Tryz.func119 (by kernel_rfl) (yln _ E _ _ _) (fun hw=>?_)
 have hA:A.flatten.length=A.length*2:=zck _ (fun r hr=>hl r (by simp [hr]))
 have hB:B.flatten.length=B.length*2:=zck _ (fun r hr=>hl r (by simp [hr]))
 have hBl:B.length=n - A.length:=by simp at hn; omega
 rw [List.flatten_append] at hM hext
 simp only [List.length_append,hA,hB] at hext
 have hm:=hw.m
 have key:∀ b,M1 b≠none→b<N:=fun q hq=>by
  rcases Nat.lt_or_ge q N with h | h
  ·exact h
  ·exact absurd (hm q h) hq
 have hbN:=key b (by rw [hM]; simp)
 have hb2N:=key b2 (by rw [hM2']; simp)
 have h1B:∀ c∈B.flatten,c.oneCell'=true:=fun c hc=>by
  obtain ⟨q,hq,hc⟩:=List.mem_flatten.1 hc
  exact h1 q (by simp [hq]) c hc
 refine zgu A.length (by omega) hc ?_
 refine zaa rfl (zhl (by omega) (zc8 ?_))
 refine zaa rfl (zhl (by omega) (zc8 ?_))
 refine zai (by omega) (zaa rfl ?_)
 by_cases hgt:n+1>c
 ·refine ynh (by omega) (zdd ?_)
  refine zmn A.length (by omega) ?_
  refine zai (by omega) ?_
  refine zjz (by omega) (by omega) ?_
  have e0:((n+1:Nat):Int) - (A.length:Nat)=((n+1 - A.length:Nat):Int):=by omega
  rw [e0]
  refine ⟨some ⟨b,0,none⟩,A.length,c,A.flatten,n+1 - A.length,.i64,rfl,rfl,⟨by rw [hA],.inr ⟨b,0,c,_,rfl,.inr ⟨.inr ⟨_,_,hM⟩,by rw [List.drop_zero,← hA,List.append_assoc,List.take_left]⟩⟩⟩,by omega,by omega,by omega,by simp [maxLen]; omega,fun b' c' hb' hc' hcm'=>?_⟩
  have e1:A.length+(n+1 - A.length)=n+1:=by omega
  rw [e1] at hc' ⊢
  have hb'b:b'≠b:=by simp only at hb'; omega
  have hb'2:b'≠b2:=by simp only at hb'; omega
  have hZ:((List.replicate (n+1 - A.length) [Value.int .u32 0,.slice none 0 0]).flatten).length=2+B.length*2:=by
   rw [zck (sz:=2) _ (fun r hr=>by rw [(List.mem_replicate.1 hr).2]; rfl),List.length_replicate]; omega
  obtain ⟨Z1,Z2,hZe,hZ1⟩:=yib _ 2 (by rw [hZ]; omega)
  rw [hZe] at hZ ⊢
  simp only [List.length_append,hZ1] at hZ
  show pv _ _ (Hp.mk F (upd M1 b' (some (.cells 74 (A.flatten++(Z1++Z2)) (c'*2)))) (b'+1))
  refine zgu A.length (by omega) hc' ?_
  rw [if_neg (by omega)]
  refine ⟨b',_,_,_,74,_,_,1,r,rfl,za5 _ _ _,⟨by rw [hr],.inr ⟨b2,0,1,r,rfl,.inr ⟨.inr ⟨_,_,(za4 _ _ (Ne.symm hb'2)).trans hM2'⟩,by rw [List.drop_zero,List.take_of_length_le (by omega)]⟩⟩⟩,fun c hc=>hr1 c (List.mem_of_mem_take hc),by simp [hA,hZ1]; omega,?_⟩
  have em:min 1 (n+1 - A.length)=1:=by omega
  rw [em,List.take_of_length_le (by omega:r.length≤1*2)]
  have es1:zbs (A.flatten++(Z1++Z2)) (0+A.length*2) r=A.flatten++r++Z2:=by
   rw [← List.append_assoc,Nat.zero_add,← hA,zie _ _ _ _ (by omega)]
  rw [es1]
  refine zai (by omega) ?_
  refine zgu (A.length+1) (by omega) hc' ?_
  rw [if_neg (by omega)]
  refine zgu A.length (by omega) hc ?_
  rw [if_neg (by omega)]
  refine ⟨b',_,_,_,74,_,_,n - A.length,B.flatten,rfl,za5 _ _ _,⟨by rw [hB,hBl],.inr ⟨b,_,_,_,rfl,.inr ⟨.inr ⟨_,_,(za4 _ _ (Ne.symm hb'b)).trans ((za4 _ _ (Ne.symm hb'b)).trans hM)⟩,?_⟩⟩⟩,fun c hc=>h1B c (List.mem_of_mem_take hc),?_,fun hc2=>?_⟩
  ·rw [Nat.zero_add,← hA,List.append_assoc,List.drop_left,← hBl,← hB,List.take_left]
  ·simp [hA,hr]; omega
  have em2:min (n - A.length) (n+1 - (A.length+1))=B.length:=by omega
  rw [em2] at hc2 ⊢
  have es2:zbs (A.flatten++r++Z2) (0+(A.length+1)*2) (B.flatten.take (B.length*2))=A.flatten++r++B.flatten:=by
   have:0+(A.length+1)*2=(A.flatten++r).length:=by simp [hA,hr]; omega
   rw [List.take_of_length_le (by omega),this]
   have h:=zie (A.flatten++r) Z2 B.flatten [] (by omega)
   simpa using h
  rw [es2] at hc2 ⊢
  refine ⟨_,za0 hc2,fun hw'=>k [] b' c' _ _ (.inr hb') (fun q hq hqN=>?_) ?_ hc' hcm' ?_ hw'⟩
  ·simp only at hb'
   exact (za4 _ _ (by omega)).trans ((za4 _ _ (by omega)).trans ((za4 _ _ (by omega)).trans (hMo q hq)))
  ·show upd _ _ _ _=_
   rw [za5]; simp
  ·simp only at hb'; show N≤b'+1; omega
 ·refine yjz (by omega) (zc8 ?_)
  refine zai (by omega) ?_
  refine zmn (n+1) (by omega) ?_
  refine zai (by omega) ?_
  refine zgu (A.length+1) (by omega) (by omega) ?_
  rw [if_neg (by omega)]
  refine ydo hM2' hM hne (by omega) ?_
  refine zaa rfl (zdd ?_)
  refine zai (by omega) ?_
  refine zgu (A.length+1) (by omega) (by omega) ?_
  rw [if_neg (by omega)]
  refine zgu A.length (by omega) (by omega) ?_
  rw [if_neg (by omega)]
  obtain ⟨X,Y,hXY,hX⟩:=yib (B.flatten++R) 2 (by simp [hB]; omega)
  obtain ⟨Y1,R1,hY,hY1⟩:=yib Y (B.length*2) (by have := congrArg List.length hXY; simp [hX,hB] at this; omega)
  subst hY
  have hcs:A.flatten++B.flatten++R=A.flatten++X++Y1++R1:=by rw [List.append_assoc,hXY]; simp
  have em:min (n+1 - A.length) (n+1 - (A.length+1))=B.length:=by omega
  have hnews:((B.flatten++R).take ((n+1 - A.length)*2)).take (B.length*2)=B.flatten:=by
   rw [List.take_take,Nat.min_eq_left (by omega),← hB,List.take_left]
  refine ⟨b,_,_,_,74,_,_,n+1 - A.length,(B.flatten++R).take ((n+1 - A.length)*2),rfl,hM,⟨?_,.inr ⟨b,_,_,_,rfl,.inr ⟨.inr ⟨_,_,hM⟩,?_⟩⟩⟩,?_,?_,?_⟩
  ·rw [List.length_take,List.length_append,hB]; omega
  ·rw [Nat.zero_add,← hA,List.append_assoc,List.drop_left]
  ·rw [em,hnews]; exact h1B
  ·simp [hA,hB]; omega
  rw [em,hnews]
  have es1:zbs (A.flatten++B.flatten++R) (0+(A.length+1)*2) B.flatten=A.flatten++X++B.flatten++R1:=by
   have:0+(A.length+1)*2=(A.flatten++X).length:=by simp [hA,hX]; omega
   rw [hcs,this,zie _ _ _ _ (by omega)]
  rw [es1]
  refine zgu A.length (by omega) (by omega) ?_
  rw [if_neg (by omega)]
  refine ⟨b,_,_,_,74,_,_,1,r,rfl,za5 _ _ _,⟨by rw [hr],.inr ⟨b2,0,1,r,rfl,.inr ⟨.inr ⟨_,_,(za4 _ _ hne).trans hM2'⟩,by rw [List.drop_zero,List.take_of_length_le (by omega)]⟩⟩⟩,fun c hc=>hr1 c (List.mem_of_mem_take hc),by simp [hA,hB,hX]; omega,fun hc2=>?_⟩
  have em2:min 1 (n+1 - A.length)=1:=by omega
  rw [em2,List.take_of_length_le (by omega:r.length≤1*2)] at hc2 ⊢
  have es2:zbs (A.flatten++X++B.flatten++R1) (0+A.length*2) r=A.flatten++r++B.flatten++R1:=by
   have h:=zie A.flatten X r (B.flatten++R1) (by omega)
   rw [Nat.zero_add,← hA]
   simpa using h
  rw [es2] at hc2 ⊢
  refine ⟨_,za0 hc2,fun hw'=>k R1 b c _ _ (.inl rfl) (fun q hq hqN=>?_) ?_ (by omega) hcm (Nat.le_refl _) hw'⟩
  ·exact (za4 _ _ hq).trans ((za4 _ _ hq).trans (hMo q hq))
  ·show upd _ _ _ _=_
   rw [za5]; simp
set_option maxRecDepth 10000 in
theorem ynq {B b2 i:Nat} {v:Value} {rows:List (List Value)} {r:List Value} {n:Nat} (hv:own M B 74 2 v n rows.flatten) (hm:za7 M N) (hB:B≤N) (hlen:rows.length=n) (hl:∀ q∈rows,q.length=2) (h1:∀ q∈rows,∀ c∈q,c.oneCell'=true)
  (hM2:M b2=some (.cells 74 r 2)) (hne:v.ownBlock≠some b2) (hr:r.length=2) (hr1:∀ c∈r,c.oneCell'=true) (hi:i≤n) (hn:n<100000000000)
  (k:∀ v' M' N',own M' B 74 2 v' (n+1) (rows.take i++r::rows.drop i).flatten→(∀ q,v.ownBlock≠some q→q<N→M' q=M q∧v'.ownBlock≠some q)→N≤N'→za7 M' N'→(Hp.mk F M' N').wf→K v' ⟨F,M',N'⟩) :
  za2 Tryz.prog (.func (.func 119) #[] #[]) #[v,.int .i64 (i:Nat),.slice (some ⟨b2,0,none⟩) 1 1] K E ⟨F,M,N⟩:=by
 have hrw:rows.flatten.length=n*2:=hv.1
 by_cases hin:i<n
 ·rcases hv.2 with ⟨rfl,h0⟩ | ⟨b,c,rest,rfl,g1,g2,g3,g4⟩
  ·omega
  have hA:(rows.take i).length=i:=by rw [List.length_take]; omega
  have hsp:rows.take i++rows.drop i=rows:=List.take_append_drop i rows
  have hbN:b<N:=hm.lt g4
  have hne':b2≠b:=fun e=>hne (by rw [e]; rfl)
  have := yj4 (F:=F) (N:=N) (K:=K) (E:=E) (A:=rows.take i) (B:=rows.drop i) (n:=n) (c:=c) (rest:=rest) (by rw [hsp]; exact g4) hM2 hne' (by rw [hsp]; exact hl) (by rw [hsp]; exact h1) hr hr1 (by rw [hsp]; exact hlen) g1 g2 (by omega) hn (fun rest' b' c' N' X q1 q2 q3 q4 q5 q6 q7=>?_)
  ·rw [hA] at this; exact this
  ·refine k _ X N' ⟨?_,.inr ⟨b',c',rest',rfl,q4,q5,?_,q3⟩⟩ (fun q hq hqN=>⟨q2 q (fun e=>hq (by rw [e]; rfl)) hqN,fun e=>?_⟩) q6 q7.m q7
   ·have h2:∀ q∈rows.take i++r::rows.drop i,q.length=2:=fun q hq=>by
     rcases List.mem_append.1 hq with hq | hq
     ·exact hl q (List.mem_of_mem_take hq)
     ·rcases List.mem_cons.1 hq with rfl | hq
      ·exact hr
      ·exact hl q (List.mem_of_mem_drop hq)
    rw [zck _ h2,List.length_append,List.length_cons,List.length_take,List.length_drop]; omega
   ·rcases q1 with rfl | q1
    ·exact g3
    ·omega
   ·have e':b'=q:=by simpa [Value.ownBlock] using e
    rcases q1 with q1 | q1
    ·exact hq (by rw [← e',q1]; rfl)
    ·omega
 ·have e:i=n:=by omega
  subst e
  have hform:=hv.form
  obtain ⟨a,c,hvf,hc⟩:=hform
  subst hvf
  refine za3 mixed Tryz.func119 (by kernel_rfl) (yln _ E _ _ _) (fun hw=>?_)
  refine zrx i i c (Nat.le_refl _) hc (Nat.le_refl _) ?_ (h4:=fun _=>⟨rfl,hc⟩)
  try simp only [sS]
  refine zhl (by omega) ?_
  try simp only [sS]
  refine zi3 rfl ?_
  try simp only [sS]
  refine hv.app (m:=1) (news:=r) hm hB ⟨by rw [hr],.inr ⟨b2,0,1,r,rfl,Nat.le_refl _,.inr ⟨_,_,hM2⟩,by rw [List.drop_zero,List.take_of_length_le (by omega)]⟩⟩ hr1 (by omega) (by unfold maxLen; omega) (fun v' M' N' h4 h5 h6 h7=>?_)
  refine fun hc'=>⟨_,za0 hc',fun hw'=>k v' M' N' ?_ h5 h6 h7 hw'⟩
  rw [List.take_of_length_le (by omega),List.drop_eq_nil_of_le (by omega),List.flatten_append]
  simpa using h4
def inP (l:List Dm) (key:List Int) (i:Nat):Bool:=decide (0≤key.getD i 0∧key.getD i 0<(l.getD i (0,[])).1)
def inF (l:List Dm) (key:List Int):Bool:=decide (key.length=l.length)&&(List.range l.length).all (inP l key)
theorem ync {cs:List Value} {d:Dm} {n:Int} (hd:zfh F cs d) (k:∀ N',N≤N'→(Hp.mk F M N').wf→K (.bool (decide (0≤n∧n<d.1))) ⟨F,M,N'⟩) :
  za2 Tryz.prog (.func (.func 87) #[] #[]) #[.agg cs.toArray,.int .i64 n] K E ⟨F,M,N⟩:=by
 refine za3 mixed Tryz.func87 (by kernel_rfl) (t87 _ E _ _) (fun hw=>?_)
 have hm:=hw.m
 obtain ⟨v,rfl,hv,hvl⟩:=hd
 refine zal (cs:=[.int .i64 d.1,v]) (fun b hb=>?_)
 refine ze1 (fun h1=>?_) (fun h1=>?_)
 ·try simp only [sS]
  refine ldM (v:=.int .i64 d.1) ?_
  refine zaf (fun h2=>?_) (fun h2=>?_)
  ·try simp only [sS]
   rw [decide_eq_true ⟨h1,h2⟩] at k
   exact fun hc=>⟨⟨F,M,b+1⟩,zc3 hc,fun hw'=>k _ (by omega) hw'⟩
  ·try simp only [sS]
   rw [decide_eq_false fun q=>h2 q.2] at k
   exact fun hc=>⟨⟨F,M,b+1⟩,zc3 hc,fun hw'=>k _ (by omega) hw'⟩
 ·try simp only [sS]
  rw [decide_eq_false fun q=>h1 q.1] at k
  exact fun hc=>⟨⟨F,M,b+1⟩,zc3 hc,fun hw'=>k _ (by omega) hw'⟩
set_option maxRecDepth 10000 in
theorem ynr {v u:Value} {l:List Dm} {m:List Int} (hv:zbl F v l) (hu:sF F 1 u m.length (ic m)) (hl:l.length≤140737488351232) (k:∀ N',N≤N'→(Hp.mk F M N').wf→K (.bool (inF l m)) ⟨F,M,N'⟩) :
  za2 Tryz.prog (.func (.func 55) #[] #[]) #[v,u] K E ⟨F,M,N⟩:=by
 refine za3 mixed Tryz.func55 (by kernel_rfl) (t55 _ E _ _) (fun hw=>?_)
 refine za3 mixed Tryz.func86 (by kernel_rfl) (t86 _ E _ _ _) (fun hw=>?_)
 have hm:za7 M N:=hw.m
 have hlv:za9 v=some (.int .i64 (l.length:Nat)):=by obtain ⟨a,c,rfl⟩:=hv.form; rfl
 have hlu:za9 u=some (.int .i64 (m.length:Nat)):=by obtain ⟨a,c,rfl,_⟩:=hu.form; rfl
 refine zaa hlv (zaa hlu ?_)
 refine zc9 (fun h1=>?_) (fun h1=>?_)
 ·try simp only [sS]
  refine fun hc=>⟨_,za0 hc,fun hw' hc=>⟨_,za0 hc,fun hw'=>?_⟩⟩
  have := k _ (Nat.le_refl _) hw'
  rw [show inF l m=false by unfold inF; rw [decide_eq_false (by omega)]; rfl] at this
  exact this
 try simp only [sS]
 refine zaa hlv ?_
 obtain ⟨rows,hv1,hv2⟩:=hv
 refine zls (σ:=Nat) (fun i=>.int .i64 (i:Nat)) (fun i h=>∃ N',h=⟨F,M,N'⟩∧N≤N'∧i≤l.length∧(List.range i).all (inP l m)=true) (fun i=>l.length - i) 0 rfl
  (fun hw1=>⟨_,za0 hw1,N,rfl,Nat.le_refl _,Nat.zero_le _,rfl⟩) (fun k1 i j h1' hI hw1 next=>?_)
 rw [zlc]
 obtain ⟨N1,rfl,hN1,hi,he⟩:=hI
 have hm1:za7 M N1:=hw1.m
 refine zaf (fun hlt=>?_) (fun hge=>?_)
 ·have i1:i<l.length:=by omega
  have i2:i<m.length:=by omega
  try simp only [sS]
  refine zcr hv1 hv2 (by decide) i1 fun p r _ hR hr2 hr1=>?_
  have hR':=hR
  obtain ⟨kv,hre,hkv,hkl⟩:=hR
  subst hre
  refine zal (fun b1 hb1=>?_)
  refine stM (cs':=[.int .i64 l[i].1,kv]) ?_ (za5 _ _ _) rfl rfl hr1
  rw [zbe]
  refine zax hu i2 fun p=>?_
  refine zas (vs:=[.int .i64 l[i].1,kv]) ?_
  refine ync hR' (fun N2 hN2 hw2=>?_)
  have hp:inP l m i=decide (0≤m[i]∧m[i]<l[i].1):=by
   unfold inP
   rw [zb0 i1,zb0 i2]
  rw [← hp]
  have hdrop:∀ {h:Hp},h=(⟨F,upd M b1 (some (.cells 88 [.int .i64 l[i].1,kv] 2)),N2⟩:Hp)→h.wf→h.wk ⟨F,M,N2⟩:=fun e hc=>by subst e; exact zbp hc (zav (zb6 _) (hm1 _ hb1))
  cases hpi:inP l m i
  ·try simp only [sS]
   refine fun hc=>⟨⟨F,M,N2⟩,hdrop rfl hc,fun hw' hc=>⟨_,za0 hc,fun hw'=>?_⟩⟩
   have := k N2 (by omega) hw'
   rw [show inF l m=false by unfold inF; rw [zcs i1 hpi]; simp] at this
   exact this
  ·try simp only [sS]
   refine zai (by omega) ?_
   exact next (i+1) _ _ (by omega) (fun hw3=>⟨⟨F,M,N2⟩,hdrop rfl hw3,N2,rfl,by omega,i1,zf4 he hpi⟩)
 ·try simp only [sS]
  rw [show i=l.length by omega] at he
  refine fun hc=>⟨_,za0 hc,fun hw' hc=>⟨_,za0 hc,fun hw'=>?_⟩⟩
  have := k _ hN1 hw'
  rw [show inF l m=true by unfold inF; rw [he,decide_eq_true (by omega)]; rfl] at this
  exact this
theorem ykh {b g:Nat} {e1:TypeId} {t1:Nat} {hv dv:Value} {cs:List Value} {l:List Dm} {f:Fc} (hb:M b=some (.cells e1 [.pointer (some ⟨g,0,none⟩)] t1)) (hg:M g=some (.cells 113 [hv,dv] 2)) (hd:zbl F dv l) (hl:l.length≤140737488351232) (hf:zc1 F cs f)
  (k:∀ N',N≤N'→(Hp.mk F M N').wf→K (.bool (!inF l f.1)) ⟨F,M,N'⟩):za2 Tryz.prog (.func (.func 54) #[] #[.pointer (some ⟨b,0,none⟩)]) #[.agg cs.toArray] K E ⟨F,M,N⟩:=by
 refine za3 mixed Tryz.func54 (by kernel_rfl) (t54 _ E _ _) (fun hw=>?_)
 have hm:za7 M N:=hw.m
 have hbN:=hm.lt hb
 have hgN:=hm.lt hg
 obtain ⟨kv,rfl,hkv,hkl⟩:=hf
 refine zal (cs:=[kv,.int .i64 f.2]) (fun b2 hb2=>?_)
 refine ldM (v:=.pointer (some ⟨g,0,none⟩)) ?_ ((za4 _ _ (by omega)).trans hb)
 try simp only [sS]
 refine ldM (v:=dv) ?_ ((za4 _ _ (by omega)).trans hg)
 try simp only [sS]
 refine ldM (v:=kv) ?_
 refine ynr hd hkv hl (fun N2 hN2 hw2=>?_)
 try simp only [sS]
 exact fun hc=>⟨⟨F,M,N2⟩,zbp hc (zav (zb6 _) (hm _ hb2)),fun hw'=>k _ (by omega) hw'⟩
end Go.Proofs.YtgcmbkoejjcjlaaGreatDoor.A
