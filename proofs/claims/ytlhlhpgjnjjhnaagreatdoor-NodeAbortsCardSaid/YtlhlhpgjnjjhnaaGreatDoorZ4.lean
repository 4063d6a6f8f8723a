import Derived.Test.YtlhlhpgjnjjhnaaGreatDoorZ3
import Derived.Lib.Overlaps
import Derived.Laws.Externs
import Derived.Test.YtlhlhpgjnjjhnaaGreatDoorZ2
import Derived.Test.YtlhlhpgjnjjhnaaGreatDoorZ1
set_option maxHeartbeats 16000000
set_option maxRecDepth 20000
open Go
set_option linter.unusedVariables false
set_option linter.unusedSimpArgs false
namespace Go.Proofs.YtlhlhpgjnjjhnaaGreatDoor.A
def zzi (m:Int) (l:List Int):Prop:=m∈l∧∀ x∈l,m≤x
def zzs (m:Int) (l:List Int):Prop:=m∈l∧∀ x∈l,x≤m
structure zc9 (c:CE) (l:List Int):Prop where
 n:c.n=l.length
 s:c.s=IntKind.i64.wrap l.sum
 lo:zzi c.lo l
 hi:zzs c.hi l
theorem zc9.ne {c:CE} {l:List Int} (h:zc9 c l):l≠[]:=λe=>by have := h.lo.1; rw [e] at this; cases this
theorem zc9.pos {c:CE} {l:List Int} (h:zc9 c l):0<c.n:=by
 have := List.length_pos_iff.2 h.ne;rw [h.n]; omega
theorem zc9.one {v:Int} (h0:-9223372036854775808≤v) (h1:v≤9223372036854775807):zc9 ⟨1,v,v,v⟩ [v] :=
 ⟨rfl,by simp only [List.sum_cons,List.sum_nil]; rw [IntKind.wrap_i64]; omega,⟨by simp,λx hx=>by simp at hx; simp only; omega⟩,⟨by simp,λx hx=>by simp at hx; simp only; omega⟩⟩
theorem yju (a b:Int):IntKind.i64.wrap (IntKind.i64.wrap a+IntKind.i64.wrap b)=IntKind.i64.wrap (a+b):=by
 simp only [IntKind.wrap_i64]; omega
theorem ypf (a b:List Int):(a++b).sum=a.sum+b.sum:=by simp
theorem zc9.merge {a b:CE} {la lb:List Int} (ha:zc9 a la) (hb:zc9 b lb) (hl:la.length+lb.length<9223372036854775808):zc9 (a.merge b) (la++lb):=by
 have h1:=ha.pos;have h2:=hb.pos
 have e:a.merge b=⟨IntKind.i64.wrap (a.n+b.n),IntKind.i64.wrap (a.s+b.s),if b.lo<a.lo then b.lo else a.lo,if b.hi>a.hi then b.hi else a.hi⟩:=by
  unfold CE.merge CE.add;rw [if_neg (by omega),if_neg (by omega),if_neg (λe=>by rw [e] at h2; simp at h2),if_neg (λe=>by rw [e] at h1; simp at h1)]
 rw [e];refine ⟨?_,?_,⟨?_,λx hx=>?_⟩,⟨?_,λx hx=>?_⟩⟩
 ·simp only;rw [ha.n,hb.n,IntKind.wrap_i64,List.length_append]; omega
 ·simp only;rw [ha.s,hb.s,yju,ypf]
 ·simp only
  split
  ·exact List.mem_append_right _ hb.lo.1
  ·exact List.mem_append_left _ ha.lo.1
 ·simp only
  rcases List.mem_append.1 hx with hx | hx
  ·have := ha.lo.2 x hx; split<;>omega
  ·have := hb.lo.2 x hx; split<;>omega
 ·simp only
  split
  ·exact List.mem_append_right _ hb.hi.1
  ·exact List.mem_append_left _ ha.hi.1
 ·simp only
  rcases List.mem_append.1 hx with hx | hx
  ·have := ha.hi.2 x hx; split<;>omega
  ·have := hb.hi.2 x hx; split<;>omega
theorem zc9.perm {c d:CE} {l m:List Int} (h:zc9 c l) (k:zc9 d m) (p:l.Perm m):c=d:=by
 obtain ⟨c1,c2,c3,c4⟩:=c;obtain ⟨d1,d2,d3,d4⟩:=d;have e1:c1=d1:=by have a:=h.n; have b:=k.n; simp only at a b; rw [a,b,p.length_eq]
 have e2:c2=d2:=by
  have a:=h.s; have b:=k.s; simp only at a b;rw [a,b]
  congr 1
  exact p.foldr_eq' (λx _ y _ z=>by omega) 0
 have e3:c3=d3:=by
  have a:=h.lo.2 d3 (p.mem_iff.2 k.lo.1);have b:=k.lo.2 c3 (p.mem_iff.1 h.lo.1);simp only at a b; omega
 have e4:c4=d4:=by
  have a:=h.hi.2 d4 (p.mem_iff.2 k.hi.1);have b:=k.hi.2 c4 (p.mem_iff.1 h.hi.1);simp only at a b; omega
 rw [e1,e2,e3,e4]
abbrev KV:=List Int×List Int
def zay (ls:List KV) (k:List Int):List Int:=(ls.filter λx=>decide (x.1=k)).flatMap (·.2)
theorem zch (x:KV) (ls:List KV) (k:List Int):zay (x::ls) k=(if x.1=k then x.2 else [])++zay ls k:=by
 unfold zay;rw [List.filter_cons]
 by_cases h:x.1=k
 ·simp [h]
 ·simp [h]
theorem zof (a b:List KV) (k:List Int):zay (a++b) k=zay a k++zay b k:=by simp [zay]
theorem ycx (ls:List KV) (x:KV) (k:List Int):zay (ls++[x]) k=zay ls k++(if x.1=k then x.2 else []):=by
 rw [zof,zch]; simp [zay]
def zc2 (ls:List KV):Nat:=(ls.map (·.2.length)).sum
theorem zyh (a b:List KV):zc2 (a++b)=zc2 a+zc2 b:=by simp [zc2]
theorem zvq (ls:List KV) (k:List Int):(zay ls k).length≤zc2 ls:=by
 induction ls with
 | nil=>simp [zay,zc2]
 | cons x ls ih=>
  rw [zch];simp only [zc2,List.map_cons,List.sum_cons,List.length_append] at ih ⊢
  split
  ·omega
  ·simp; omega
def tells (rows:List Rw) (ls:List KV):Prop:=rows.length=ls.length∧∀ (i:Nat) (r:Rw) (l:KV),rows[i]?=some r -> ls[i]?=some l -> r.1=l.1∧zc9 r.2 l.2
theorem tells.nil:tells [] []:=⟨rfl,λi r l h=>by simp at h⟩
theorem tells.cons {r:Rw} {l:KV} {rows:List Rw} {ls:List KV} (h1:r.1=l.1) (h2:zc9 r.2 l.2) (h:tells rows ls):tells (r::rows) (l::ls):=by
 refine ⟨by simp [h.1],λi r' l' hr hl=>?_⟩;cases i with
 | zero=>simp at hr hl; subst hr; subst hl; exact ⟨h1,h2⟩
 | succ i=>exact h.2 i r' l' (by simpa using hr) (by simpa using hl)
theorem tells.uncons {r:Rw} {l:KV} {rows:List Rw} {ls:List KV} (h:tells (r::rows) (l::ls)):r.1=l.1∧zc9 r.2 l.2∧tells rows ls :=
 ⟨(h.2 0 r l rfl rfl).1,(h.2 0 r l rfl rfl).2,by have := h.1; simp at this; exact this,λi r' l' hr hl=>h.2 (i+1) r' l' (by simpa using hr) (by simpa using hl)⟩
theorem tells.app {r1 r2:List Rw} {l1 l2:List KV} (h1:tells r1 l1) (h2:tells r2 l2):tells (r1++r2) (l1++l2):=by
 induction r1 generalizing l1 with
 | nil=>
  cases l1 with
  | nil=>simpa using h2
  | cons _ _=>have := h1.1; simp at this
 | cons r r1 ih=>
  cases l1 with
  | nil=>have := h1.1; simp at this
  | cons l l1=>obtain ⟨a,b,c⟩:=h1.uncons; exact .cons a b (ih c)
def zcd (t:List Rw) (ls:List KV):Prop:=∀ k,match zc4 t k with
 | none=>zay ls k=[]
 | some c=>zc9 c (zay ls k)
theorem zcd.layR {t:List Rw} {ls:List KV} (h:zcd t ls) (hs:srt t) {k:List Int} {c:CE} {l:List Int} (hc:zc9 c l) (hn:zc2 ls+l.length<9223372036854775808):zcd (layR t k c) (ls++[(k,l)]):=by
 intro q;rw [zyv k c q hs,ycx];have hq:=h q
 by_cases e:k=q
 ·subst e;simp only [if_true];cases hl:zc4 t k with
  | none=>rw [hl] at hq; simp only at hq; simp only [mrg]; rw [hq,List.nil_append]; exact hc
  | some c'=>
   rw [hl] at hq; simp only at hq; simp only [mrg];exact hq.merge hc (by have := zvq ls k; omega)
 ·simp only [if_neg e,List.append_nil];exact hq
theorem zcd.nil:zcd [] []:=λk=>by simp [zc4,zay]
theorem zua:∀ (rows:List Rw) (ls:List KV) (t:List Rw) (ls0:List KV),tells rows ls -> zcd t ls0 -> srt t -> zc2 ls0+zc2 ls<9223372036854775808 -> zcd (rows.foldl (λt r=>layR t r.1 r.2) t) (ls0++ls)
 | [],[],t,ls0,_,h,_,_=>by simpa using h
 | [],_::_,_,_,h,_,_,_=>by have := h.1; simp at this
 | _::_,[],_,_,h,_,_,_=>by have := h.1; simp at this
 | r::rows,(k,l)::ls,t,ls0,h,ht,hs,hn=>by
  obtain ⟨a,b,c⟩:=h.uncons;simp only at a b;have hn':zc2 ls0+(l.length+zc2 ls)<9223372036854775808:=by simpa [zc2] using hn
  subst a;have h1:=ht.layR hs (k:=r.1) b (by omega);have h2:=zua rows ls _ _ c h1 (zsg hs) (by rw [zyh]; simp [zc2] at hn' ⊢; omega);rw [List.append_assoc] at h2;exact h2
theorem zqd {rows:List Rw} {ls:List KV} (h:tells rows ls) (hn:zc2 ls<9223372036854775808):zcd (tab rows) ls:=by
 have := zua rows ls [] [] h zcd.nil .nil (by simpa [zc2] using hn);rw [List.nil_append] at this;exact this
theorem zcd.tells {t:List Rw} {ls:List KV} (h:zcd t ls) (hs:srt t):tells t (t.map λr=>(r.1,zay ls r.1)):=by
 refine ⟨by simp,λi r l hr hl=>?_⟩;rw [List.getElem?_map,hr] at hl
 simp at hl
 subst hl;refine ⟨rfl,?_⟩;have := h r.1;rw [(zkl hs.nodup (c:=r.2)).2 (List.mem_of_getElem? hr)] at this;exact this
theorem zcd.ext {t u:List Rw} {ls ms:List KV} (h:zcd t ls) (k:zcd u ms) (ht:srt t) (hu:srt u) (hp:∀ q,(zay ls q).Perm (zay ms q)):t=u:=by
 refine ye6 ht hu λq=>?_;have h1:=h q;have h2:=k q;have hpq:=hp q;cases a:zc4 t q with
 | none=>
  rw [a] at h1; simp only at h1;cases b:zc4 u q with
  | none=>rfl
  | some d=>rw [b] at h2; simp only at h2; rw [h1] at hpq; exact absurd hpq.symm.eq_nil h2.ne
 | some c=>
  rw [a] at h1; simp only at h1;cases b:zc4 u q with
  | none=>rw [b] at h2; simp only at h2; rw [h2] at hpq; exact absurd hpq.eq_nil h1.ne
  | some d=>rw [b] at h2; simp only at h2; rw [h1.perm h2 hpq]
def kvF (f:List Int×Int):KV:=(f.1,[f.2])
theorem zs3:∀ {l:List (List Int×Int)},(∀ f∈l,-9223372036854775808≤f.2∧f.2≤9223372036854775807) -> tells (l.map λf=>(f.1,(⟨1,f.2,f.2,f.2⟩:CE))) (l.map kvF)
 | [],_=>.nil
 | f::l,h=>.cons rfl (zc9.one (h f (by simp)).1 (h f (by simp)).2) (zs3 λx hx=>h x (by simp [hx]))
theorem yd4 (l:List (List Int×Int)):zc2 (l.map kvF)=l.length:=by
 induction l with
 | nil=>rfl
 | cons f l ih=>simp only [zc2,kvF,List.map_cons,List.sum_cons,List.length_cons,List.length_nil] at ih ⊢; omega
theorem ymu {t:List Rw} {ls:List KV} (h:zcd t ls) (hs:srt t) {r:Rw} (hr:r∈t):(∃ x∈ls,x.1=r.1)∧zc9 r.2 (zay ls r.1):=by
 have h1:=h r.1;rw [(zkl hs.nodup (c:=r.2)).2 hr] at h1;simp only at h1;refine ⟨?_,h1⟩;have hne:=h1.ne;unfold zay at hne;cases hf:ls.filter (λx=>decide (x.1=r.1)) with
 | nil=>rw [hf] at hne; exact absurd rfl hne
 | cons x m=>
  have hx:x∈ls.filter (λx=>decide (x.1=r.1)):=by rw [hf]; simp
  obtain ⟨a,b⟩:=List.mem_filter.1 hx;exact ⟨x,a,of_decide_eq_true b⟩
end Go.Proofs.YtlhlhpgjnjjhnaaGreatDoor.A
open Go Go.RowKit Go.Proofs.YtlhlhpgjnjjhnaaGreatDoor.K Go.Proofs.YtlhlhpgjnjjhnaaGreatDoor.T
set_option linter.unusedVariables false
set_option linter.unusedSimpArgs false
namespace Go.Proofs.YtlhlhpgjnjjhnaaGreatDoor.A
variable {F F':Nat -> Option (List Value)} {M M':Nat -> Option zah} {N N':Nat} {K:zae} {E:zb2}
theorem zc9.ok {c:CE} {l:List Int} (h:zc9 c l) (hl:∀ x∈l,i64 x):c.ok=true:=by
 have hp:=h.pos;unfold CE.ok;rw [if_neg (by omega)];refine decide_eq_true ⟨h.hi.2 _ h.lo.1,?_⟩
 by_cases h1:c.n>1
 ·exact .inl h1
 ·right
  have hn:=h.n
  match l,h,hl,hn with
  | [],h,_,_=>exact absurd rfl h.ne
  | [x],h,hl,_=>
   have a:=h.lo.1; have b:=h.hi.1; have s:=h.s
   simp at a b
   have hx:=hl x (by simp);simp only [List.sum_cons,List.sum_nil] at s;rw [show x+0=x by omega,zl6 hx.1 hx.2] at s;exact ⟨by rw [s,a],by rw [a,b]⟩
  | x::y::l,_,_,hn=>simp at hn; omega
theorem yhl {p:Int}:∀ {t:List Rw},(∀ r∈t,zuh p r=true) -> srt t -> zw0 p t=true:=by
 have key:∀ (t:List Rw) (o:Option (List Int)),(∀ r∈t,zuh p r=true) -> srt t -> (∀ k,o=some k -> ∀ r∈t,zc7 k r.1<0) -> zvz p o t=true:=by
  intro t
  induction t with
  | nil=>intro o _ _ _; rfl
  | cons r t ih=>
   intro o h hs ho;have hs':=List.pairwise_cons.1 hs;simp only [zvz];rw [h r (by simp),ih (some r.1) (λx hx=>h x (by simp [hx])) hs'.2 (λk e x hx=>by cases e; exact hs'.1 x hx)];cases o with
   | none=>rfl
   | some k=>simp only; rw [decide_eq_true (ho k rfl r (by simp))]; rfl
 intro t h hs;exact key t none h hs (λk e=>by cases e)
theorem yl5 {r:Rw} {p:Int} {l:List Int} (h1:(r.1.length:Int)=p) (h2:∀ x∈r.1,0≤x) (h3:zc9 r.2 l) (h4:∀ x∈l,i64 x):zuh p r=true:=by
 unfold zuh
 have hn:ycs r.1=false:=by
  unfold ycs;rw [List.any_eq_false];intro x hx; have := h2 x hx; simp; omega
 rw [decide_eq_true h1,decide_eq_true h3.pos,h3.ok h4,hn]; rfl
def zfm (l:List Dm):Prop:=0<l.length∧l.length≤4∧∀ d∈l,0<d.1∧d.1≤200
theorem zs0 (m:List (Int×List Int)) (hc:∀ c∈m,0≤c.1∧c.1<65536):zfm (zj7 m):=by
 unfold zj7
 split
 ·exact ⟨by decide,by decide,λd hd=>by simp at hd; subst hd; decide⟩
 ·rename_i h
  refine ⟨?_,by rw [List.length_map,List.length_take]; omega,λd hd=>?_⟩
  ·have := List.length_pos_iff.2 h;rw [List.length_map,List.length_take]; omega
  ·obtain ⟨c,hc',rfl⟩:=List.mem_map.1 hd;have := hc c (List.mem_of_mem_take hc');simp only [zgq]; omega
theorem yh8 {l:List Dm} {c:List Int} {x:Int} (h:x∈keyOf l c):∃ (i:Nat) (hi:i<l.length),x=(c.getD i 0)%l[i].1:=by
 obtain ⟨i,hi,rfl⟩:=List.mem_iff_getElem.1 h;rw [zfw] at hi;exact ⟨i,hi,by simp [keyOf]⟩
theorem ymf {l:List Dm} (hl:zfm l) (c:List Int):∀ x∈keyOf l c,0≤x∧x<200:=λx hx=>by
 obtain ⟨i,hi,rfl⟩:=yh8 hx;obtain ⟨h1,h2⟩:=hl.2.2 l[i] (List.getElem_mem _);have a:=Int.emod_nonneg (c.getD i 0) (show l[i].1≠0 by omega);have b:=Int.emod_lt_of_pos (c.getD i 0) h1;omega
theorem zkb {l:List Dm} {ks:List (List Int)} {v:List Int} {f:Fc} (h:f∈zdr l ks v):(∃ c,f.1=keyOf l c)∧(f.2=0∨f.2∈v):=by
 obtain ⟨i,hi,rfl⟩:=List.mem_iff_getElem.1 h;refine ⟨⟨(ks.take 200)[i]'(by simpa [zdr] using hi),by simp [zdr]⟩,?_⟩;simp only [zdr,List.getElem_mapIdx];rw [List.getD_eq_getElem?_getD];cases hv:v[i%v.length]? with
 | none=>exact .inl rfl
 | some x=>exact .inr (List.mem_of_getElem? hv)
theorem zys {l:List Dm} {ks:List (List Int)} {v:List Int} (hv:∀ x∈v,i64 x):∀ f∈zdr l ks v,i64 f.2:=λf hf=>by
 rcases (zkb hf).2 with h | h
 ·rw [h]; exact ⟨by omega,by omega⟩
 ·exact hv _ h
theorem yg1 {ls:List KV} {k:List Int} {x:Int} (h:x∈zay ls k):∃ l∈ls,l.1=k∧x∈l.2:=by
 unfold zay at h;obtain ⟨l,hl,hx⟩:=List.mem_flatMap.1 h;obtain ⟨h1,h2⟩:=List.mem_filter.1 hl;exact ⟨l,h1,of_decide_eq_true h2,hx⟩
theorem yen {l:List Fc} (h:∀ f∈l,i64 f.2) (hn:l.length<9223372036854775808):zcd (tab (l.map fr1)) (l.map kvF) :=
 zqd (zs3 h) (by rw [yd4]; exact hn)
def lvs:List Dm -> List Int -> List Int -> Bool
 | d::l,a::x,b::y=>decide (¬ (a<0∨b<a∨b≥d.2.length+2))&&lvs l x y
 | _,_,_=>true
def ylz (l:List Dm) (a b:List Int):Bool:=decide (a.length=l.length∧b.length=l.length)&&lvs l a b
def ya1 (l:List Dm) (t:List Rw) (a b:List Int):Nat:=if zca l=false then 30 else if ylz l a b=false then 40 else if zw0 l.length t=false then 1 else 0
def zt6 (l:List Dm) (t:List Rw) (a b:List Int):List Rw:=t.map λr=>(atF l a b r.1,r.2)
def zvj (l:List Dm) (t:List Rw) (a b:List Int):List Rw:=if ya1 l t a b=0 then tab (zt6 l t a b) else []
theorem yg9 {l:List Dm} (h:zca l=true):l.length≤4:=by unfold zca at h; rw [Bool.and_eq_true] at h; exact (of_decide_eq_true h.1).2
theorem yiw (l:List Dm) (t:List Rw) (a b:List Int):(zvj l t a b).length≤t.length:=by
 unfold zvj
 split
 ·have := yp9 (zt6 l t a b); simp only [zt6,List.length_map] at this ⊢; exact this
 ·simp
def yyy (l:List Dm) (c least:List Int):List Int:=l.mapIdx λi d=>least.getD i 0+(c.getD i 0)%(d.2.length+2 - least.getD i 0)
def zzh (l:List Dm) (m:List Int):Prop:=∀ (i:Nat) (h:i<l.length),0≤m.getD i 0∧m.getD i 0<l[i].2.length+2
end Go.Proofs.YtlhlhpgjnjjhnaaGreatDoor.A
open Go
set_option linter.unusedVariables false
set_option linter.unusedSimpArgs false
namespace Go.Proofs.YtlhlhpgjnjjhnaaGreatDoor.A
theorem zcd.congr {t:List Rw} {ls ms:List KV} (h:zcd t ls) (e:∀ k,zay ls k=zay ms k):zcd t ms:=λk=>by rw [← e k]; exact h k
theorem zug (g:List Int -> List Int):∀ {t:List Rw},nodup t -> ∀ k,zay (t.map λr=>(r.1,g r.1)) k=(zc4 t k).elim [] (λ_=>g k)
 | [],_,k=>by simp [zay,zc4]
 | (k1,c1)::t,h,k=>by
  have h':=List.pairwise_cons.1 h;have ih:=zug g h'.2 k;rw [List.map_cons,zch,ih]
  by_cases e:k1=k
  ·subst e;have hn:zc4 t k1=none:=zj5.2 λx hx e=>h'.1 x hx e.symm
   simp [zc4,hn]
  ·simp [zc4,e]
def zhk (t:List Rw) (ls:List KV):List KV:=t.map λr=>(r.1,zay ls r.1)
theorem zrx {t:List Rw} {ls:List KV} (h:zcd t ls) (hs:srt t) (k:List Int):zay (zhk t ls) k=zay ls k:=by
 unfold zhk;rw [zug (λq=>zay ls q) hs.nodup k];have := h k;cases hl:zc4 t k with
 | none=>rw [hl] at this; simp only at this; rw [this]; rfl
 | some c=>rfl
theorem zn5 (t:List Rw) (ls:List KV):zc2 (zhk t ls)≤t.length*zc2 ls:=by
 induction t with
 | nil=>simp [zhk,zc2]
 | cons r t ih=>
  have h1:=zvq ls r.1;simp only [zhk,List.map_cons,zc2,List.sum_cons,List.length_cons,Nat.succ_mul] at ih h1 ⊢;omega
theorem ydb {t u:List Rw} {ls ms:List KV} (h:zcd t ls) (k:zcd u ms) (ht:srt t) (hu:srt u) (hn:t.length*zc2 ls+u.length*zc2 ms<9223372036854775808):zcd (tab (t++u)) (ls++ms):=by
 have h1:=h.tells ht;have h2:=k.tells hu
 have h3:=zqd (h1.app h2) (by
  rw [zyh];have := zn5 t ls;have := zn5 u ms;unfold zhk at *;omega)
 refine h3.congr λq=>?_;have a:=zrx h ht q;have b:=zrx k hu q;unfold zhk at a b;rw [zof,zof,a,b]
def total (t:List Rw):Int:=(t.map λr=>r.2.n).sum
end Go.Proofs.YtlhlhpgjnjjhnaaGreatDoor.A
open Go Go.RowKit Go.Proofs.YtlhlhpgjnjjhnaaGreatDoor.K Go.Proofs.YtlhlhpgjnjjhnaaGreatDoor.T
set_option linter.unusedVariables false
set_option linter.unusedSimpArgs false
namespace Go.Proofs.YtlhlhpgjnjjhnaaGreatDoor.A
variable {F F':Nat -> Option (List Value)} {M M':Nat -> Option zah} {N N':Nat} {K:zae} {E:zb2}
theorem zzi.perm {m:Int} {l l':List Int} (h:zzi m l) (p:l.Perm l'):zzi m l':=⟨p.mem_iff.1 h.1,λx hx=>h.2 x (p.mem_iff.2 hx)⟩
theorem zzs.perm {m:Int} {l l':List Int} (h:zzs m l) (p:l.Perm l'):zzs m l':=⟨p.mem_iff.1 h.1,λx hx=>h.2 x (p.mem_iff.2 hx)⟩
theorem zc9.swap {c:CE} {l m:List Int} (h:zc9 c l) (p:l.Perm m):zc9 c m :=
 ⟨by rw [h.n,p.length_eq],by rw [h.s]; congr 1; exact p.foldr_eq' (λx _ y _ z=>by omega) 0,h.lo.perm p,h.hi.perm p⟩
theorem zcd.perm {t:List Rw} {ls ms:List KV} (h:zcd t ls) (e:∀ k,(zay ls k).Perm (zay ms k)):zcd t ms:=λk=>by
 have h1:=h k;have h2:=e k;cases hl:zc4 t k with
 | none=>rw [hl] at h1; simp only at h1; simp only; rw [h1] at h2; exact h2.symm.eq_nil
 | some c=>rw [hl] at h1; exact h1.swap h2
def reK (f:List Int -> List Int) (ls:List KV):List KV:=ls.map λx=>(f x.1,x.2)
theorem ykm (f:List Int -> List Int) (ls:List KV):zc2 (reK f ls)=zc2 ls:=by
 induction ls with
 | nil=>rfl
 | cons x ls ih=>simp only [zc2,reK,List.map_cons,List.sum_cons] at ih ⊢; rw [ih]
theorem regroup (f:List Int -> List Int) (ls:List KV) (k:List Int):∀ (t:List Rw),nodup t ->
  (zay (reK f (t.map λr=>(r.1,zay ls r.1))) k).Perm (zay (reK f (ls.filter λx=>decide (∃ r∈t,r.1=x.1))) k)
 | [],_=>by
  have:ls.filter (λx=>decide (∃ r∈([]:List Rw),r.1=x.1))=[]:=by simp
  rw [this]; exact List.Perm.refl _
 | r::t,h=>by
  have h':=List.pairwise_cons.1 h;have ih:=regroup f ls k t h'.2;rw [List.map_cons];have e1:reK f ((r.1,zay ls r.1)::t.map λr=>(r.1,zay ls r.1))=(f r.1,zay ls r.1)::reK f (t.map λr=>(r.1,zay ls r.1)):=rfl;rw [e1,zch]
  have key:∀ (ls:List KV),(zay (reK f (ls.filter λx=>decide (∃ q∈r::t,q.1=x.1))) k).Perm ((if f r.1=k then zay ls r.1 else [])++zay (reK f (ls.filter λx=>decide (∃ q∈t,q.1=x.1))) k):=by
   intro ls
   induction ls with
   | nil=>simp [reK,zay]
   | cons x ls ih2=>
    rw [List.filter_cons,List.filter_cons,zch]
    by_cases hx:x.1=r.1
    ·have a1:(∃ q∈r::t,q.1=x.1):=⟨r,by simp,hx.symm⟩;have a2:¬ ∃ q∈t,q.1=x.1:=λ⟨q,hq,e⟩=>h'.1 q hq (by rw [e,hx]);simp only [decide_eq_true a1,decide_eq_false a2,if_true,Bool.false_eq_true,if_false];rw [if_pos hx];have e2:reK f (x::ls.filter λx=>decide (∃ q∈r::t,q.1=x.1))=(f x.1,x.2)::reK f (ls.filter λx=>decide (∃ q∈r::t,q.1=x.1)):=rfl;rw [e2,zch];try simp only [hx]
     by_cases hk:f r.1=k
     ·rw [if_pos hk,if_pos hk] at *;rw [List.append_assoc];exact List.Perm.append_left _ ih2
     ·rw [if_neg hk,if_neg hk] at *;exact ih2
    ·rw [if_neg hx,List.nil_append]
     by_cases h2:∃ q∈t,q.1=x.1
     ·have a1:(∃ q∈r::t,q.1=x.1):=by obtain ⟨q,hq,e⟩:=h2; exact ⟨q,by simp [hq],e⟩
      simp only [decide_eq_true a1,decide_eq_true h2,if_true];have e2:∀ (l:List KV),reK f (x::l)=(f x.1,x.2)::reK f l:=λ_=>rfl;rw [e2,e2,zch,zch];refine (List.Perm.append_left _ ih2).trans ?_;rw [← List.append_assoc,← List.append_assoc];exact List.Perm.append_right _ List.perm_append_comm
     ·have a1:¬ (∃ q∈r::t,q.1=x.1):=λ⟨q,hq,e⟩=>by
       rcases List.mem_cons.1 hq with rfl | hq
       ·exact hx e.symm
       ·exact h2 ⟨q,hq,e⟩
      simp only [decide_eq_false a1,decide_eq_false h2,Bool.false_eq_true,if_false];exact ih2
  exact (List.Perm.append_left _ ih).trans (key ls).symm
theorem zn7 (f:List Int -> List Int) (p:KV -> Bool) (k:List Int):∀ (ls:List KV),(∀ x∈ls,p x=false -> x.2=[]) -> zay (reK f (ls.filter p)) k=zay (reK f ls) k
 | [],_=>rfl
 | x::ls,h=>by
  have ih:=zn7 f p k ls (λy hy=>h y (by simp [hy]));have e2:∀ (l:List KV),reK f (x::l)=(f x.1,x.2)::reK f l:=λ_=>rfl;rw [List.filter_cons,e2,zch];cases hp:p x
  ·rw [h x (by simp) hp]
   simpa using ih
  ·simp only [if_true];rw [e2,zch,ih]
theorem zcd.regroup {t:List Rw} {ls:List KV} (h:zcd t ls) (hs:srt t) (f:List Int -> List Int) (k:List Int):(zay (reK f (zhk t ls)) k).Perm (zay (reK f ls) k):=by
 have h1:=A.regroup f ls k t hs.nodup;rw [zn7 f _ k ls] at h1
 ·exact h1
 ·intro x hx hp;have hn:¬ ∃ r∈t,r.1=x.1:=of_decide_eq_false hp;have h2:=h x.1;rw [zj5.2 (λr hr e=>hn ⟨r,hr,e⟩)] at h2;simp only at h2;cases hx2:x.2 with
  | nil=>rfl
  | cons v vs=>
   have:v∈zay ls x.1:=by
    unfold zay;exact List.mem_flatMap.2 ⟨x,List.mem_filter.2 ⟨hx,by simp⟩,by rw [hx2]; simp⟩
   rw [h2] at this; cases this
theorem yft {t:List Rw} {ls:List KV} (h:zcd t ls) (hs:srt t) (f:List Int -> List Int) (hn:t.length*zc2 ls<9223372036854775808):zcd (tab (t.map λr=>(f r.1,r.2))) (reK f ls):=by
 have h1:=h.tells hs
 have h2:tells (t.map λr=>(f r.1,r.2)) (reK f (zhk t ls)):=by
  refine ⟨by simp [reK,zhk],λi r l hr hl=>?_⟩;rw [List.getElem?_map] at hr;unfold reK at hl;rw [List.getElem?_map] at hl;cases ht:t[i]? with
  | none=>rw [ht] at hr; cases hr
  | some x=>
   cases ho:(zhk t ls)[i]? with
   | none=>rw [ho] at hl; cases hl
   | some y=>
    rw [ht] at hr; rw [ho] at hl
    simp at hr hl
    subst hr; subst hl;obtain ⟨a,b⟩:=h1.2 i x y ht ho;exact ⟨by simp only; rw [a],b⟩
 have h3:=zqd h2 (by
  rw [ykm];have := zn5 t ls;omega)
 exact h3.perm (λk=>h.regroup hs f k)
def zl8 (l:List Dm) (k:List Int):Prop:=k.length=l.length∧∀ x∈k,0≤x∧x≤1000000
structure zcc (l:List Dm) (t:List Rw) (ls:List KV):Prop where
 has:zcd t ls
 srt:srt t
 key:∀ x∈ls,zl8 l x.1
 val:∀ x∈ls,∀ v∈x.2,i64 v
theorem zcc.row {l:List Dm} {t:List Rw} {ls:List KV} (h:zcc l t ls) {r:Rw} (hr:r∈t):zl8 l r.1∧zc9 r.2 (zay ls r.1)∧∀ v∈zay ls r.1,i64 v:=by
 obtain ⟨⟨x,hx,e⟩,h2⟩:=ymu h.has h.srt hr;refine ⟨e ▸ h.key x hx,h2,λv hv=>?_⟩;obtain ⟨y,hy,_,hv'⟩:=yg1 hv;exact h.val y hy v hv'
theorem zcc.sound {l:List Dm} {t:List Rw} {ls:List KV} (h:zcc l t ls):zw0 l.length t=true:=by
 refine yhl (λr hr=>?_) h.srt;obtain ⟨a,b,c⟩:=h.row hr;exact yl5 (by rw [a.1]) (λx hx=>(a.2 x hx).1) b c
theorem zcc.i64 {l:List Dm} {t:List Rw} {ls:List KV} (h:zcc l t ls):∀ r∈t,∀ x∈r.1,A.i64 x:=λr hr x hx=>by
 have := (h.row hr).1.2 x hx;exact ⟨by omega,by omega⟩
theorem zcc.okK {l:List Dm} (hl:l.length≤1000) {t:List Rw} {ls:List KV} (h:zcc l t ls):∀ r∈t,A.okK r.1:=λr hr=>
 ⟨by rw [(h.row hr).1.1]; omega,h.i64 r hr⟩
theorem zcc.ext {l:List Dm} {t u:List Rw} {ls ms:List KV} (h:zcc l t ls) (k:zcc l u ms) (hp:∀ q,(zay ls q).Perm (zay ms q)):t=u:=h.has.ext k.has h.srt k.srt hp
theorem zcc.facts {l:List Dm} (hl:zfm l) {ks:List (List Int)} {v:List Int} (hv:∀ x∈v,A.i64 x):zcc l (tab ((zdr l ks v).map fr1)) ((zdr l ks v).map kvF):=by
 refine ⟨yen (zys hv) (by rw [zkf]; omega),zx6 _,λx hx=>?_,λx hx y hy=>?_⟩
 ·obtain ⟨f,hf,rfl⟩:=List.mem_map.1 hx;obtain ⟨c,hc⟩:=(zkb hf).1;simp only [kvF];rw [hc];exact ⟨zfw l c,λx hx=>by have := ymf hl c x hx; omega⟩
 ·obtain ⟨f,hf,rfl⟩:=List.mem_map.1 hx
  simp [kvF] at hy
  rw [hy]; exact zys hv f hf
theorem zcc.merge {l:List Dm} {t u:List Rw} {ls ms:List KV} (h:zcc l t ls) (k:zcc l u ms) (hn:t.length*zc2 ls+u.length*zc2 ms<9223372036854775808):zcc l (tab (t++u)) (ls++ms) :=
 ⟨ydb h.has k.has h.srt k.srt hn,zx6 _,λx hx=>(List.mem_append.1 hx).elim (h.key x) (k.key x),λx hx=>(List.mem_append.1 hx).elim (h.val x) (k.val x)⟩
theorem zcc.roll {l:List Dm} {t:List Rw} {ls:List KV} (h:zcc l t ls) (f:List Int -> List Int) (hf:∀ k,zl8 l k -> zl8 l (f k)) (hn:t.length*zc2 ls<9223372036854775808):zcc l (tab (t.map λr=>(f r.1,r.2))) (reK f ls) :=
 ⟨yft h.has h.srt f hn,zx6 _,λx hx=>by obtain ⟨y,hy,rfl⟩:=List.mem_map.1 hx; exact hf _ (h.key y hy),λx hx=>by obtain ⟨y,hy,rfl⟩:=List.mem_map.1 hx; exact h.val y hy⟩
theorem yaq:∀ (l:List Nat) (a:Nat),1≤a -> a*5 ^ l.length≤10000 -> chk a ((zkp a l).map (λn:Nat=>(n:Int)))=true
 | [],a,_,_=>rfl
 | b::l,a,h,hn=>by
  have h1:a*(2+b%4)≤a*5:=Nat.mul_le_mul_left _ (by omega);have h2:a*2≤a*(2+b%4):=Nat.mul_le_mul_left _ (by omega);have h5:1≤5 ^ l.length:=Nat.one_le_pow _ _ (by decide);have h3:a*5*5 ^ l.length≤10000:=by rw [List.length_cons,Nat.pow_succ,Nat.mul_comm (5 ^ l.length) 5,← Nat.mul_assoc] at hn; exact hn
  have h4:a*(2+b%4)*5 ^ l.length≤10000:=Nat.le_trans (Nat.mul_le_mul_right _ h1) h3;have h6:a*5*1≤10000:=Nat.le_trans (Nat.mul_le_mul_left _ h5) h3;simp only [zkp,List.map_cons,chk];rw [yaq l (a*(2+b%4)) (by omega) h4,Bool.and_true];refine decide_eq_true ?_;have h7:((a*(2+b%4):Nat):Int)%(a:Int)=0:=by rw [← Int.natCast_emod,Nat.mul_mod_right]; rfl
  omega
theorem ymj {c:Int×List Int} (hc:0≤c.1∧c.1<65536):zdh (zgq c)=true:=by
 unfold zdh;have hl:((c.2.take 4).map Int.toNat).length≤4:=by simp; omega
 have h1:chk 1 (zgq c).2=true:=by
  refine yaq _ 1 (Nat.le_refl _) ?_;rw [Nat.one_mul];exact Nat.le_trans (Nat.pow_le_pow_right (by decide) hl) (by decide)
 have h2:(zgq c).2.length≤4:=by simp only [zgq,List.length_map,yci]; simp; omega
 have h3:1≤(zgq c).1∧(zgq c).1≤10000:=by simp only [zgq]; omega
 rw [h1,decide_eq_true ⟨h3.1,h3.2,h2⟩]; rfl
theorem yij {m:List (Int×List Int)} (hc:∀ c∈m,0≤c.1∧c.1<65536):zca (zj7 m)=true:=by
 have hg:=zs0 m hc;unfold zca;rw [decide_eq_true ⟨hg.1,hg.2.1⟩,Bool.true_and,List.all_eq_true];intro d hd;unfold zj7 at hd
 split at hd
 ·simp at hd; subst hd; decide +kernel
 ·obtain ⟨c,hc',rfl⟩:=List.mem_map.1 hd;exact ymj (hc c (List.mem_of_mem_take hc'))
def zqs (l:List Dm) (a b:List Int):Prop:=a.length=l.length∧b.length=l.length∧∀ (i:Nat) (h:i<l.length),0≤a.getD i 0∧a.getD i 0≤b.getD i 0∧b.getD i 0<l[i].2.length+2
theorem yh6:∀ {l:List Dm} {a b:List Int},zqs l a b -> lvs l a b=true
 | [],_,_,_=>by simp [lvs]
 | d::l,[],_,h=>by have := h.1; simp at this
 | d::l,_::_,[],h=>by have := h.2.1; simp at this
 | d::l,x::a,y::b,h=>by
  simp only [lvs];have h0:=h.2.2 0 (by simp)
  simp at h0
  rw [yh6 (l:=l) (a:=a) (b:=b) ⟨by have := h.1; simp at this; exact this,by have := h.2.1; simp at this; exact this,λi hi=>by
   have := h.2.2 (i+1) (by simp; exact hi)
   simpa using this⟩,Bool.and_true]
  exact decide_eq_true (by omega)
theorem yoj {l:List Dm} {a b:List Int} (h:zqs l a b):ylz l a b=true:=by
 unfold ylz;rw [yh6 h,decide_eq_true ⟨h.1,h.2.1⟩]; rfl
def zo4 (n:Nat):List Int:=List.replicate n 0
theorem ygg (n i:Nat):(zo4 n).getD i 0=0:=by
 unfold zo4;rw [List.getD_eq_getElem?_getD,List.getElem?_replicate]
 split<;>rfl
theorem yjd {l:List Dm} {m:List Int} (hl:m.length=l.length) (h:zzh l m):zqs l (zo4 l.length) m :=
 ⟨by simp [zo4],hl,λi hi=>by rw [ygg]; have := h i hi; omega⟩
theorem zvd {l:List Dm} (h:zca l=true):∀ d∈l,zdh d=true:=by
 unfold zca at h;rw [Bool.and_eq_true] at h;exact List.all_eq_true.1 h.2
theorem yq1 {d:Dm} (hd:zdh d=true) {a b v:Int} (h0:0≤a) (h1:a≤b) (h2:b<d.2.length+2) (hv:0≤v):upF d a b v=if a=b then v else if byF d b=0 then 0 else v/(byF d b/byF d a):=by
 unfold upF;rw [if_neg (by rw [hd]; simp; omega)]
theorem yka {d:Dm} (hd:zdh d=true) {b:Int} (h0:0≤b):byF d b=0↔b>d.2.length:=by
 constructor
 ·intro h
  by_cases hb:b≤d.2.length
  ·have := (zwv hd h0 hb).1; omega
  ·omega
 ·intro h;unfold byF;rw [if_neg (by omega),if_pos h]
theorem ykv {d:Dm} (hd:zdh d=true) {a b v:Int} (h0:0≤a) (h1:a≤b) (h2:b<d.2.length+2) (hv:0≤v):0≤upF d a b v∧upF d a b v≤v:=by
 rw [yq1 hd h0 h1 h2 hv]
 split
 ·exact ⟨hv,Int.le_refl _⟩
 ·split
  ·exact ⟨Int.le_refl _,hv⟩
  ·rename_i h3 h4
   have hb:b≤d.2.length:=by
    by_cases h:b≤d.2.length
    ·exact h
    ·exact absurd ((yka hd (by omega)).2 (by omega)) h4
   obtain ⟨r,s⟩:=ynk hd (a:=a) (b:=b) h0 (by omega) hb;exact ⟨Int.ediv_nonneg hv (by omega),Int.ediv_le_self _ hv⟩
theorem yr2 {l:List Dm} (hl:zca l=true) {a b k:List Int} (h:zqs l a b) (hk:k.length=l.length):atF l a b k=atL l a b k:=by
 unfold atF yrz;rw [hl,decide_eq_true ⟨h.1,h.2.1,hk⟩]; rfl
theorem yof {l:List Dm} {a b k:List Int} {i:Nat} (h:i<l.length):(atL l a b k)[i]?=some (upF l[i] (a.getD i 0) (b.getD i 0) (k.getD i 0)):=by
 simp [atL,h]
theorem yld {l:List Dm} (hl:zca l=true) {a b:List Int} (h:zqs l a b) (k:List Int) (hk:zl8 l k):zl8 l (atF l a b k):=by
 rw [yr2 hl h hk.1];refine ⟨zx8 l a b k,λx hx=>?_⟩;obtain ⟨i,hi,rfl⟩:=List.mem_iff_getElem.1 hx;rw [zx8] at hi;have e:=yof (a:=a) (b:=b) (k:=k) hi;rw [List.getElem?_eq_getElem (by rw [zx8]; exact hi)] at e
 injection e with e
 rw [e];obtain ⟨h1,h2,h3⟩:=h.2.2 i hi;have hki:=hk.2 (k[i]'(by rw [hk.1]; exact hi)) (List.getElem_mem _);have e2:k.getD i 0=k[i]'(by rw [hk.1]; exact hi):=by rw [List.getD_eq_getElem?_getD,List.getElem?_eq_getElem (by rw [hk.1]; exact hi)]; rfl
 rw [e2];have := ykv (zvd hl l[i] (List.getElem_mem _)) h1 h2 h3 hki.1;omega
theorem zcc.rolled {l:List Dm} (hl:zca l=true) {t:List Rw} {ls:List KV} (h:zcc l t ls) {a b:List Int} (hab:zqs l a b) (hn:t.length*zc2 ls<9223372036854775808):ya1 l t a b=0∧zcc l (zvj l t a b) (reK (atF l a b) ls):=by
 have e0:ya1 l t a b=0:=by unfold ya1; rw [hl,yoj hab,h.sound]; rfl
 refine ⟨e0,?_⟩;unfold zvj;rw [if_pos e0];exact h.roll (atF l a b) (λk hk=>yld hl hab k hk) hn
theorem yqj {a b:Nat} (h1:a≤1000) (h2:b≤1000):a*b<9223372036854775808:=by
 have := Nat.mul_le_mul h1 h2;omega
theorem yhr {d:Dm} (h:zdh d=true):d.2.length≤4:=by unfold zdh at h; rw [Bool.and_eq_true] at h; exact (of_decide_eq_true h.1).2.2
theorem zyr {α:Type} {R:List Value -> α -> Prop} {sz:Nat} {rows:List (List Value)} {xs:List α} (h:zaf R sz rows xs):∀ x∈xs,∃ r,R r x:=λx hx=>by
 obtain ⟨i,hi,rfl⟩:=List.mem_iff_getElem.1 hx;obtain ⟨r,_,h2,_⟩:=h.get (List.getElem?_eq_getElem hi);exact ⟨r,h2⟩
abbrev yso:(Nat -> Option (List Value)) -> List Value -> Int×Int×Int×Int -> Prop:=rP (rI .i64) (rP (rI .i64) (rP (rI .i64) (rI .i64)))
abbrev yzf:(Nat -> Option (List Value)) -> List Value -> List Int×Int×Int×Int×Int -> Prop:=rP (rS 1 (rI .i64)) yso
def yzt (y:List Int×Int×Int×Int×Int):Rw:=(y.1,⟨y.2.1,y.2.2.1,y.2.2.2.1,y.2.2.2.2⟩)
theorem ygp {x:Int} (h:(Lit.int .u16 x).wf=true):0≤x∧x<65536:=by
 have h':0≤x∧x≤65535:=by simpa [Lit.wf,IntKind.min,IntKind.max,IntKind.signed,IntKind.bits] using h
 omega
theorem yse {x:Int} (h:(Lit.int .u8 x).wf=true):0≤x∧x<256:=by
 have h':0≤x∧x≤255:=by simpa [Lit.wf,IntKind.min,IntKind.max,IntKind.signed,IntKind.bits] using h
 omega
theorem yff {kk:IntKind} {cs:List Value} {l:List Int} (h:rS 1 (rI kk) F cs l):∃ v,cs=[v]∧sF F 1 v l.length (ick kk l)∧(∀ x∈l,(Lit.int kk x).wf=true)∧l.length≤140737488351232:=by
 obtain ⟨v,rows,rfl,h2⟩:=h;obtain ⟨h3,h4,h5⟩:=yp0 ⟨v,rows,rfl,h2⟩;exact ⟨v,rfl,h3,h4,h5⟩
theorem yp5 {kk:IntKind} {v:Value} {l:List Int} (h:rS 1 (rI kk) F [v] l):sF F 1 v l.length (ick kk l)∧(∀ x∈l,(Lit.int kk x).wf=true)∧l.length≤140737488351232:=by
 obtain ⟨u,e,h⟩:=yff h
 injection e with e _
 subst e; exact h
theorem yjr {kk:IntKind} {v:Value} {ls:List (List Int)} (h:rS 1 (rS 1 (rI kk)) F [v] ls):ztn kk F v ls∧ls.length≤140737488351232∧∀ l∈ls,∀ x∈l,(Lit.int kk x).wf=true:=by
 obtain ⟨v',rows,e,hv,hr,hl⟩:=h
 injection e with e _
 subst e
 have hr':zaf (λr c=>(∃ u,r=[u]∧sF F 1 u c.length (ick kk c)∧c.length≤140737488351232)∧∀ x∈c,(Lit.int kk x).wf=true) 1 rows ls:=hr.mono λr c h=>by
  obtain ⟨u,rfl,h1,h2,h3⟩:=yff h;exact ⟨⟨u,rfl,h1,h3⟩,h2⟩
 exact ⟨⟨rows,hv,hr'.mono λ_ _ h=>h.1⟩,hl,λl hl=>by obtain ⟨r,h⟩:=zyr hr' l hl; exact h.2⟩
abbrev yrb:(Nat -> Option (List Value)) -> List Value -> Int×List Int -> Prop:=rP (rI .u16) (rS 1 (rI .u8))
theorem ynp {v:Value} {y:List (Int×List Int)} (h:rS 2 yrb F [v] y):zr5 F v y∧y.length≤140737488351232∧∀ c∈y,(0≤c.1∧c.1<65536)∧∀ x∈c.2,0≤x∧x<256:=by
 obtain ⟨v',rows,e,hv,hr,hl⟩:=h
 injection e with e _
 subst e
 have hr':zaf (λr f=>zwi F r f∧(0≤f.1∧f.1<65536)∧∀ x∈f.2,0≤x∧x<256) 2 rows y:=hr.mono λr f ⟨c1,c2,e,⟨ha,hb⟩,hc⟩=>by
  obtain ⟨u,rfl,h1,h2,h3⟩:=yff hc;exact ⟨⟨u,by rw [e,ha]; rfl,h1,h3⟩,ygp hb,λx hx=>yse (h2 x hx)⟩
 exact ⟨⟨rows,hv,hr'.mono λ_ _ h=>h.1⟩,hl,λc hc=>by obtain ⟨r,h⟩:=zyr hr' c hc; exact h.2⟩
abbrev qcw:(Nat -> Option (List Value)) -> List Value -> Int×List Int -> Prop:=rP (rI .i64) (rS 1 (rI .i64))
theorem ybx {p:Nat -> Bool} {n i:Nat} (hi:i<n) (h:p i=false):(List.range n).all p=false:=by
 rw [List.all_eq_false];exact ⟨i,List.mem_range.2 hi,by simp [h]⟩
theorem zxa {p:Nat -> Bool} {i:Nat} (h:(List.range i).all p=true) (hp:p i=true):(List.range (i+1)).all p=true:=by
 rw [List.range_succ,List.all_append,h]; simp [hp]
def zj3 (lo hi key:List Int):Bool:=decide (hi.length=lo.length∧key.length=lo.length)&&(List.range lo.length).all λi=>decide (lo.getD i 0≤key.getD i 0∧key.getD i 0<hi.getD i 0)
def zv6 (l:List Dm) (lo hi:List Int):Bool:=decide (lo.length=l.length∧hi.length=l.length)&&(List.range lo.length).all λi=>decide (0≤lo.getD i 0∧lo.getD i 0≤hi.getD i 0∧hi.getD i 0≤(l.getD i (0,[])).1)
theorem zdq {α:Type} {l:List α} {i:Nat} (h:i<l.length) (d:α):l.getD i d=l[i]:=by rw [List.getD_eq_getElem?_getD,List.getElem?_eq_getElem h]; rfl
theorem ynu {p:Nat -> Prop} {b:Nat} {e:TypeId} {cs:List Value} {tot:Nat} (hp:p b) (hM:M b=some (.cells e cs tot)):frzP F M p b=some cs:=by simp [frzP,hp,hM]
def qbz (l:List Dm) (lo hi:List Int) (i:Nat):Bool:=decide (0≤lo.getD i 0∧lo.getD i 0≤hi.getD i 0∧hi.getD i 0≤(l.getD i (0,[])).1)
def ych (lo hi:List Int) (t:List Rw):List Rw:=t.filter λr=>zj3 lo hi r.1
theorem yjs (lo hi:List Int) (t:List Rw):(ych lo hi t).length≤t.length:=List.length_filter_le _ _
def lvP (l:List Dm) (m:List Int) (i:Nat):Bool:=decide (0≤m.getD i 0∧m.getD i 0<((l.getD i (0,[])).2.length+2:Nat))
def yk7 (l:List Dm) (m:List Int):Bool:=decide (m.length=l.length)&&(List.range l.length).all (lvP l m)
def yc9 (F:Nat -> Option (List Value)) (cs:List Value) (m lo hi:List Int):Prop:=∃ a b c,cs=[a,b,c]∧sF F 1 a m.length (ic m)∧sF F 1 b lo.length (ic lo)∧sF F 1 c hi.length (ic hi)∧m.length≤140737488351232∧lo.length≤140737488351232∧hi.length≤140737488351232
theorem yc9.mono {cs:List Value} {m lo hi:List Int} (h:yc9 F cs m lo hi) (hF:za9 F F'):yc9 F' cs m lo hi:=let ⟨a,b,c,e,h1,h2,h3,h4⟩:=h; ⟨a,b,c,e,h1.mono hF,h2.mono hF,h3.mono hF,h4⟩
def ztz (l:List Dm) (m lo hi:List Int):Nat:=if zca l=false then 30 else if yk7 l m=false then 40 else if zv6 l lo hi=false then 60 else 0
def zr9 (l:List Dm) (t:List Rw) (m lo hi:List Int):List Rw:=zvj l (ych lo hi t) (zo4 l.length) m
def yfz (l:List Dm) (t:List Rw) (m lo hi:List Int):Nat:=if ztz l m lo hi=0 then (if zw0 l.length t=false then 1 else if (zr9 l t m lo hi).length>500 then 61 else 0) else ztz l m lo hi
def yry (l:List Dm) (t:List Rw) (m lo hi:List Int):List Rw:=if yfz l t m lo hi=0 then zr9 l t m lo hi else []
def yyx (l:List Dm) (m lo hi:List Int):Prop:=l.length≤4∧(∀ d∈l,d.2.length≤4)∧m.length≤4∧lo.length≤4∧hi.length≤4
theorem yqp {b:Nat} {x:Int} (h:F b=some [.int .i64 x]):sF F 1 (.slice (some ⟨b,0,none⟩) 1 1) [x].length (ic [x]):=znd h rfl (by decide)
def yz8 (ts:List (List Rw)):Nat:=if (tab ts.flatten).length>500 then 61 else 0
def yz3 (ts:List (List Rw)):List Rw:=if (tab ts.flatten).length>500 then [] else tab ts.flatten
def zvm (l:List Dm) (a b:List Int):List Int:=List.zipWith min (keyOf l a) (keyOf l b)
def zup (l:List Dm) (a b:List Int):List Int:=List.zipWith (λx y=>max x y+1) (keyOf l a) (keyOf l b)
theorem yhz (l:List Dm) (a b:List Int):(zvm l a b).length=l.length:=by simp [zvm,zfw]
theorem yi6 (l:List Dm) (a b:List Int):(zup l a b).length=l.length:=by simp [zup,zfw]
theorem ztl {l:List Dm} {c:List Int} (hs:∀ d∈l,0<d.1∧d.1≤1000000) {i:Nat} (hi:i<(keyOf l c).length) (hl:i<l.length):0≤(keyOf l c)[i]∧(keyOf l c)[i]<l[i].1:=by
 obtain ⟨d1,d2⟩:=hs _ (List.getElem_mem hl);have e:(keyOf l c)[i]=(c.getD i 0)%l[i].1:=by simp [keyOf]
 rw [e];exact ⟨Int.emod_nonneg _ (by omega),Int.emod_lt_of_pos _ d1⟩
theorem yz2 {l:List Dm} {a b:List Int} (hs:∀ d∈l,0<d.1∧d.1≤1000000):zv6 l (zvm l a b) (zup l a b)=true:=by
 have hL:=yhz l a b;have hH:=yi6 l a b;unfold zv6;rw [decide_eq_true ⟨hL,hH⟩,Bool.true_and,List.all_eq_true];intro i hi;have i1:i<l.length:=by rw [← hL]; exact List.mem_range.1 hi
 have i2:i<(keyOf l a).length:=by rw [zfw]; exact i1
 have i3:i<(keyOf l b).length:=by rw [zfw]; exact i1
 have h1:=ztl hs i2 i1;have h2:=ztl hs i3 i1;rw [zdq (by omega),zdq (by omega),zdq i1];have eL:(zvm l a b)[i]=min (keyOf l a)[i] (keyOf l b)[i]:=by simp [zvm]
 have eH:(zup l a b)[i]=max (keyOf l a)[i] (keyOf l b)[i]+1:=by simp [zup]
 rw [eL,eH];exact decide_eq_true ⟨by omega,by omega,by omega⟩
theorem zs1 (p:List Int -> Bool) (k:List Int):∀ t:List Rw,zc4 (t.filter λr=>p r.1) k=if p k=true then zc4 t k else none
 | []=>by simp [zc4]
 | (k',c)::t=>by
  have ih:=zs1 p k t;rw [List.filter_cons]
  by_cases hk:k'=k
  ·subst hk
   by_cases hp:p k'=true
   ·rw [if_pos hp,if_pos hp]; simp [zc4]
   ·rw [if_neg hp,ih,if_neg hp,if_neg hp]
  ·have e:zc4 ((k',c)::t) k=zc4 t k:=by simp [zc4,hk]
   rw [e]
   split
   ·rw [← ih]; simp [zc4,hk]
   ·exact ih
theorem zro (p:List Int -> Bool) (k:List Int):∀ ls:List KV,zay (ls.filter λx=>p x.1) k=if p k=true then zay ls k else []
 | []=>by simp [zay]
 | x::ls=>by
  have ih:=zro p k ls;rw [List.filter_cons,zch]
  by_cases hk:x.1=k
  ·by_cases hp:p x.1=true
   ·have hp':p k=true:=by rw [← hk]; exact hp
    rw [if_pos hp,zch,ih,if_pos hp',if_pos hp']
   ·rw [if_neg hp,ih,← hk,if_neg hp,if_neg hp]
  ·rw [if_neg hk,List.nil_append]
   split
   ·rw [zch,if_neg hk,List.nil_append,ih]
   ·exact ih
theorem zqj (p:KV -> Bool):∀ ls:List KV,zc2 (ls.filter p)≤zc2 ls
 | []=>by simp
 | x::ls=>by
  have ih:=zqj p ls;rw [List.filter_cons]
  split
  ·simp only [zc2,List.map_cons,List.sum_cons] at ih ⊢; omega
  ·simp only [zc2,List.map_cons,List.sum_cons] at ih ⊢; omega
def zu9 (lo hi:List Int) (ls:List KV):List KV:=ls.filter λx=>zj3 lo hi x.1
theorem zcc.cut {l:List Dm} {t:List Rw} {ls:List KV} (h:zcc l t ls) (lo hi:List Int):zcc l (ych lo hi t) (zu9 lo hi ls):=by
 refine ⟨λk=>?_,List.Pairwise.filter _ h.srt,λx hx=>h.key x (List.mem_filter.1 hx).1,λx hx=>h.val x (List.mem_filter.1 hx).1⟩;have e1:zc4 (ych lo hi t) k=if zj3 lo hi k=true then zc4 t k else none:=zs1 (zj3 lo hi) k t
 have e2:zay (zu9 lo hi ls) k=if zj3 lo hi k=true then zay ls k else []:=zro (zj3 lo hi) k ls
 rw [e1,e2];have h0:=h.has k
 by_cases hp:zj3 lo hi k=true
 ·rw [if_pos hp,if_pos hp]; exact h0
 ·rw [if_neg hp,if_neg hp]
def yx1 (l:List Dm) (m lo hi:List Int) (ls:List KV):List KV:=reK (atF l (zo4 l.length) m) (zu9 lo hi ls)
theorem yo2 {l:List Dm} {m:List Int} (hl:m.length=l.length) (h:zzh l m):yk7 l m=true:=by
 unfold yk7;rw [decide_eq_true hl,Bool.true_and,List.all_eq_true];intro i hi;have i1:=List.mem_range.1 hi;unfold lvP;rw [zdq i1];have := h i i1;exact decide_eq_true ⟨by omega,by omega⟩
theorem yi9 {l:List Dm} {m lo hi:List Int} (hd:zca l=true) (hl:m.length=l.length) (h:zzh l m) (hb:zv6 l lo hi=true):ztz l m lo hi=0:=by
 unfold ztz;rw [hd,yo2 hl h,hb]; rfl
theorem zcc.run {l:List Dm} {t:List Rw} {ls:List KV} (h:zcc l t ls) {m lo hi:List Int} (hd:zca l=true) (hl:m.length=l.length) (hm:zzh l m) (hb:zv6 l lo hi=true) (h1:t.length≤500) (h2:zc2 ls≤1000) :
  yfz l t m lo hi=0∧zcc l (yry l t m lo hi) (yx1 l m lo hi ls):=by
 have hc:=h.cut lo hi;have h3:=yjs lo hi t;have h4:=zqj (λx=>zj3 lo hi x.1) ls;have h6:zc2 (zu9 lo hi ls)≤1000:=Nat.le_trans h4 h2;obtain ⟨h5,hg⟩:=hc.rolled hd (yjd hl hm) (yqj (by omega) h6);have h7:(zr9 l t m lo hi).length≤500:=by unfold zr9; have := yiw l (ych lo hi t) (zo4 l.length) m; omega
 have e:yfz l t m lo hi=0:=by
  unfold yfz;rw [if_pos (yi9 hd hl hm hb),if_neg (by rw [h.sound]; decide),if_neg (by omega)]
 refine ⟨e,?_⟩;unfold yry;rw [if_pos e]; exact hg
theorem zcc.none (l:List Dm):zcc l [] []:=⟨λk=>by simp [zc4,zay],.nil,by simp,by simp⟩
abbrev En:=Int×List Fc
def ze6 (F:Nat -> Option (List Value)) (cs:List Value) (e:En):Prop:=∃ v,cs=[.int .u32 e.1,v]∧zbp F v e.2∧e.2.length≤140737488351232
theorem ze6.mono {cs:List Value} {e:En} (h:ze6 F cs e) (hF:za9 F F'):ze6 F' cs e:=let ⟨v,h1,h2,h3⟩:=h; ⟨v,h1,h2.mono hF,h3⟩
theorem zbp.form {v:Value} {t:List Fc} (h:zbp F v t):∃ a c,v=.slice a t.length c:=let ⟨rows,h1,_⟩:=h; let ⟨a,c,h2,_⟩:=h1.form; ⟨a,c,h2⟩
theorem ze6.one {cs:List Value} {e:En} (h:ze6 F cs e):cs.length=2∧∀ c∈cs,c.oneCell'=true:=by
 obtain ⟨v,rfl,hv,_⟩:=h;obtain ⟨a,c,rfl⟩:=hv.form;exact ⟨rfl,List.all_eq_true.1 rfl⟩
def zc8 (h:List En):Prop:=h.Pairwise λa b=>a.1<b.1
def zbr:List En -> Int -> Nat
 | [],_=>0
 | e::h,t=>if e.1<t then zbr h t+1 else 0
theorem zlp:∀ (h:List En) (t:Int),zbr h t≤h.length
 | [],_=>Nat.le_refl _
 | e::h,t=>by unfold zbr; split; simp; exact zlp h t; simp
theorem ztp:∀ {h:List En} {t:Int} {i:Nat} (hi:i<h.length),i<zbr h t -> h[i].1<t
 | e::h,t,i,hi,hp=>by
  unfold zbr at hp
  split at hp
  ·cases i with
   | zero=>assumption
   | succ i=>exact ztp (h:=h) (by simpa using hi) (by omega)
  ·omega
theorem zow:∀ {h:List En} {t:Int} (hs:zc8 h) {i:Nat} (hi:i<h.length),zbr h t≤i -> t≤h[i].1
 | e::h,t,hs,i,hi,hp=>by
  obtain ⟨h1,h2⟩:=List.pairwise_cons.1 hs;unfold zbr at hp
  split at hp
  ·cases i with
   | zero=>omega
   | succ i=>exact zow h2 (by simpa using hi) (by omega)
  ·rename_i hn
   cases i with
   | zero=>simp; omega
   | succ i=>
    have := h1 (h[i]'(by simpa using hi)) (List.getElem_mem _);simp only [List.getElem_cons_succ]; omega
def zdg (h:List En) (t:Int):Bool:=match h[zbr h t]? with
 | some e=>decide (e.1=t)
 | none=>false
theorem yhm {a:Int} (k:(Hp.mk F M N).wf -> K (.bool false) ⟨F,M,N⟩):cF 271 #[.int .u32 a] K E ⟨F,M,N⟩:=by
 refine za5 mixed Tryz.func271 (by kernel_rfl) (yqw _ E _) (λhw=>?_);refine zht (λh=>absurd rfl h) (λ_=>?_);exact λhc=>⟨_,za0 hc,λhw'=>k hw'⟩
def zsp (a b:Int):Int:=if a<b then -1 else if a>b then 1 else 0
theorem ypz {a b:Int} (k:(Hp.mk F M N).wf -> K (.int .i64 (zsp a b)) ⟨F,M,N⟩):cF 220 #[.int .u32 a,.int .u32 b] K E ⟨F,M,N⟩:=by
 refine za5 mixed Tryz.func220 (by kernel_rfl) (ytz _ E _ _) (λhw=>?_);refine yhm (λ_=>yhm (λ_=>?_));unfold zsp at k;try simp only [sS]
 refine zau (λh=>?_) (λh=>?_)
 ·try simp only [sS]
  rw [if_pos h] at k;exact λhc=>⟨_,za0 hc,λhw'=>k hw'⟩
 rw [if_neg h] at k;try simp only [sS]
 refine zby (λh2=>?_) (λh2=>?_)
 ·try simp only [sS]
  rw [if_pos h2] at k;exact λhc=>⟨_,za0 hc,λhw'=>k hw'⟩
 rw [if_neg h2] at k;try simp only [sS]
 exact λhc=>⟨_,za0 hc,λhw'=>k hw'⟩
theorem yea {cs:List Value} {e:En} {t:Int} (he:ze6 F cs e) (k:∀ N',N≤N' -> (Hp.mk F M N').wf -> K (.int .i64 (zsp e.1 t)) ⟨F,M,N'⟩):cF 219 #[.agg cs.toArray,.int .u32 t] K E ⟨F,M,N⟩:=by
 refine za5 mixed Tryz.func219 (by kernel_rfl) (yx9 _ E _ _) (λhw=>?_);have hm:=hw.m;obtain ⟨v,rfl,hv,hvl⟩:=he;refine zar (cs:=[.int .u32 e.1,v]) (λb hb=>?_);try simp only [sS]
 refine ldM (v:=.int .u32 e.1) ?_;refine ypz (λhw1=>?_);exact λhc=>⟨⟨F,M,b+1⟩,zm0 hc,λhw'=>k _ (by omega) hw'⟩
theorem zkm {α:Type} {R:List Value -> α -> Prop} {B sz:Nat} {e:TypeId} {v:Value} {l:List α} {rows:List (List Value)} {K:Value -> zae} (hv:own M B e sz v l.length rows.flatten) (hr:zaf R sz rows l) (hz:0<sz) {i:Nat} (hi:i<l.length)
  (k:∀ p r,rows[i]?=some r -> R r l[i] -> r.length=sz -> (∀ x∈r,x.oneCell'=true) -> K p (.agg r.toArray) ⟨F,M,N⟩):pv (iaV none sz v (.int .i64 (i:Nat))) (λp=>ld true sz p (K p)) ⟨F,M,N⟩:=by
 rcases hv.2 with ⟨rfl,h0⟩ | ⟨b,c,rest,rfl,h1,h2,h3,h4⟩
 ·omega
 obtain ⟨r,hri,hR,_⟩:=hr.get (List.getElem?_eq_getElem hi);have hil:=(List.getElem?_eq_some_iff.1 hri).1;have hrm:r∈rows:=List.mem_of_getElem? hri;have hlen:=hr.len r hrm;have hfl:=hr.flen;have hle:i*sz+sz≤l.length*sz:=by rw [← Nat.succ_mul]; exact Nat.mul_le_mul_right _ hi
 have hd:(rows.flatten.drop (i*sz)).take sz=r:=by
  rw [zpe rows i hr.len,List.drop_eq_getElem_cons hil,List.flatten_cons];rw [(List.getElem?_eq_some_iff.1 hri).2,← hlen,List.take_left]
 refine zd0 hi (zg3 (yf5 (zbe h4) (by rw [List.length_append]; omega) ?_) (k _ r hri hR hlen (hr.one r hrm)));rw [Nat.zero_add,List.drop_append_of_le_length (by omega),List.take_append_of_le_length (by rw [List.length_drop]; omega),hd]
theorem ygt {k:IntKind} {a:Nat} {h:Hp} (h1:a≤9223372036854775807) (kk:K (.int .u64 (a:Nat)) h):pv (cvV .u64 (.int k (a:Nat))) K h :=
 ⟨_,rfl,by rw [yj7 (by omega) (by omega)]; exact kk⟩
theorem yrj {a:Nat} {h:Hp} (h1:a≤9223372036854775807) (kk:K (.int .u64 ((a/2:Nat):Int)) h):pv (za1 .none .shr (.int .u64 (a:Nat)) (.int .u64 1)) K h:=by
 have e:za1 .none .shr (.int .u64 (a:Nat)) (.int .u64 1)=some (.int .u64 ((a:Int).fdiv 2)):=by kernel_rfl
 refine ⟨_,e,?_⟩;rw [Int.fdiv_eq_ediv_of_nonneg _ (by omega)];exact kk
theorem ydq {a b:Int}:zsp a b<0↔a<b:=by unfold zsp; split<;>(try split)<;>omega
theorem ydh {a b:Int}:zsp a b=0↔a=b:=by unfold zsp; split<;>(try split)<;>omega
theorem ztq {h:List En} {t:Int} (hi:zbr h t<h.length):zdg h t=decide (h[zbr h t].1=t):=by
 unfold zdg; rw [List.getElem?_eq_getElem hi]
theorem zz5 {h:List En} {t:Int} (hi:¬ zbr h t<h.length):zdg h t=false:=by
 unfold zdg; rw [List.getElem?_eq_none (by omega)]
theorem ycr {B:Nat} {v:Value} {rows:List (List Value)} {h:List En} {t:Int} (hv:own M B 143 2 v h.length rows.flatten) (hr:zaf (ze6 F) 2 rows h) (hs:zc8 h) (hl:h.length≤100000000000)
  (k:∀ N',N≤N' -> (Hp.mk F M N').wf -> K (.tuple #[.int .i64 (zbr h t:Nat),.bool (zdg h t)]) ⟨F,M,N'⟩):cF 166 #[v,.int .u32 t] K E ⟨F,M,N⟩:=by
 refine za5 mixed Tryz.func166 (by kernel_rfl) (yy0 _ E _ _) (λhw=>?_);refine za5 mixed Tryz.func218 (by kernel_rfl) (yxl _ E _ _ _) (λhw=>?_);have hlv:zac v=some (.int .i64 (h.length:Nat)):=by obtain ⟨a,c,rfl,_⟩:=hv.form; rfl
 have hpl:=zlp h t;refine zab hlv ?_
 refine zsz (σ:=Nat×Nat) (λs=>.int .i64 (s.1:Nat)) (λs=>.int .i64 (s.2:Nat)) (λs h'=>∃ N',h'=⟨F,M,N'⟩∧N≤N'∧s.1≤zbr h t∧zbr h t≤s.2∧s.2≤h.length) (λs=>s.2 - s.1) (0,h.length) rfl rfl
  (λhw1=>⟨_,za0 hw1,N,rfl,Nat.le_refl _,Nat.zero_le _,hpl,Nat.le_refl _⟩) (λk1 s j h1 hI hw1 next=>?_)
 rw [ztf];obtain ⟨N1,rfl,hN1,a1,a2,a3⟩:=hI;refine zau (λhlt=>?_) (λhge=>?_)
 ·try simp only [sS]
  refine zkc (by omega) (ygt (by omega) (yrj (by omega) (zvs (by omega) ?_)));have hm:(s.1+s.2)/2<h.length:=by omega
  refine zkm hv hr (by decide) hm λp r _ hR _ _=>?_;refine yea hR (λN2 hN2 hw2=>?_);refine zau (λhc=>?_) (λhc=>?_)
  ·rw [ydq] at hc;have:¬ zbr h t≤(s.1+s.2)/2:=λe=>by have := zow hs hm e; omega
   try simp only [sS]
   refine zaq (by omega) ?_;exact next ((s.1+s.2)/2+1,s.2) _ _ (by simp only; omega) (λhw3=>⟨_,za0 hw3,N2,rfl,by omega,by simp only; omega,by simp only; omega,by simp only; omega⟩)
  ·rw [ydq] at hc;have:¬ (s.1+s.2)/2<zbr h t:=λe=>hc (ztp hm e);try simp only [sS]
   exact next (s.1,(s.1+s.2)/2) _ _ (by simp only; omega) (λhw3=>⟨_,za0 hw3,N2,rfl,by omega,by simp only; omega,by simp only; omega,by simp only; omega⟩)
 ·try simp only [sS]
  have e:s.1=zbr h t:=by omega
  rw [e];refine zau (λhc=>?_) (λhc=>?_)
  ·have hp:zbr h t<h.length:=by omega
   try simp only [sS]
   refine zkm hv hr (by decide) hp λp r _ hR _ _=>?_;refine yea hR (λN2 hN2 hw2=>?_);rw [ztq hp] at k;refine zat (λhz=>?_) (λhz=>?_)
   ·rw [ydh] at hz;rw [decide_eq_true hz] at k;try simp only [sS]
    exact λhc=>⟨_,za0 hc,λhw3=>by
     try simp only [sS]
     exact λhc=>⟨_,za0 hc,λhw'=>k _ (by omega) hw'⟩⟩
   ·rw [ydh] at hz;rw [decide_eq_false hz] at k;try simp only [sS]
    exact λhc=>⟨_,za0 hc,λhw3=>by
     try simp only [sS]
     exact λhc=>⟨_,za0 hc,λhw'=>k _ (by omega) hw'⟩⟩
  ·rw [zz5 (by omega)] at k;try simp only [sS]
   exact λhc=>⟨_,za0 hc,λhw3=>by
    try simp only [sS]
    exact λhc=>⟨_,za0 hc,λhw'=>k _ (by omega) hw'⟩⟩
theorem yk3 {v:Value} {t:List Fc} {rows:List (List Value)} {p:Nat -> Prop} (ho:own M N 110 2 v t.length rows.flatten) (hr:zaf (zcr F) 2 rows t) (hc:(Hp.mk F M N').wf) (hp:∀ q,v.ownBlock=some q -> p q):zbp (frzP F M p) v t :=
 ⟨rows,ho.frzP hp,hr.mono λ_ _ h=>h.mono (zeh hc)⟩
theorem ycg {v:Value} {l:List Fc} (hv:zbp F v l) (hl:l.length≤1000000000) (hk:∀ f∈l,f.1.length≤10000000000)
  (k:za6 M N -> ∀ v' F' M' N' rows,za9 F F' -> N≤N' -> own M' N 110 2 v' l.length rows.flatten -> zaf (zcr F') 2 rows l -> (∀ q,q<N -> M' q=M q) -> za6 M' N' -> (Hp.mk F' M' N').wf -> ∃ h',(Hp.mk F' M' N').wk h'∧(h'.wf -> K v' h')) :
  cF 103 #[v] K E ⟨F,M,N⟩:=by
 refine za5 mixed Tryz.func103 (by kernel_rfl) (ymv _ E _) (λhw=>?_);have hm:za6 M N:=hw.m;obtain ⟨trs,hvs,hrs⟩:=hv;refine zb1 hvs ?_
 refine zso (σ:=Nat×Value) (λs=>s.2) (λs=>.int .i64 (s.1:Nat))
  (λs h=>∃ F' M' N' rows,h=⟨F',M',N'⟩∧za9 F F'∧N≤N'∧(∀ q,q<N -> M' q=M q)∧za6 M' N'∧s.1≤l.length∧own M' N 110 2 s.2 s.1 rows.flatten∧zaf (zcr F') 2 rows (l.take s.1)) (λs=>l.length - s.1) (0,.slice none 0 0) rfl rfl
  (λhw1=>⟨_,za0 hw1,F,M,N,[],rfl,za9.refl _,Nat.le_refl _,λ_ _=>rfl,hm,Nat.zero_le _,own.nil,zaf.nil _ _⟩) (λk1 s j h1 hI hw1 next=>?_)
 rw [zsa];obtain ⟨F1,M1,N1,rows,rfl,hF1,hN1,hM1,hm1,hi',ho,hr⟩:=hI;refine zau (λhlt=>?_) (λhge=>?_)
 ·have h1:s.1<l.length:=by omega
  try simp only [sS]
  refine zie (hvs.mono hF1) (hrs.mono λ_ _ h=>h.mono hF1) (by decide) h1 (λp r _ hR hrl hr1=>?_);obtain ⟨kv,hre,hkv,hkl⟩:=hR;subst hre;refine zar (λb1 hb1=>?_);refine stM (cs':=[kv,.int .i64 l[s.1].2]) ?_ (za2 _ _ _) rfl rfl hr1;rw [zas];have hb2:=za2 M1 b1 (some (.cells 110 [kv,.int .i64 l[s.1].2] [Value.slice none 0 0,Value.int .i64 0].length));have hM2:∀ q,q<N -> upd M1 b1 (some (.cells 110 [kv,.int .i64 l[s.1].2] [Value.slice none 0 0,Value.int .i64 0].length)) q=M q:=λq hq=>(za4 _ _ (by omega)).trans (hM1 q hq);have ho2:=ho.box hm1 hb1 (some (.cells 110 [kv,.int .i64 l[s.1].2] [Value.slice none 0 0,Value.int .i64 0].length));have hm2:=hm1.new hb1 (some (.cells 110 [kv,.int .i64 l[s.1].2] [Value.slice none 0 0,Value.int .i64 0].length));generalize upd M1 b1 _=M2 at *;try simp only [sS]
  refine ldM (v:=kv) ?_ hb2;try simp only [sS]
  refine ldM (v:=.int .i64 l[s.1].2) ?_ hb2;refine zxs hm2 hkv.sR (by have := hk _ (List.getElem_mem h1); omega) (λkv' F3 N3 hw3 hF3 hN3 hkv'=>?_);refine ⟨zb6 (zbe hb2) rfl,?_⟩;have h1f:zcr F3 [kv',.int .i64 l[s.1].2] l[s.1]:=⟨kv',rfl,hkv',hkl⟩;obtain ⟨ak,ck,hkf,hck⟩:=hkv'.form;refine zab (v:=.agg #[kv',.int .i64 l[s.1].2]) (by rw [hkf]; kernel_rfl) ?_;refine zj8 (new:=[kv',.int .i64 l[s.1].2]) ho2 hw3.m (by omega) (by rw [hkf]; kernel_rfl) rfl h1f.one.2 (by omega) (by unfold maxLen; omega) (λp v' M4 N4 h4 h5 h6 h7=>?_);refine zaq (by omega) ?_;refine next (s.1+1,v') _ _ (by simp only; omega) (λhw5=>⟨_,za0 hw5,F3,M4,N4,rows++[[kv',.int .i64 l[s.1].2]],rfl,hF1.trans hF3,by omega,λq hq=>?_,h7,h1,?_,?_⟩)
  ·exact ((h5 q (λe=>by have := (ho2.ge q e).1; omega) (by omega)).1).trans (hM2 q hq)
  ·simpa using h4
  ·simp only;rw [List.take_add_one,List.getElem?_eq_getElem h1,Option.toList_some];exact zcq (hr.mono λ_ _ h=>h.mono hF3) h1f.one h1f
 ·try simp only [sS]
  rw [show s.1=l.length by omega] at ho;rw [List.take_of_length_le (by omega)] at hr;exact λhc=>k hm s.2 F1 M1 N1 rows hF1 hN1 ho hr hM1 hm1 hc
theorem zq4 {v:Value} {t:List Fc} {rows:List (List Value)} (hc:(Hp.mk F M' N').wf) (ho:own M' N 110 2 v t.length rows.flatten) (hr:zaf (zcr F) 2 rows t):zbp (zd5 F M' N) v t :=
 ⟨rows,ho.rd.frz hc (λb hb=>.inl (ho.ge b hb).1),hr.mono λ_ _ h=>h.mono (zbb hc)⟩
theorem yam {v:Value} {l:List Fc} (hv:zbp F v l) (hl:l.length≤1000000000) (hk:∀ f∈l,f.1.length≤10000000000)
  (k:∀ v' F' N',(Hp.mk F' M N').wf -> za9 F F' -> N≤N' -> zbp F' v' l -> K v' ⟨F',M,N'⟩) :
  cF 103 #[v] K E ⟨F,M,N⟩ :=
 ycg hv hl hk (λhm v' F' M' N' rows hF hN ho hr hM _ hc=>⟨_,zdw hm hM hc,λhw'=>k _ _ _ hw' (hF.trans (zbb hc)) hN (zq4 hc ho hr)⟩)
theorem yko {v:Value} {l:List Fc} (hv:zbp F v l) (hl:l.length≤1000000000) (hk:∀ f∈l,f.1.length≤10000000000)
  (k:∀ v' F' M' N' rows,za9 F F' -> N≤N' -> own M' N 110 2 v' l.length rows.flatten -> zaf (zcr F') 2 rows l -> (∀ q,q<N -> M' q=M q) -> za6 M' N' -> (Hp.mk F' M' N').wf -> K v' ⟨F',M',N'⟩) :
  cF 103 #[v] K E ⟨F,M,N⟩ :=
 ycg hv hl hk (λ_ v' F' M' N' rows hF hN ho hr hM hm' hc=>⟨_,za0 hc,λhw'=>k v' F' M' N' rows hF hN ho hr hM hm' hw'⟩)
theorem szE:∀ w,(Go.sizeOf 143).run Tryz.prog w=.ok 2 w:=λw=>zba (i:=(Tryz.prog.info? 143).getD default) (by kernel_rfl) w
theorem yfr {b o l c b2 l2 c2:Nat} {e e2:TypeId} {cs cs2:List Value} {tot tot2:Nat} (h1:M b2=some (.cells e2 cs2 tot2)) (h2:M b=some (.cells e cs tot)) (hne:b2≠b) (ht:0<tot) (k:K (.bool false) ⟨F,M,N⟩) :
  cF 297 #[.slice (some ⟨b2,0,none⟩) l2 c2,.slice (some ⟨b,o,none⟩) l c] K E ⟨F,M,N⟩:=by
 refine .inr λw0 w r=>⟨.bool false,w,⟨F,M,N⟩,?_,r,k⟩;obtain ⟨_,_,_,arr2,a1,a2,_⟩:=r.cl b2 e2 cs2 tot2 h1;obtain ⟨_,_,_,arr,a3,a4,_⟩:=r.cl b e cs tot h2;rw [run_callFunc_extern Tryz.func297 (by kernel_rfl) (by kernel_rfl) (by kernel_rfl) (e:=Extern.SlicesOverlaps.overlaps #[47,47] #[4]) (by kernel_rfl)];have := Lib.run_overlaps_apart (P:=Tryz.prog) w 47 4 143 Tryz.underlying47 2 szE ⟨b2,0,none⟩ ⟨b,o,none⟩ l2 c2 l c hne e2 e arr2.size arr.size (by simp [World.shape?,a1]) (by simp [World.shape?,a3]) (by omega) (by simp [World.frozen?,a1]) (by simp [World.frozen?,a1]);have h3:zcp (zcp #[] #[.slice (some ⟨b2,0,none⟩) l2 c2,.slice (some ⟨b,o,none⟩) l c]) #[] = #[Value.slice (some ⟨b2,0,none⟩) l2 c2,.slice (some ⟨b,o,none⟩) l c]:=rfl;rw [h3,this]
 rfl
theorem ylp {α:Type} (L:List α) (n:Nat) (h:n≤L.length):∃ X Y,L=X++Y∧X.length=n:=⟨L.take n,L.drop n,(List.take_append_drop n L).symm,by simp; omega⟩
theorem yku {b b2 n c:Nat} {A B:List (List Value)} {r rest:List Value} (hM:M b=some (.cells 143 ((A++B).flatten++rest) (c*2))) (hM2:M b2=some (.cells 143 r 2)) (hne:b2≠b) (hl:∀ r∈A++B,r.length=2) (h1:∀ r∈A++B,∀ c∈r,c.oneCell'=true)
  (hr:r.length=2) (hr1:∀ c∈r,c.oneCell'=true) (hn:(A++B).length=n) (hc:n≤c) (hcm:c≤maxLen) (hi:A.length<n) (hn2:n<100000000000)
  (k:∀ rest' b' c' N' X,(b'=b∨N≤b') -> (∀ k,k≠b -> k<N -> X k=M k) -> X b'=some (.cells 143 ((A++r::B).flatten++rest') (c'*2)) -> n+1≤c' -> c'≤maxLen -> N≤N' -> (Hp.mk F X N').wf -> K (.slice (some ⟨b',0,none⟩) (n+1) c') ⟨F,X,N'⟩) :
  cF 248 #[.slice (some ⟨b,0,none⟩) n c,.int .i64 (A.length:Nat),.slice (some ⟨b2,0,none⟩) 1 1] K E ⟨F,M,N⟩:=by
 refine zqi hM rfl (by kernel_rfl) (λext hext=>?_);obtain ⟨R,hR⟩:∃ R,R=rest++ext:=⟨_,rfl⟩;rw [List.append_assoc,← hR] at hext;obtain ⟨M1,hM1⟩:∃ M1,M1=upd M b (some (.cells 143 ((A++B).flatten++R) (c*2))):=⟨_,rfl⟩;rw [show (Hp.mk F M N).set b (.cells 143 ((A++B).flatten++rest++ext) (c*2))=⟨F,M1,N⟩ by rw [hM1,hR,← List.append_assoc]; rfl];clear hM;have hM:M1 b=some (.cells 143 ((A++B).flatten++R) (c*2)):=by rw [hM1,za2]
 have hM2':M1 b2=some (.cells 143 r 2):=by rw [hM1,za4 _ _ hne]; exact hM2
 have hMo:∀ k,k≠b -> M1 k=M k:=λk hk=>by rw [hM1,za4 _ _ hk]
 clear hM1;refine zj4 mixed Tryz.func248 (by kernel_rfl) (yr1 _ E _ _ _) (λhw=>?_);have hA:A.flatten.length=A.length*2:=zdm _ (λr hr=>hl r (by simp [hr]));have hB:B.flatten.length=B.length*2:=zdm _ (λr hr=>hl r (by simp [hr]));have hBl:B.length=n - A.length:=by simp at hn; omega
 rw [List.flatten_append] at hM hext;simp only [List.length_append,hA,hB] at hext;have hm:=hw.m
 have key:∀ b,M1 b≠none -> b<N:=λq hq=>by
  rcases Nat.lt_or_ge q N with h | h
  ·exact h
  ·exact absurd (hm q h) hq
 have hbN:=key b (by rw [hM]; simp);have hb2N:=key b2 (by rw [hM2']; simp)
 have h1B:∀ c∈B.flatten,c.oneCell'=true:=λc hc=>by
  obtain ⟨q,hq,hc⟩:=List.mem_flatten.1 hc;exact h1 q (by simp [hq]) c hc
 refine zga A.length (by omega) hc ?_;refine zab rfl (zbo (by omega) (zan ?_));refine zab rfl (zbo (by omega) (zan ?_));refine zaq (by omega) (zab rfl ?_)
 by_cases hgt:n+1>c
 ·refine ysv (by omega) (zav ?_);refine zh7 A.length (by omega) ?_;refine zaq (by omega) ?_;refine zcz (by omega) (by omega) ?_;have e0:((n+1:Nat):Int) - (A.length:Nat)=((n+1 - A.length:Nat):Int):=by omega
  rw [e0];refine ⟨some ⟨b,0,none⟩,A.length,c,A.flatten,n+1 - A.length,.i64,rfl,rfl,⟨by rw [hA],.inr ⟨b,0,c,_,rfl,.inr ⟨.inr ⟨_,_,hM⟩,by rw [List.drop_zero,← hA,List.append_assoc,List.take_left]⟩⟩⟩,by omega,by omega,by omega,by simp [maxLen]; omega,λb' c' hb' hc' hcm'=>?_⟩;have e1:A.length+(n+1 - A.length)=n+1:=by omega
  rw [e1] at hc' ⊢;have hb'b:b'≠b:=by simp only at hb'; omega
  have hb'2:b'≠b2:=by simp only at hb'; omega
  have hZ:((List.replicate (n+1 - A.length) [Value.int .u32 0,.slice none 0 0]).flatten).length=2+B.length*2:=by
   rw [zdm (sz:=2) _ (λr hr=>by rw [(List.mem_replicate.1 hr).2]; rfl),List.length_replicate]; omega
  obtain ⟨Z1,Z2,hZe,hZ1⟩:=ylp _ 2 (by rw [hZ]; omega);rw [hZe] at hZ ⊢;simp only [List.length_append,hZ1] at hZ;show pv _ _ (Hp.mk F (upd M1 b' (some (.cells 143 (A.flatten++(Z1++Z2)) (c'*2)))) (b'+1));refine zga A.length (by omega) hc' ?_;rw [if_neg (by omega)];refine ⟨b',_,_,_,143,_,_,1,r,rfl,za2 _ _ _,⟨by rw [hr],.inr ⟨b2,0,1,r,rfl,.inr ⟨.inr ⟨_,_,(za4 _ _ (Ne.symm hb'2)).trans hM2'⟩,by rw [List.drop_zero,List.take_of_length_le (by omega)]⟩⟩⟩,λc hc=>hr1 c (List.mem_of_mem_take hc),by simp [hA,hZ1]; omega,?_⟩;have em:min 1 (n+1 - A.length)=1:=by omega
  rw [em,List.take_of_length_le (by omega:r.length≤1*2)]
  have es1:zb3 (A.flatten++(Z1++Z2)) (0+A.length*2) r=A.flatten++r++Z2:=by
   rw [← List.append_assoc,Nat.zero_add,← hA,zfx _ _ _ _ (by omega)]
  rw [es1];refine zaq (by omega) ?_;refine zga (A.length+1) (by omega) hc' ?_;rw [if_neg (by omega)];refine zga A.length (by omega) hc ?_;rw [if_neg (by omega)];refine ⟨b',_,_,_,143,_,_,n - A.length,B.flatten,rfl,za2 _ _ _,⟨by rw [hB,hBl],.inr ⟨b,_,_,_,rfl,.inr ⟨.inr ⟨_,_,(za4 _ _ (Ne.symm hb'b)).trans ((za4 _ _ (Ne.symm hb'b)).trans hM)⟩,?_⟩⟩⟩,λc hc=>h1B c (List.mem_of_mem_take hc),?_,λhc2=>?_⟩
  ·rw [Nat.zero_add,← hA,List.append_assoc,List.drop_left,← hBl,← hB,List.take_left]
  ·simp [hA,hr]; omega
  have em2:min (n - A.length) (n+1 - (A.length+1))=B.length:=by omega
  rw [em2] at hc2 ⊢
  have es2:zb3 (A.flatten++r++Z2) (0+(A.length+1)*2) (B.flatten.take (B.length*2))=A.flatten++r++B.flatten:=by
   have:0+(A.length+1)*2=(A.flatten++r).length:=by simp [hA,hr]; omega
   rw [List.take_of_length_le (by omega),this];have h:=zfx (A.flatten++r) Z2 B.flatten [] (by omega)
   simpa using h
  rw [es2] at hc2 ⊢;refine ⟨_,za0 hc2,λhw'=>k [] b' c' _ _ (.inr hb') (λq hq hqN=>?_) ?_ hc' hcm' ?_ hw'⟩
  ·simp only at hb';exact (za4 _ _ (by omega)).trans ((za4 _ _ (by omega)).trans ((za4 _ _ (by omega)).trans (hMo q hq)))
  ·show upd _ _ _ _=_;rw [za2]; simp
  ·simp only at hb'; show N≤b'+1; omega
 ·refine zqz (by omega) (zan ?_);refine zaq (by omega) ?_;refine zh7 (n+1) (by omega) ?_;refine zaq (by omega) ?_;refine zga (A.length+1) (by omega) (by omega) ?_;rw [if_neg (by omega)];refine yfr hM2' hM hne (by omega) ?_;refine zab rfl (zav ?_);refine zaq (by omega) ?_;refine zga (A.length+1) (by omega) (by omega) ?_;rw [if_neg (by omega)];refine zga A.length (by omega) (by omega) ?_;rw [if_neg (by omega)];obtain ⟨X,Y,hXY,hX⟩:=ylp (B.flatten++R) 2 (by simp [hB]; omega);obtain ⟨Y1,R1,hY,hY1⟩:=ylp Y (B.length*2) (by have := congrArg List.length hXY; simp [hX,hB] at this; omega);subst hY;have hcs:A.flatten++B.flatten++R=A.flatten++X++Y1++R1:=by rw [List.append_assoc,hXY]; simp
  have em:min (n+1 - A.length) (n+1 - (A.length+1))=B.length:=by omega
  have hnews:((B.flatten++R).take ((n+1 - A.length)*2)).take (B.length*2)=B.flatten:=by
   rw [List.take_take,Nat.min_eq_left (by omega),← hB,List.take_left]
  refine ⟨b,_,_,_,143,_,_,n+1 - A.length,(B.flatten++R).take ((n+1 - A.length)*2),rfl,hM,⟨?_,.inr ⟨b,_,_,_,rfl,.inr ⟨.inr ⟨_,_,hM⟩,?_⟩⟩⟩,?_,?_,?_⟩
  ·rw [List.length_take,List.length_append,hB]; omega
  ·rw [Nat.zero_add,← hA,List.append_assoc,List.drop_left]
  ·rw [em,hnews]; exact h1B
  ·simp [hA,hB]; omega
  rw [em,hnews]
  have es1:zb3 (A.flatten++B.flatten++R) (0+(A.length+1)*2) B.flatten=A.flatten++X++B.flatten++R1:=by
   have:0+(A.length+1)*2=(A.flatten++X).length:=by simp [hA,hX]; omega
   rw [hcs,this,zfx _ _ _ _ (by omega)]
  rw [es1];refine zga A.length (by omega) (by omega) ?_;rw [if_neg (by omega)];refine ⟨b,_,_,_,143,_,_,1,r,rfl,za2 _ _ _,⟨by rw [hr],.inr ⟨b2,0,1,r,rfl,.inr ⟨.inr ⟨_,_,(za4 _ _ hne).trans hM2'⟩,by rw [List.drop_zero,List.take_of_length_le (by omega)]⟩⟩⟩,λc hc=>hr1 c (List.mem_of_mem_take hc),by simp [hA,hB,hX]; omega,λhc2=>?_⟩;have em2:min 1 (n+1 - A.length)=1:=by omega
  rw [em2,List.take_of_length_le (by omega:r.length≤1*2)] at hc2 ⊢
  have es2:zb3 (A.flatten++X++B.flatten++R1) (0+A.length*2) r=A.flatten++r++B.flatten++R1:=by
   have h:=zfx A.flatten X r (B.flatten++R1) (by omega);rw [Nat.zero_add,← hA]
   simpa using h
  rw [es2] at hc2 ⊢;refine ⟨_,za0 hc2,λhw'=>k R1 b c _ _ (.inl rfl) (λq hq hqN=>?_) ?_ (by omega) hcm (Nat.le_refl _) hw'⟩
  ·exact (za4 _ _ hq).trans ((za4 _ _ hq).trans (hMo q hq))
  ·show upd _ _ _ _=_;rw [za2]; simp
theorem yt5 {B b2 i:Nat} {v:Value} {rows:List (List Value)} {r:List Value} {n:Nat} (hv:own M B 143 2 v n rows.flatten) (hm:za6 M N) (hB:B≤N) (hlen:rows.length=n) (hl:∀ q∈rows,q.length=2) (h1:∀ q∈rows,∀ c∈q,c.oneCell'=true)
  (hM2:M b2=some (.cells 143 r 2)) (hne:v.ownBlock≠some b2) (hr:r.length=2) (hr1:∀ c∈r,c.oneCell'=true) (hi:i≤n) (hn:n<100000000000)
  (k:∀ v' M' N',own M' B 143 2 v' (n+1) (rows.take i++r::rows.drop i).flatten -> (∀ q,v.ownBlock≠some q -> q<N -> M' q=M q∧v'.ownBlock≠some q) -> N≤N' -> za6 M' N' -> (Hp.mk F M' N').wf -> K v' ⟨F,M',N'⟩) :
  cF 248 #[v,.int .i64 (i:Nat),.slice (some ⟨b2,0,none⟩) 1 1] K E ⟨F,M,N⟩:=by
 have hrw:rows.flatten.length=n*2:=hv.1
 by_cases hin:i<n
 ·rcases hv.2 with ⟨rfl,h0⟩ | ⟨b,c,rest,rfl,g1,g2,g3,g4⟩
  ·omega
  have hA:(rows.take i).length=i:=by rw [List.length_take]; omega
  have hsp:rows.take i++rows.drop i=rows:=List.take_append_drop i rows;have hbN:b<N:=hm.lt g4;have hne':b2≠b:=λe=>hne (by rw [e]; rfl);have := yku (F:=F) (N:=N) (K:=K) (E:=E) (A:=rows.take i) (B:=rows.drop i) (n:=n) (c:=c) (rest:=rest) (by rw [hsp]; exact g4) hM2 hne' (by rw [hsp]; exact hl) (by rw [hsp]; exact h1) hr hr1 (by rw [hsp]; exact hlen) g1 g2 (by omega) hn (λrest' b' c' N' X q1 q2 q3 q4 q5 q6 q7=>?_)
  ·rw [hA] at this; exact this
  ·refine k _ X N' ⟨?_,.inr ⟨b',c',rest',rfl,q4,q5,?_,q3⟩⟩ (λq hq hqN=>⟨q2 q (λe=>hq (by rw [e]; rfl)) hqN,λe=>?_⟩) q6 q7.m q7
   ·have h2:∀ q∈rows.take i++r::rows.drop i,q.length=2:=λq hq=>by
     rcases List.mem_append.1 hq with hq | hq
     ·exact hl q (List.mem_of_mem_take hq)
     ·rcases List.mem_cons.1 hq with rfl | hq
      ·exact hr
      ·exact hl q (List.mem_of_mem_drop hq)
    rw [zdm _ h2,List.length_append,List.length_cons,List.length_take,List.length_drop]; omega
   ·rcases q1 with rfl | q1
    ·exact g3
    ·omega
   ·have e':b'=q:=by simpa [Value.ownBlock] using e
    rcases q1 with q1 | q1
    ·exact hq (by rw [← e',q1]; rfl)
    ·omega
 ·have e:i=n:=by omega
  subst e;have hform:=hv.form;obtain ⟨a,c,hvf,hc⟩:=hform;subst hvf;refine za5 mixed Tryz.func248 (by kernel_rfl) (yr1 _ E _ _ _) (λhw=>?_);refine zny i i c (Nat.le_refl _) hc (Nat.le_refl _) ?_ (h4:=λ_=>⟨rfl,hc⟩);try simp only [sS]
  refine zbo (by omega) ?_;try simp only [sS]
  refine zcj rfl ?_;try simp only [sS]
  refine hv.app (m:=1) (news:=r) hm hB ⟨by rw [hr],.inr ⟨b2,0,1,r,rfl,Nat.le_refl _,.inr ⟨_,_,hM2⟩,by rw [List.drop_zero,List.take_of_length_le (by omega)]⟩⟩ hr1 (by omega) (by unfold maxLen; omega) (λv' M' N' h4 h5 h6 h7=>?_);refine λhc'=>⟨_,za0 hc',λhw'=>k v' M' N' ?_ h5 h6 h7 hw'⟩;rw [List.take_of_length_le (by omega),List.drop_eq_nil_of_le (by omega),List.flatten_append]
  simpa using h4
def inP (l:List Dm) (key:List Int) (i:Nat):Bool:=decide (0≤key.getD i 0∧key.getD i 0<(l.getD i (0,[])).1)
def inF (l:List Dm) (key:List Int):Bool:=decide (key.length=l.length)&&(List.range l.length).all (inP l key)
theorem yt2 {cs:List Value} {d:Dm} {n:Int} (hd:zi0 F cs d) (k:∀ N',N≤N' -> (Hp.mk F M N').wf -> K (.bool (decide (0≤n∧n<d.1))) ⟨F,M,N'⟩) :
  cF 202 #[.agg cs.toArray,.int .i64 n] K E ⟨F,M,N⟩:=by
 refine za5 mixed Tryz.func202 (by kernel_rfl) (ytl _ E _ _) (λhw=>?_);have hm:=hw.m;obtain ⟨v,rfl,hv,hvl⟩:=hd;refine zar (cs:=[.int .i64 d.1,v]) (λb hb=>?_);refine zg7 (λh1=>?_) (λh1=>?_)
 ·try simp only [sS]
  refine ldM (v:=.int .i64 d.1) ?_;refine zau (λh2=>?_) (λh2=>?_)
  ·try simp only [sS]
   rw [decide_eq_true ⟨h1,h2⟩] at k;exact λhc=>⟨⟨F,M,b+1⟩,zm0 hc,λhw'=>k _ (by omega) hw'⟩
  ·try simp only [sS]
   rw [decide_eq_false λq=>h2 q.2] at k;exact λhc=>⟨⟨F,M,b+1⟩,zm0 hc,λhw'=>k _ (by omega) hw'⟩
 ·try simp only [sS]
  rw [decide_eq_false λq=>h1 q.1] at k;exact λhc=>⟨⟨F,M,b+1⟩,zm0 hc,λhw'=>k _ (by omega) hw'⟩
theorem yt0 {v u:Value} {l:List Dm} {m:List Int} (hv:zeb F v l) (hu:sF F 1 u m.length (ic m)) (hl:l.length≤140737488351232) (k:∀ N',N≤N' -> (Hp.mk F M N').wf -> K (.bool (inF l m)) ⟨F,M,N'⟩) :
  cF 144 #[v,u] K E ⟨F,M,N⟩:=by
 refine za5 mixed Tryz.func144 (by kernel_rfl) (yuf _ E _ _) (λhw=>?_);refine za5 mixed Tryz.func201 (by kernel_rfl) (ywg _ E _ _ _) (λhw=>?_);have hm:za6 M N:=hw.m;have hlv:zac v=some (.int .i64 (l.length:Nat)):=by obtain ⟨a,c,rfl⟩:=hv.form; rfl
 have hlu:zac u=some (.int .i64 (m.length:Nat)):=by obtain ⟨a,c,rfl,_⟩:=hu.form; rfl
 refine zab hlv (zab hlu ?_);refine zht (λh1=>?_) (λh1=>?_)
 ·try simp only [sS]
  refine λhc=>⟨_,za0 hc,λhw' hc=>⟨_,za0 hc,λhw'=>?_⟩⟩;have := k _ (Nat.le_refl _) hw';rw [show inF l m=false by unfold inF; rw [decide_eq_false (by omega)]; rfl] at this;exact this
 try simp only [sS]
 refine zab hlv ?_;obtain ⟨rows,hv1,hv2⟩:=hv
 refine zs5 (σ:=Nat) (λi=>.int .i64 (i:Nat)) (λi h=>∃ N',h=⟨F,M,N'⟩∧N≤N'∧i≤l.length∧(List.range i).all (inP l m)=true) (λi=>l.length - i) 0 rfl
  (λhw1=>⟨_,za0 hw1,N,rfl,Nat.le_refl _,Nat.zero_le _,rfl⟩) (λk1 i j h1' hI hw1 next=>?_)
 rw [zth];obtain ⟨N1,rfl,hN1,hi,he⟩:=hI;have hm1:za6 M N1:=hw1.m;refine zau (λhlt=>?_) (λhge=>?_)
 ·have i1:i<l.length:=by omega
  have i2:i<m.length:=by omega
  try simp only [sS]
  refine zie hv1 hv2 (by decide) i1 λp r _ hR hr2 hr1=>?_;have hR':=hR;obtain ⟨kv,hre,hkv,hkl⟩:=hR;subst hre;refine zar (λb1 hb1=>?_);refine stM (cs':=[.int .i64 l[i].1,kv]) ?_ (za2 _ _ _) rfl rfl hr1;rw [zas];refine zes hu i2 λp=>?_;refine zbd (vs:=[.int .i64 l[i].1,kv]) ?_;refine yt2 hR' (λN2 hN2 hw2=>?_)
  have hp:inP l m i=decide (0≤m[i]∧m[i]<l[i].1):=by
   unfold inP;rw [zdq i1,zdq i2]
  rw [← hp];have hdrop:∀ {h:Hp},h=(⟨F,upd M b1 (some (.cells 108 [.int .i64 l[i].1,kv] 2)),N2⟩:Hp) -> h.wf -> h.wk ⟨F,M,N2⟩:=λe hc=>by subst e; exact zbm hc (zb4 (zbc _) (hm1 _ hb1))
  cases hpi:inP l m i
  ·try simp only [sS]
   refine λhc=>⟨⟨F,M,N2⟩,hdrop rfl hc,λhw' hc=>⟨_,za0 hc,λhw'=>?_⟩⟩;have := k N2 (by omega) hw';rw [show inF l m=false by unfold inF; rw [ybx i1 hpi]; simp] at this;exact this
  ·try simp only [sS]
   refine zaq (by omega) ?_;exact next (i+1) _ _ (by omega) (λhw3=>⟨⟨F,M,N2⟩,hdrop rfl hw3,N2,rfl,by omega,i1,zxa he hpi⟩)
 ·try simp only [sS]
  rw [show i=l.length by omega] at he;refine λhc=>⟨_,za0 hc,λhw' hc=>⟨_,za0 hc,λhw'=>?_⟩⟩;have := k _ hN1 hw';rw [show inF l m=true by unfold inF; rw [he,decide_eq_true (by omega)]; rfl] at this;exact this
theorem ynv {b g:Nat} {e1:TypeId} {t1:Nat} {hv dv:Value} {cs:List Value} {l:List Dm} {f:Fc} (hb:M b=some (.cells e1 [.pointer (some ⟨g,0,none⟩)] t1)) (hg:M g=some (.cells 141 [hv,dv] 2)) (hd:zeb F dv l) (hl:l.length≤140737488351232) (hf:zcr F cs f)
  (k:∀ N',N≤N' -> (Hp.mk F M N').wf -> K (.bool (!inF l f.1)) ⟨F,M,N'⟩):zbq Tryz.prog (.func (.func 143) #[] #[.pointer (some ⟨b,0,none⟩)]) #[.agg cs.toArray] K E ⟨F,M,N⟩:=by
 refine za5 mixed Tryz.func143 (by kernel_rfl) (yug _ E _ _) (λhw=>?_);have hm:za6 M N:=hw.m;have hbN:=hm.lt hb;have hgN:=hm.lt hg;obtain ⟨kv,rfl,hkv,hkl⟩:=hf;refine zar (cs:=[kv,.int .i64 f.2]) (λb2 hb2=>?_);refine ldM (v:=.pointer (some ⟨g,0,none⟩)) ?_ ((za4 _ _ (by omega)).trans hb);try simp only [sS]
 refine ldM (v:=dv) ?_ ((za4 _ _ (by omega)).trans hg);try simp only [sS]
 refine ldM (v:=kv) ?_;refine yt0 hd hkv hl (λN2 hN2 hw2=>?_);try simp only [sS]
 exact λhc=>⟨⟨F,M,N2⟩,zbm hc (zb4 (zbc _) (hm _ hb2)),λhw'=>k _ (by omega) hw'⟩
def zd1 (l:List Dm) (fs:List Fc):Bool:=decide (fs.length≤200)&&fs.all λf=>inF l f.1
theorem yqd {b g:Nat} {e1:TypeId} {t1:Nat} {v hv dv:Value} {l:List Dm} {fs:List Fc} (hb:M b=some (.cells e1 [.pointer (some ⟨g,0,none⟩)] t1)) (hg:M g=some (.cells 141 [hv,dv] 2)) (hd:zeb F dv l) (hl:l.length≤140737488351232) (hf:zbp F v fs) (hfl:fs.length≤140737488351232)
  (k:∀ (r:Int) N',N≤N' -> (Hp.mk F M N').wf -> (decide (r≥0) = !fs.all λf=>inF l f.1) -> K (.int .i64 r) ⟨F,M,N'⟩) :
  cF 152 #[v,.func (.func 143) #[] #[.pointer (some ⟨b,0,none⟩)]] K E ⟨F,M,N⟩:=by
 refine za5 mixed Tryz.func152 (by kernel_rfl) (yle _ E _ _) (λhw=>?_);obtain ⟨rows,hv1,hv2⟩:=hf;refine zb1 hv1 ?_
 refine zk5 (σ:=Nat) (λi=>.int .i64 (i:Nat)) (λi h=>∃ N',h=⟨F,M,N'⟩∧N≤N'∧i≤fs.length∧(fs.all λf=>inF l f.1)=((fs.drop i).all λf=>inF l f.1)) (λi=>fs.length - i) 0 rfl
  (λhw1=>⟨_,za0 hw1,N,rfl,Nat.le_refl _,Nat.zero_le _,rfl⟩) (λk1 i j h1 hI hw1 next=>?_)
 rw [zjt];obtain ⟨N1,rfl,hN1,hi,he⟩:=hI;refine zau (λhlt=>?_) (λhge=>?_)
 ·have h1:i<fs.length:=by omega
  try simp only [sS]
  refine zie hv1 hv2 (by decide) h1 λp r _ hR _ _=>ynv hb hg hd hl hR (λN2 hN2 hw2=>?_);rw [List.drop_eq_getElem_cons h1,List.all_cons] at he;cases hn:inF l fs[i].1
  ·try simp only [sS]
   refine λhc=>⟨_,za0 hc,λhw'=>k _ _ (by omega) hw' ?_⟩;rw [he,hn,decide_eq_true (by omega)]; rfl
  ·try simp only [sS]
   refine zaq (by omega) ?_;refine next (i+1) _ _ (by omega) (λhw3=>⟨_,za0 hw3,N2,rfl,by omega,by omega,?_⟩);rw [he,hn,Bool.true_and]
 ·try simp only [sS]
  refine λhc=>⟨_,za0 hc,λhw'=>k _ _ hN1 hw' ?_⟩;rw [he,List.drop_eq_nil_of_le (by omega)]; rfl
theorem zv2 {g:Nat} {v hv dv:Value} {l:List Dm} {fs:List Fc} (hg:M g=some (.cells 141 [hv,dv] 2)) (hd:zeb F dv l) (hl:l.length≤140737488351232) (hf:zbp F v fs) (hfl:fs.length≤140737488351232)
  (k:∀ N',N≤N' -> (Hp.mk F M N').wf -> K (.bool (zd1 l fs)) ⟨F,M,N'⟩) :
  cF 98 #[.pointer (some ⟨g,0,none⟩),v] K E ⟨F,M,N⟩:=by
 refine za5 mixed Tryz.func98 (by kernel_rfl) (t98 _ E _ _) (λhw=>?_);have hm:za6 M N:=hw.m;have hgN:=hm.lt hg;have hlv:zac v=some (.int .i64 (fs.length:Nat)):=by obtain ⟨a,c,h⟩:=hf.form; rw [h]; rfl
 unfold zd1 at k;refine zar (cs:=[.pointer (some ⟨g,0,none⟩)]) (λb1 hb1=>?_);refine zab hlv ?_;refine zdv (λh1=>?_) (λh1=>?_)
 ·rw [decide_eq_true (by omega),Bool.true_and] at k;try simp only [sS]
  refine za5 mixed Tryz.func142 (by kernel_rfl) (yro _ E _ _) (λhw=>?_);refine yqd (za2 _ _ _) ((za4 _ _ (by omega)).trans hg) hd hl hf hfl (λr N2 hN2 hw2 hr=>?_);cases ha:fs.all λf=>inF l f.1
  ·rw [ha] at hr k;refine yem (by simpa using hr) λhc=>⟨_,za0 hc,λhw'=>?_⟩;try simp only [sS]
   exact λhc=>⟨⟨F,M,N2⟩,zbm hc (zb4 (zbc _) (hm _ hb1)),λhw'=>k _ (by omega) hw'⟩
  ·rw [ha] at hr k;refine zrb (by simpa using hr) λhc=>⟨_,za0 hc,λhw'=>?_⟩;try simp only [sS]
   exact λhc=>⟨⟨F,M,N2⟩,zbm hc (zb4 (zbc _) (hm _ hb1)),λhw'=>k _ (by omega) hw'⟩
 ·rw [decide_eq_false (by omega),Bool.false_and] at k;try simp only [sS]
  exact λhc=>⟨⟨F,M,b1+1⟩,zbm hc (zb4 (zbc _) (hm _ hb1)),λhw'=>k _ (by omega) hw'⟩
def zn6 (h:List En) (t:Int) (fs:List Fc):List En:=h.take (zbr h t)++(t,fs)::h.drop (zbr h t)
theorem yji (h:List En) (t:Int) (fs:List Fc):(zn6 h t fs).length=h.length+1:=by
 have := zlp h t;unfold zn6;rw [List.length_append,List.length_cons,List.length_take,List.length_drop]; omega
theorem yf6 {h:List En} {t:Int} {fs:List Fc} (hs:zc8 h) (ht:zdg h t=false):zc8 (zn6 h t fs):=by
 have hpl:=zlp h t;unfold zn6 zc8
 have hgt:∀ x∈h.drop (zbr h t),t<x.1:=λx hx=>by
  obtain ⟨j,hj,rfl⟩:=List.mem_iff_getElem.1 hx;rw [List.getElem_drop];have hj2:zbr h t+j<h.length:=by rw [List.length_drop] at hj; omega
  have h1:=zow (t:=t) hs hj2 (by omega)
  have h2:h[zbr h t+j].1≠t:=λe=>by
   have h3:zbr h t<h.length:=by omega
   rw [ztq h3] at ht;have h4:=of_decide_eq_false ht;have h5:=zow (t:=t) hs h3 (Nat.le_refl _)
   rcases Nat.eq_zero_or_pos j with h0 | h0
   ·subst h0; exact h4 e
   ·have := List.pairwise_iff_getElem.1 hs (zbr h t) (zbr h t+j) h3 hj2 (by omega);omega
  omega
 have hlt:∀ x∈h.take (zbr h t),x.1<t:=λx hx=>by
  obtain ⟨j,hj,rfl⟩:=List.mem_iff_getElem.1 hx;rw [List.length_take] at hj;rw [List.getElem_take];exact ztp (by omega) (by omega)
 refine List.pairwise_append.2 ⟨hs.sublist (List.take_sublist _ _),List.pairwise_cons.2 ⟨λx hx=>hgt x hx,hs.sublist (List.drop_sublist _ _)⟩,λx hx y hy=>?_⟩;have h1:=hlt x hx
 rcases List.mem_cons.1 hy with rfl | hy
 ·exact h1
 ·have := hgt y hy; omega
theorem ye5 {B:Nat} {v fv:Value} {rows:List (List Value)} {h:List En} {t:Int} {fs:List Fc} (hv:own M B 143 2 v h.length rows.flatten) (hB:B≤N) (hr:zaf (ze6 F) 2 rows h) (hs:zc8 h) (hl:h.length≤10000000000) (ht:zdg h t=false) (hf:zbp F fv fs) (hfl:fs.length≤1000000) (hk:∀ f∈fs,f.1.length≤10000000000)
  (k:∀ v' F' M' N' rows',za9 F F' -> own M' B 143 2 v' (zn6 h t fs).length rows'.flatten -> zaf (ze6 F') 2 rows' (zn6 h t fs) -> (∀ q,v.ownBlock≠some q -> q<N -> M' q=M q∧v'.ownBlock≠some q) -> N≤N' -> za6 M' N' -> (Hp.mk F' M' N').wf -> K v' ⟨F',M',N'⟩) :
  cF 186 #[v,.int .u32 t,fv] K E ⟨F,M,N⟩:=by
 refine za5 mixed Tryz.func186 (by kernel_rfl) (yrm _ E _ _ _) (λhw=>?_);have hm:za6 M N:=hw.m;have hpl:=zlp h t;refine ycr hv hr hs (by omega) (λN1 hN1 hw1=>?_);rw [ht];try simp only [sS]
 refine yam hf (by omega) hk (λv2 F2 N2 hw2 hF2 hN2 hf2=>?_);have hm2:za6 M N2:=hw2.m;have he:ze6 F2 [.int .u32 t,v2] (t,fs):=⟨v2,rfl,hf2,by simp only; omega⟩;obtain ⟨a2,c2,e2⟩:=hf2.form;refine zab (v:=.agg #[.int .u32 t,v2]) (by rw [e2]; kernel_rfl) ?_;refine zd7 (cs:=[.int .u32 t,v2]) (by rw [e2]; kernel_rfl) (λb3 hb3=>?_);have hr2:zaf (ze6 F2) 2 rows h:=hr.mono λ_ _ h=>h.mono hF2;have hvb:v.ownBlock≠some b3:=λe=>by have := hv.lt hm _ e; omega
 refine yt5 (i:=zbr h t) (r:=[.int .u32 t,v2]) (hv.box hm (by omega) _) (hm2.new hb3 _) (by omega) hr.all.1 hr.len hr.one (za2 _ _ _) hvb rfl he.one.2 hpl (by omega) (λv4 M4 N4 g1 g2 g3 g4 g5=>?_);refine λhc=>⟨_,za0 hc,λhw'=>k v4 F2 M4 N4 _ hF2 (by rw [yji]; exact g1) ?_ (λq hq hqN=>?_) (by omega) g4 hw'⟩
 ·have h1:=zcq (zaf.nil (ze6 F2) 2) he.one he;exact zok (zyq hr2 (zbr h t)) (by have := zok h1 (yh1 hr2 (zbr h t)); simpa using this)
 ·obtain ⟨x1,x2⟩:=g2 q hq (by omega);exact ⟨x1.trans (za4 _ _ (by omega)),x2⟩
structure zgi (F:Nat -> Option (List Value)) (M:Nat -> Option zah) (B g:Nat) (hv dv:Value) (rows:List (List Value)) (l:List Dm) (h:List En):Prop where
 gg:M g=some (.cells 141 [hv,dv] 2)
 gB:B≤g
 oo:own M B 143 2 hv h.length rows.flatten
 rr:zaf (ze6 F) 2 rows h
 vg:hv.ownBlock≠some g
 dd:zeb F dv l
 rs:zc8 h
def ziu (l:List Dm) (h:List En) (t:Int) (fs:List Fc):Nat:=if zd1 l fs=false then 1 else if t=0∨zdg h t=true then 130 else if h.length≥5000 then 3 else 0
def zmx (l:List Dm) (h:List En) (t:Int) (fs:List Fc):List En:=if ziu l h t fs=0 then zn6 h t fs else h
theorem zh6 {l:List Dm} {fs:List Fc} (h:zd1 l fs=true):fs.length≤200∧∀ f∈fs,inF l f.1=true:=by
 unfold zd1 at h;rw [Bool.and_eq_true] at h;exact ⟨of_decide_eq_true h.1,λf hf=>List.all_eq_true.1 h.2 f hf⟩
theorem yl8 {l:List Dm} {fs:List Fc} (h1:fs.length≤200) (h2:∀ f∈fs,inF l f.1=true):zd1 l fs=true:=by
 unfold zd1;rw [decide_eq_true h1,List.all_eq_true.2 h2]; rfl
theorem zk2 {l:List Dm} {k:List Int} (h:inF l k=true):k.length=l.length:=by
 unfold inF at h;rw [Bool.and_eq_true] at h;exact of_decide_eq_true h.1
theorem yjj {B g:Nat} {hv dv fv:Value} {rows:List (List Value)} {l:List Dm} {h:List En} {t:Int} {fs:List Fc} (hC:zgi F M B g hv dv rows l h) (hB:B≤N) (hdl:l.length≤1000) (hl:h.length≤5000) (ht0:0≤t) (hf:zbp F fv fs) (hfl:fs.length≤140737488351232)
  (k:∀ hv' F' M' N' rows',za9 F F' -> zgi F' M' B g hv' dv rows' l (zmx l h t fs) -> (∀ q,hv.ownBlock≠some q -> q≠g -> q<N -> M' q=M q∧hv'.ownBlock≠some q) -> N≤N' -> za6 M' N' -> (Hp.mk F' M' N').wf -> K (.int .u16 ((ziu l h t fs:Nat):Int)) ⟨F',M',N'⟩) :
  cF 135 #[.pointer (some ⟨g,0,none⟩),.int .u32 t,fv] K E ⟨F,M,N⟩:=by
 refine za5 mixed Tryz.func135 (by kernel_rfl) (yu5 _ E _ _ _) (λhw=>?_);have hm:za6 M N:=hw.m;have hlv:zac hv=some (.int .i64 (h.length:Nat)):=by obtain ⟨a,c,e,_⟩:=hC.oo.form; rw [e]; rfl
 have fin:∀ n:Nat,n≠0 -> n=ziu l h t fs -> ∀ N',N≤N' -> ∀ h',h'=(⟨F,M,N'⟩:Hp) -> h'.wf -> ∃ h'',h'.wk h''∧(h''.wf -> K (.int .u16 ((n:Nat):Int)) h''):=λn n0 e N' hN h' e' hc=>by
  subst e';refine ⟨_,za0 hc,λhw'=>?_⟩;rw [e];refine k hv F M N' rows (za9.refl _) ?_ (λ_ h _ _=>⟨rfl,h⟩) hN hw'.m hw';unfold zmx; rw [if_neg (by omega)]; exact hC
 try simp only [sS]
 refine ldM (v:=hv) ?_ hC.gg;refine ycr hC.oo hC.rr hC.rs (by omega) (λN1 hN1 hw1=>?_);try simp only [sS]
 refine zv2 hC.gg hC.dd (by omega) hf hfl (λN2 hN2 hw2=>?_);cases h1:zd1 l fs
 ·try simp only [sS]
  exact fin 1 (by decide) (by unfold ziu; rw [if_pos h1]) N2 (by omega) _ rfl
 try simp only [sS]
 have last:(h2:¬ t=0) -> ziu l h t fs=(if zdg h t=true then 130 else if h.length≥5000 then 3 else 0):=λh2=>by
  unfold ziu; rw [if_neg (by rw [h1]; decide)]
  by_cases h3:zdg h t=true
  ·rw [if_pos (.inr h3),if_pos h3]
  ·rw [if_neg (by rintro (q | q); exact h2 q; exact h3 q),if_neg h3]
 refine zat (λh2=>?_) (λh2=>?_)
 ·try simp only [sS]
  rw [zkk];try simp only [sS]
  exact fin 130 (by decide) (by unfold ziu; rw [if_neg (by rw [h1]; decide),if_pos (.inl h2)]) N2 (by omega) _ rfl
 ·try simp only [sS]
  rw [zkk];cases h3:zdg h t
  ·try simp only [sS]
   refine ldM (v:=hv) ?_ hC.gg;refine zab hlv ?_;refine zg7 (λh4=>?_) (λh4=>?_)
   ·try simp only [sS]
    exact fin 3 (by decide) (by rw [last h2,if_neg (by rw [h3]; decide),if_pos (by omega)]) N2 (by omega) _ rfl
   ·try simp only [sS]
    try simp only [sS]
    refine ldM (v:=hv) ?_ hC.gg;obtain ⟨f1,f2⟩:=zh6 h1;refine ye5 hC.oo (by omega) hC.rr hC.rs (by omega) h3 hf (by omega) (λf hf=>by have := zk2 (f2 f hf); omega) (λv' F3 M3 N3 rows' hF3 g1 g2 g3 g4 g5 g6=>?_);have hgN:=hm.lt hC.gg;obtain ⟨x1,x2⟩:=g3 g hC.vg (by omega);have hg3:M3 g=some (.cells 141 [hv,dv] 2):=x1.trans hC.gg;obtain ⟨a,c,e,_⟩:=g1.form;try simp only [sS]
    refine stM (cs':=[v',dv]) ?_ hg3 (by rw [e]; rfl) (by rw [e]; rfl) (by rw [e]; exact List.all_eq_true.1 rfl);have e0:ziu l h t fs=0:=by rw [last h2,if_neg (by rw [h3]; decide),if_neg (by omega)]
    refine λhc=>⟨_,za0 hc,λhw'=>?_⟩;rw [e0] at k;refine k v' F3 _ N3 rows' hF3 ?_ (λq hq hqg hqN=>?_) (by omega) (g5.set (g5.lt hg3) _) hw'
    ·unfold zmx; rw [if_pos e0];exact ⟨za2 _ _ _,hC.gB,g1.keep (λq hq=>za4 _ _ (λe=>x2 (e ▸ hq))) (Nat.le_refl _),g2,x2,hC.dd.mono hF3,yf6 hC.rs h3⟩
    ·obtain ⟨y1,y2⟩:=g3 q hq (by omega);exact ⟨(za4 _ _ hqg).trans y1,y2⟩
  ·try simp only [sS]
   exact fin 130 (by decide) (by rw [last h2,if_pos h3]) N2 (by omega) _ rfl
theorem yt7 {v:Value} {l:List Dm} (hv:zeb F v l) (hl:l.length≤140737488351232)
  (k1:zca l=false -> ∀ N',N≤N' -> (Hp.mk F M N').wf -> K (.pointer none) ⟨F,M,N'⟩)
  (k2:zca l=true -> ∀ g dv F' M' N',za9 F F' -> zgi F' M' N g (.slice none 0 0) dv [] l [] -> (∀ q,q<N -> M' q=M q) -> N≤N' -> za6 M' N' -> (Hp.mk F' M' N').wf -> K (.pointer (some ⟨g,0,none⟩)) ⟨F',M',N'⟩) :
  cF 87 #[v] K E ⟨F,M,N⟩:=by
 refine za5 mixed Tryz.func87 (by kernel_rfl) (t87 _ E _) (λhw=>?_);have hm:za6 M N:=hw.m;have hlv:zac v=some (.int .i64 (l.length:Nat)):=by obtain ⟨a,c,rfl⟩:=hv.form; rfl
 refine yja hv hl (λN1 hN1 hw1=>?_);cases hok:zca l
 ·try simp only [sS]
  exact λhc=>⟨_,za0 hc,λhw'=>k1 hok _ hN1 hw'⟩
 have hl4:=yg9 hok;try simp only [sS]
 refine zab (v:=.agg #[.slice none 0 0,.slice none 0 0]) (by kernel_rfl) ?_;refine zar (cs:=[.slice none 0 0,.slice none 0 0]) (λg hg=>?_);refine zab hlv ?_;obtain ⟨drs,hv1,hv2⟩:=hv
 refine zrk (σ:=Nat) (λi=>.int .i64 (i:Nat))
  (λi h=>∃ F' M' N' dv rows,h=⟨F',M',N'⟩∧za9 F F'∧g<N'∧(∀ q,q<N -> M' q=M q)∧za6 M' N'∧i≤l.length∧M' g=some (.cells 141 [.slice none 0 0,dv] 2)∧own M' (g+1) 108 2 dv i rows.flatten∧zaf (zi0 F') 2 rows (l.take i)) (λi=>l.length - i) 0 rfl
  (λhw2=>⟨_,za0 hw2,F,_,g+1,.slice none 0 0,[],rfl,za9.refl _,Nat.lt_succ_self _,λq hq=>za4 _ _ (by omega),(hm.up hN1).new hg _,Nat.zero_le _,za2 _ _ _,own.nil,zaf.nil _ _⟩) (λkk i j h1 hI hw2 next=>?_)
 rw [zrj];obtain ⟨F1,M1,N2,dv,rows,rfl,hF1,hgN,hM1,hm1,hi,hbox,ho,hr⟩:=hI;obtain ⟨da,dc,hdf,_⟩:=ho.form;refine zau (λhlt=>?_) (λhge=>?_)
 ·have i1:i<l.length:=by omega
  try simp only [sS]
  refine zie (hv1.mono hF1) (hv2.mono λ_ _ h=>h.mono hF1) (by decide) i1 (λp r _ hR hrl hr1=>?_);obtain ⟨kv,hre,hkv,hkl⟩:=hR;subst hre;refine zar (λb1 hb1=>?_);refine stM (cs':=[.int .i64 l[i].1,kv]) ?_ (za2 _ _ _) rfl rfl hr1;rw [zas];have hb2:=za2 M1 b1 (some (.cells 108 [.int .i64 l[i].1,kv] [Value.int .i64 0,Value.slice none 0 0].length));have hg2:=(za4 M1 (b:=b1) (k:=g) (some (.cells 108 [.int .i64 l[i].1,kv] [Value.int .i64 0,Value.slice none 0 0].length)) (by omega)).trans hbox;have hM2:∀ q,q<N -> upd M1 b1 (some (.cells 108 [.int .i64 l[i].1,kv] [Value.int .i64 0,Value.slice none 0 0].length)) q=M q:=λq hq=>(za4 _ _ (by omega)).trans (hM1 q hq);have ho2:=ho.box hm1 hb1 (some (.cells 108 [.int .i64 l[i].1,kv] [Value.int .i64 0,Value.slice none 0 0].length));have hm2:=hm1.new hb1 (some (.cells 108 [.int .i64 l[i].1,kv] [Value.int .i64 0,Value.slice none 0 0].length));generalize upd M1 b1 _=M2 at *;try simp only [sS]
  refine ldM (v:=dv) ?_ hg2;try simp only [sS]
  refine ldM (v:=.int .i64 l[i].1) ?_ hb2;try simp only [sS]
  refine ldM (v:=kv) ?_ hb2;have hdl:=yhr (zvd hok _ (List.getElem_mem i1));refine zxs hm2 hkv.sR (by omega) (λkv' F3 N3 hw3 hF3 hN3 hkv'=>?_);refine ⟨zb6 (zbe hb2) rfl,zb6 (zbe hg2) rfl,?_⟩;have h1f:zi0 F3 [.int .i64 l[i].1,kv'] l[i]:=⟨kv',rfl,hkv',hkl⟩;obtain ⟨ak,ck,hkf,hck⟩:=hkv'.form;refine zab (v:=.agg #[.int .i64 l[i].1,kv']) (by rw [hkf]; kernel_rfl) ?_;refine zd7 (cs:=[.int .i64 l[i].1,kv']) (by rw [hkf]; kernel_rfl) (λb4 hb4=>?_);have hg4:=(za4 M2 (b:=b4) (k:=g) (some (.cells 108 [.int .i64 l[i].1,kv'] [Value.int .i64 l[i].1,kv'].length)) (by omega)).trans hg2;have hM4:∀ q,q<N -> upd M2 b4 (some (.cells 108 [.int .i64 l[i].1,kv'] [Value.int .i64 l[i].1,kv'].length)) q=M q:=λq hq=>(za4 _ _ (by omega)).trans (hM2 q hq);have hm3:za6 M2 N3:=hw3.m;have ho4:=ho2.box hm3 hb4 (some (.cells 108 [.int .i64 l[i].1,kv'] [Value.int .i64 l[i].1,kv'].length));have hm4:=hm3.new hb4 (some (.cells 108 [.int .i64 l[i].1,kv'] [Value.int .i64 l[i].1,kv'].length));have hx:=za2 M2 b4 (some (.cells 108 [.int .i64 l[i].1,kv'] [Value.int .i64 l[i].1,kv'].length));refine ⟨zb6 (zbe hg4) rfl,?_⟩;generalize upd M2 b4 _=M4 at *;refine ho4.app (m:=1) (news:=[.int .i64 l[i].1,kv']) hm4 (by omega) ⟨rfl,.inr ⟨b4,0,1,_,rfl,Nat.le_refl _,.inr ⟨_,_,hx⟩,rfl⟩⟩ h1f.one.2 (by omega) (by unfold maxLen; omega) (λdv' M5 N5 g1 g2 g3 g4=>?_);have hgd:dv.ownBlock≠some g:=λe=>by have := (ho4.ge g e).1; omega
  obtain ⟨y1,y2⟩:=g2 g hgd (by omega);obtain ⟨a5,c5,e5,_⟩:=g1.form;try simp only [sS]
  refine stM (cs':=[.slice none 0 0,dv']) ?_ (y1.trans hg4) (by rw [e5]; rfl) (by rw [e5]; rfl) (by rw [e5]; exact List.all_eq_true.1 rfl);refine zaq (by omega) ?_;refine next (i+1) _ _ (by omega) (λhw6=>⟨_,za0 hw6,F3,_,N5,dv',rows++[[.int .i64 l[i].1,kv']],rfl,hF1.trans hF3,by omega,λq hq=>?_,g4.set (by omega) _,i1,za2 _ _ _,?_,?_⟩)
  ·exact (za4 _ _ (by omega)).trans (((g2 q (λe=>by have := (ho4.ge q e).1; omega) (by omega)).1).trans (hM4 q hq))
  ·refine own.keep (M:=M5) ?_ (λq hq=>za4 _ _ (λe=>y2 (e ▸ hq))) (Nat.le_refl _)
   simpa using g1
  ·rw [List.take_add_one,List.getElem?_eq_getElem i1,Option.toList_some];exact zcq (hr.mono λ_ _ h=>h.mono hF3) h1f.one h1f
 ·try simp only [sS]
  rw [show i=l.length by omega] at ho;rw [List.take_of_length_le (by omega)] at hr;have hne:¬ dv.ownBlock=some g:=λe=>by have := (ho.ge g e).1; omega
  refine λhc=>⟨_,zxn (p:=λq=>dv.ownBlock=some q) hc,λhw'=>k2 hok g dv _ _ N2 (hF1.trans (zeh hc)) ⟨(zfi hne).trans hbox,by omega,own.nil,zaf.nil _ _,by simp [Value.ownBlock],⟨rows,ho.frzP (λq h=>h),hr.mono λ_ _ h=>h.mono (zeh hc)⟩,.nil⟩ (λq hq=>(zfi (λe=>by have := (ho.ge q e).1; omega)).trans (hM1 q hq)) (by omega) (zgx hm1) hw'⟩
def zq3 (h:List En) (t:Int):Nat:=zbr h t+(if zdg h t=true then 1 else 0)
def yyz (h:List En) (t:Int):List Fc:=((h.take (zq3 h t)).map (·.2)).flatten
def qdj (h:List En) (i:Nat):List Fc:=((h.take i).map (·.2)).flatten
def inR (a b:Int) (f:Fc):Bool:=decide (0<f.1.length∧a≤f.1.getD 0 0∧f.1.getD 0 0<b)
def atT:List En -> Int -> List Fc
 | [],_=>[]
 | e::h,t=>if e.1=t then e.2 else atT h t
theorem zxo:∀ {h:List En} {t:Int},(∀ e∈h,e.1≠t) -> atT h t=[]
 | [],_,_=>rfl
 | e::h,t,hn=>by
  unfold atT;rw [if_neg (hn e List.mem_cons_self)];exact zxo λx hx=>hn x (List.mem_cons_of_mem _ hx)
theorem zq6:zc8 []:=List.Pairwise.nil
theorem zez {e:En} {h:List En}:zc8 (e::h)↔(∀ x∈h,e.1<x.1)∧zc8 h:=List.pairwise_cons
def withR:List En -> Int -> List Fc -> List En
 | [],t,fs=>[(t,fs)]
 | e::h,t,fs=>if e.1<t then e::withR h t fs else if e.1=t then (t,e.2++fs)::h else (t,fs)::e::h
theorem zyz:∀ {h:List En} {t:Int} {fs:List Fc} {x:En},x∈withR h t fs -> x.1=t∨x∈h
 | [],t,fs,x,hx=>by simp [withR] at hx; exact .inl (by rw [hx])
 | e::h,t,fs,x,hx=>by
  unfold withR at hx
  split at hx
  ·rcases List.mem_cons.1 hx with rfl | hx
   ·exact .inr List.mem_cons_self
   ·exact (zyz hx).imp id (List.mem_cons_of_mem _)
  ·split at hx
   ·rcases List.mem_cons.1 hx with rfl | hx
    ·exact .inl rfl
    ·exact .inr (List.mem_cons_of_mem _ hx)
   ·rcases List.mem_cons.1 hx with rfl | hx
    ·exact .inl rfl
    ·exact .inr hx
theorem zmz:∀ {h:List En} {t:Int} {fs:List Fc},zc8 h -> zc8 (withR h t fs)
 | [],t,fs,_=>zez.2 ⟨by simp,zq6⟩
 | e::h,t,fs,hs=>by
  obtain ⟨h1,h2⟩:=zez.1 hs;unfold withR
  split
  ·refine zez.2 ⟨λx hx=>?_,zmz h2⟩
   rcases zyz hx with hx | hx
   ·omega
   ·exact h1 x hx
  ·split
   ·rename_i he
    exact zez.2 ⟨λx hx=>by have := h1 x hx; simp only; omega,h2⟩
   ·refine zez.2 ⟨λx hx=>?_,hs⟩
    rcases List.mem_cons.1 hx with rfl | hx
    ·simp only; omega
    ·have := h1 x hx; simp only; omega
theorem ybg:∀ {h:List En} {t:Int} {fs:List Fc} (s:Int),zc8 h -> atT (withR h t fs) s=if s=t then atT h t++fs else atT h s
 | [],t,fs,s,_=>by
  simp only [withR,atT]
  by_cases h:s=t
  ·rw [if_pos h.symm,if_pos h]; rfl
  ·rw [if_neg (λe=>h e.symm),if_neg h]
 | e::h,t,fs,s,hs=>by
  obtain ⟨h1,h2⟩:=zez.1 hs;unfold withR
  split
  ·rename_i hlt
   simp only [atT];rw [ybg s h2,if_neg (by omega:¬ e.1=t)]
   by_cases hes:e.1=s
   ·rw [if_pos hes,if_neg (by omega),if_pos hes]
   ·rw [if_neg hes]
    by_cases hst:s=t
    ·rw [if_pos hst,if_pos hst]
    ·rw [if_neg hst,if_neg hst,if_neg hes]
  ·split
   ·rename_i he
    simp only [atT]
    by_cases hst:s=t
    ·rw [if_pos hst.symm,if_pos hst,if_pos he]
    ·rw [if_neg (λq=>hst q.symm),if_neg hst,if_neg (by omega)]
   ·rename_i h3 h4
    have ho:atT (e::h) t=[]:=zxo λx hx=>by
     rcases List.mem_cons.1 hx with rfl | hx
     ·exact h4
     ·have := h1 x hx; omega
    rw [ho]
    by_cases hst:s=t
    ·subst hst; simp [atT]
    ·rw [if_neg hst];show (if t=s then fs else atT (e::h) s)=_
     rw [if_neg (λq=>hst q.symm)]
theorem zmm:∀ (h:List En) (t:Int) (fs:List Fc),(withR h t fs).length≤h.length+1
 | [],t,fs=>by simp [withR]
 | e::h,t,fs=>by
  unfold withR
  split
  ·have := zmm h t fs; simp only [List.length_cons]; omega
  ·split<;>simp
def zuu (h:List En) (t:Int):List Fc:=if zdg h t=true then (h.getD (zbr h t) (0,[])).2 else []
def zoo (h:List En) (t:Int) (fs:List Fc):List En:=h.take (zbr h t)++(t,zuu h t++fs)::h.drop (zq3 h t)
theorem zoq (e:En) (h:List En) (t:Int):zbr (e::h) t=if e.1<t then zbr h t+1 else 0:=rfl
theorem zu4 (e:En) (h:List En) (t:Int):zdg (e::h) t=if e.1<t then zdg h t else decide (e.1=t):=by
 unfold zdg;rw [zoq]
 by_cases h1:e.1<t
 ·rw [if_pos h1,if_pos h1,List.getElem?_cons_succ]
 ·rw [if_neg h1,if_neg h1]; rfl
theorem yhd (e:En) (h:List En) (t:Int):zq3 (e::h) t=if e.1<t then zq3 h t+1 else if e.1=t then 1 else 0:=by
 unfold zq3;rw [zoq,zu4]
 split
 ·omega
 ·by_cases h:e.1=t<;>simp [h]
theorem zm5:∀ (h:List En) (t:Int) (fs:List Fc),zoo h t fs=withR h t fs
 | [],t,fs=>by simp [zoo,withR,zbr,zuu,zdg,zq3]
 | e::h,t,fs=>by
  have ih:=zm5 h t fs;unfold zoo zuu at ih ⊢;unfold withR;rw [zoq,zu4,yhd]
  by_cases h1:e.1<t
  ·rw [if_pos h1,if_pos h1,if_pos h1,if_pos h1,← ih]
   simp
  ·rw [if_neg h1,if_neg h1,if_neg h1,if_neg h1]
   by_cases h2:e.1=t
   ·simp [h2]
   ·simp [h2]
theorem zqo {h:List En} {t:Int} {fs:List Fc} (ht:zdg h t=false):zoo h t fs=zn6 h t fs:=by
 unfold zoo zuu zq3 zn6;rw [ht]; simp
theorem yhk {h:List En} {t:Int} {fs:List Fc} (ht:zdg h t=true) (hi:zbr h t<h.length):zoo h t fs=h.set (zbr h t) (t,h[zbr h t].2++fs):=by
 unfold zoo zuu zq3;rw [ht,if_pos rfl,if_pos rfl,zdq hi,List.set_eq_take_append_cons_drop,if_pos hi]
theorem yjx {h:List En} {t:Int} (ht:zdg h t=true):zbr h t<h.length:=by
 rcases Nat.lt_or_ge (zbr h t) h.length with h1 | h1
 ·exact h1
 ·rw [zz5 (by omega)] at ht; cases ht
theorem ylb {f:En -> Option En} (hf:∀ e x,f e=some x -> x.1=e.1) {h:List En} (hs:zc8 h):zc8 (h.filterMap f) :=
 List.Pairwise.filterMap f (λa a' hr b hb b' hb'=>by rw [hf a b hb,hf a' b' hb']; exact hr) hs
theorem yrl {f:En -> Option En} {h:List En} {x:En} (hx:x∈h.filterMap f):∃ e∈h,f e=some x:=List.mem_filterMap.1 hx
def yck (a b:Int) (e:En):Option En:=if 0<(e.2.filter (inR a b)).length then some (e.1,e.2.filter (inR a b)) else none
def zjp (a b:Int) (h:List En):List En:=h.filterMap (yck a b)
def zh0 (a b:Int) (f:Fc):Bool:=!inR a b f
def zl3 (a b:Int) (e:En):Option En:=if 0<(e.2.filter (zh0 a b)).length∨e.2.length=0 then some (e.1,e.2.filter (zh0 a b)) else none
def zct (a b:Int) (h:List En):List En:=h.filterMap (zl3 a b)
theorem ya7 (a b:Int) (e:En):(zl3 a b e=none∧e.2.filter (zh0 a b)=[])∨zl3 a b e=some (e.1,e.2.filter (zh0 a b)):=by
 unfold zl3
 by_cases h:0<(e.2.filter (zh0 a b)).length∨e.2.length=0
 ·rw [if_pos h]; exact .inr rfl
 ·rw [if_neg h]; exact .inl ⟨rfl,List.eq_nil_of_length_eq_zero (by omega)⟩
theorem ydx {f:En -> Option En} {g:List Fc -> List Fc} (hf:∀ e,(f e=none∧g e.2=[])∨f e=some (e.1,g e.2)) (e x:En) (h:f e=some x):x=(e.1,g e.2):=by
 rcases hf e with ⟨h1,_⟩ | h1
 ·rw [h1] at h; cases h
 ·rw [h1] at h; cases h; rfl
theorem yd1 {a b:Int} {h:List En} (hs:zc8 h):zc8 (zct a b h):=ylb (λe x hx=>by rw [ydx (ya7 a b) e x hx]) hs
theorem zq8 {a b:Int} {h:List En} {x:En} (hx:x∈zct a b h):∃ e∈h,x=(e.1,e.2.filter (zh0 a b)):=by
 obtain ⟨e,he,hf⟩:=yrl hx;exact ⟨e,he,ydx (ya7 a b) e x hf⟩
def zjq (h:List En) (e:En):List En:=if 0<e.2.length then withR h e.1 e.2 else h
def zco (h es:List En):List En:=es.foldl zjq h
theorem yoz {h:List En} {e:En} (hs:zc8 h) (s:Int):atT (zjq h e) s=if s=e.1 then atT h s++e.2 else atT h s:=by
 unfold zjq
 split
 ·rw [ybg s hs]
  by_cases hse:s=e.1
  ·rw [if_pos hse,if_pos hse,hse]
  ·rw [if_neg hse,if_neg hse]
 ·rename_i h0
  rw [List.eq_nil_of_length_eq_zero (by omega:e.2.length=0)]
  split<;>simp
theorem zw4 {h:List En} {e:En} (hs:zc8 h):zc8 (zjq h e):=by
 unfold zjq; split
 ·exact zmz hs
 ·exact hs
theorem zlt:∀ {es h:List En},zc8 h -> zc8 (zco h es)
 | [],h,hs=>hs
 | e::es,h,hs=>zlt (es:=es) (zw4 hs)
theorem zyg:∀ {es h:List En} (s:Int),zc8 h -> zc8 es -> atT (zco h es) s=atT h s++atT es s
 | [],h,s,_,_=>by simp [zco,atT]
 | e::es,h,s,hs,he=>by
  obtain ⟨h1,h2⟩:=zez.1 he;have := zyg (es:=es) s (zw4 (e:=e) hs) h2;show atT (zco (zjq h e) es) s=_;rw [this,yoz hs];simp only [atT]
  by_cases hse:s=e.1
  ·rw [if_pos hse,if_pos hse.symm,zxo (h:=es) λx hx=>by have := h1 x hx; omega,List.append_nil]
  ·rw [if_neg hse,if_neg (λq=>hse q.symm)]
theorem zvi:∀ (es h:List En),(zco h es).length≤h.length+es.length
 | [],h=>by simp [zco]
 | e::es,h=>by
  have h1:=zvi es (zjq h e)
  have h2:(zjq h e).length≤h.length+1:=by
   unfold zjq; split
   ·exact zmm _ _ _
   ·omega
  show (zco (zjq h e) es).length≤_;simp only [List.length_cons]; omega
def zfv (l:List Dm) (a b:Int):Int -> List En -> Bool
 | _,[]=>true
 | last,e::es=>decide (last<e.1)&&zd1 l e.2&&(e.2.all (inR a b)&&zfv l a b e.1 es)
def zmf (a b:Int) (h es:List En):List En:=zco (zct a b h) es
def zme (h:List En):Bool:=h.any λe=>decide (200<e.2.length)
def zic (l:List Dm) (a b:Int) (h es:List En):Nat:=if zfv l a b 0 es=false then 1 else if 5000<(zmf a b h es).length∨zme (zmf a b h es)=true then 3 else 0
def zra (l:List Dm) (a b:Int) (h es:List En):List En:=if zic l a b h es=0 then zmf a b h es else h
theorem zrv {l:List Dm} {a b last:Int} {e:En} {es:List En} (h:zfv l a b last (e::es)=true):last<e.1∧zd1 l e.2=true∧(∀ f∈e.2,inR a b f=true)∧zfv l a b e.1 es=true:=by
 unfold zfv at h;rw [Bool.and_eq_true,Bool.and_eq_true,Bool.and_eq_true] at h;exact ⟨of_decide_eq_true h.1.1,h.1.2,List.all_eq_true.1 h.2.1,h.2.2⟩
theorem zv4 {l:List Dm} {a b:Int}:∀ {es:List En} {last:Int},zfv l a b last es=true -> zc8 es∧∀ e∈es,last<e.1∧zd1 l e.2=true∧∀ f∈e.2,inR a b f=true
 | [],_,_=>⟨zq6,by simp⟩
 | e::es,last,h=>by
  obtain ⟨h1,h2,h3,h4⟩:=zrv h;obtain ⟨g1,g2⟩:=zv4 h4;refine ⟨zez.2 ⟨λx hx=>(g2 x hx).1,g1⟩,λx hx=>?_⟩
  rcases List.mem_cons.1 hx with rfl | hx
  ·exact ⟨h1,h2,h3⟩
  ·obtain ⟨a1,a2,a3⟩:=g2 x hx;exact ⟨by omega,a2,a3⟩
structure okH (l:List Dm) (n m:Nat) (h:List En):Prop where
 rs:zc8 h
 ti:∀ e∈h,0<e.1
 fi:∀ e∈h,∀ f∈e.2,inF l f.1=true
 le:h.length≤n
 fl:∀ e∈h,e.2.length≤m
theorem okH.nil (l:List Dm) (n m:Nat):okH l n m []:=⟨zq6,by simp,by simp,Nat.zero_le _,by simp⟩
theorem okH.up {l:List Dm} {n m n' m':Nat} {h:List En} (k:okH l n m h) (h1:n≤n') (h2:m≤m'):okH l n' m' h:=⟨k.rs,k.ti,k.fi,by have := k.le; omega,λe he=>by have := k.fl e he; omega⟩
theorem zqk {P:En -> Prop} {t:Int} {fs:List Fc} (h0:P (t,fs)) (ha:∀ e:En,e.1=t -> P e -> P (t,e.2++fs)):∀ {h:List En},(∀ e∈h,P e) -> ∀ e∈withR h t fs,P e
 | [],_,e,he=>by simp [withR] at he; rw [he]; exact h0
 | d::h,hp,e,he=>by
  unfold withR at he
  split at he
  ·rcases List.mem_cons.1 he with rfl | he
   ·exact hp _ List.mem_cons_self
   ·exact zqk h0 ha (λx hx=>hp x (List.mem_cons_of_mem _ hx)) e he
  ·split at he
   ·rename_i hd
    rcases List.mem_cons.1 he with rfl | he
    ·exact ha d hd (hp d List.mem_cons_self)
    ·exact hp e (List.mem_cons_of_mem _ he)
   ·rcases List.mem_cons.1 he with rfl | he
    ·exact h0
    ·exact hp e he
theorem okH.withR {l:List Dm} {n m k:Nat} {h:List En} (o:okH l n m h) {t:Int} {fs:List Fc} (ht:0<t) (hf:∀ f∈fs,inF l f.1=true) (hk:fs.length≤k):okH l (n+1) (m+k) (A.withR h t fs):=by
 refine ⟨zmz o.rs,?_,?_,by have := zmm h t fs; have := o.le; omega,?_⟩
 ·exact zqk (P:=λe=>0<e.1) ht (λ_ _ _=>ht) o.ti
 ·refine zqk (P:=λe=>∀ f∈e.2,inF l f.1=true) hf (λe _ he f hx=>?_) o.fi
  rcases List.mem_append.1 hx with hx | hx
  ·exact he f hx
  ·exact hf f hx
 ·intro e he
  have key:∀ {h:List En},(∀ e∈h,e.2.length≤m) -> ∀ e∈A.withR h t fs,e.2.length≤m+k:=by
   intro h
   induction h with
   | nil=>intro _ e he; simp [A.withR] at he; rw [he]; simp only; omega
   | cons d h ih=>
    intro hp e he;unfold A.withR at he
    split at he
    ·rcases List.mem_cons.1 he with rfl | he
     ·have := hp _ List.mem_cons_self; omega
     ·exact ih (λx hx=>hp x (List.mem_cons_of_mem _ hx)) e he
    ·split at he
     ·rcases List.mem_cons.1 he with rfl | he
      ·have := hp d List.mem_cons_self; simp only [List.length_append]; omega
      ·have := hp e (List.mem_cons_of_mem _ he); omega
     ·rcases List.mem_cons.1 he with rfl | he
      ·simp only; omega
      ·have := hp e he; omega
  exact key o.fl e he
theorem ydr {l:List Dm} {h:List En} {t:Int} {fs:List Fc} (e:ziu l h t fs=0):zd1 l fs=true∧t≠0∧zdg h t=false∧h.length<5000:=by
 unfold ziu at e
 split at e
 ·omega
 ·rename_i h1
  split at e
  ·omega
  ·rename_i h2
   split at e
   ·omega
   ·refine ⟨by simpa using h1,λq=>h2 (.inl q),?_,by omega⟩;cases h3:zdg h t
    ·rfl
    ·exact absurd (.inr h3) h2
theorem ypl {l:List Dm} {h:List En} {t:Int} {fs:List Fc} (e:ziu l h t fs=0):zmx l h t fs=withR h t fs:=by
 unfold zmx;rw [if_pos e,← zqo (ydr e).2.2.1,zm5]
theorem ygn {h:List En} {t:Int} {fs:List Fc} (hs:zc8 h) (ht:zdg h t=false) {m:Nat} (hm:∀ e∈h,e.2.length≤m) (hk:fs.length≤m):∀ e∈withR h t fs,e.2.length≤m:=by
 intro e he;rw [← zm5,zqo ht] at he;unfold zn6 at he
 rcases List.mem_append.1 he with he | he
 ·exact hm e (List.mem_of_mem_take he)
 ·rcases List.mem_cons.1 he with rfl | he
  ·exact hk
  ·exact hm e (List.mem_of_mem_drop he)
theorem okH.add {l:List Dm} {h:List En} (o:okH l 5000 200 h) {t:Int} (ht:0≤t) (fs:List Fc):okH l 5000 200 (zmx l h t fs):=by
 by_cases e:ziu l h t fs=0
 ·obtain ⟨h1,h2,h3,h4⟩:=ydr e;obtain ⟨f1,f2⟩:=zh6 h1;have w:=o.withR (t:=t) (by omega) f2 f1;rw [ypl e];exact ⟨w.rs,w.ti,w.fi,by have := zmm h t fs; omega,ygn o.rs h3 o.fl f1⟩
 ·unfold zmx; rw [if_neg e]; exact o
theorem okH.rest {l:List Dm} {n m:Nat} {h:List En} (o:okH l n m h) (a b:Int):okH l n m (zct a b h):=by
 refine ⟨yd1 o.rs,λx hx=>?_,λx hx=>?_,?_,λx hx=>?_⟩
 ·obtain ⟨e,he,rfl⟩:=zq8 hx; exact o.ti e he
 ·obtain ⟨e,he,rfl⟩:=zq8 hx; exact λf hf=>o.fi e he f (List.mem_filter.1 hf).1
 ·have := List.length_filterMap_le (zl3 a b) h; have := o.le; unfold zct; omega
 ·obtain ⟨e,he,rfl⟩:=zq8 hx;have := o.fl e he;have := List.length_filter_le (zh0 a b) e.2;simp only; omega
def yuq (h:List En):List Fc:=(h.map (·.2)).flatten
def yz0 (h:List En) (t:Int):List Fc:=yuq (h.filter λe=>decide (e.1≤t))
theorem yhg:∀ {h:List En} {e:En},zc8 h -> e∈h -> atT h e.1=e.2
 | [],_,_,he=>by simp at he
 | d::h,e,hs,he=>by
  obtain ⟨h1,h2⟩:=zez.1 hs;unfold atT
  rcases List.mem_cons.1 he with rfl | he
  ·rw [if_pos rfl]
  ·have := h1 e he;rw [if_neg (by omega)]; exact yhg h2 he
theorem zyc {m:Nat}:∀ {h:List En} (s:Int),(∀ e∈h,e.2.length≤m) -> (atT h s).length≤m
 | [],s,_=>by simp [atT]
 | d::h,s,hp=>by
  unfold atT
  split
  ·exact hp d List.mem_cons_self
  ·exact zyc s λx hx=>hp x (List.mem_cons_of_mem _ hx)
theorem yi8 {n k:Nat} {es h:List En} (hs:zc8 h) (he:zc8 es) (h1:∀ e∈h,e.2.length≤n) (h2:∀ e∈es,e.2.length≤k):∀ e∈zco h es,e.2.length≤n+k:=λe hx=>by
 have h3:=yhg (zlt (es:=es) hs) hx;rw [zyg _ hs he] at h3;have h4:=congrArg List.length h3;rw [List.length_append] at h4;have h5:=zyc e.1 h1;have h6:=zyc e.1 h2;omega
theorem zuv {l:List Dm} {a b T:Int}:∀ {es:List En} {last:Int},zfv l a b last es=true -> last<T -> (∀ e∈es,e.1<T) -> (es.length:Int)+last<T
 | [],last,_,h1,_=>by simp; exact h1
 | e::es,last,h,h1,h2=>by
  obtain ⟨g1,_,_,g4⟩:=zrv h;have := zuv g4 (h2 e List.mem_cons_self) λx hx=>h2 x (List.mem_cons_of_mem _ hx);rw [List.length_cons]; omega
section
variable {h:Hp}
theorem yqe {b o off:Nat} (k:K (.pointer (some ⟨b,o+off,none⟩)) h):pv (faV off (.pointer (some ⟨b,o,none⟩))) K h:=⟨_,rfl,k⟩
end
theorem zje {α:Type} (l:List (List α)) {i:Nat} (h:i<l.length):(l.take (i+1)).flatten=(l.take i).flatten++l[i]:=by
 rw [List.take_add_one,List.getElem?_eq_getElem h,Option.toList_some,List.flatten_append]; simp
theorem yo7 {n:Nat} (hm:za6 M N) (hn:n≤1000000000000) (k:∀ v' M' N',own M' N 110 2 v' 0 [] -> (∀ q,q<N -> M' q=M q) -> N≤N' -> za6 M' N' -> (Hp.mk F M' N').wf -> K v' ⟨F,M',N'⟩) :
  cF 296 #[.slice none 0 0,.int .i64 (n:Nat)] K E ⟨F,M,N⟩:=by
 refine za5 mixed Tryz.func296 (by kernel_rfl) (ywf _ E _ _) (λhw=>?_);refine zkd (by omega) ?_;try simp only [sS]
 rw [yjk];try simp only [sS]
 refine zkz (a:=0) (b:=0) (by omega) (by omega) ?_;refine zkz (a:=n) (b:=0) (by omega) (by omega) ?_;rw [Nat.sub_zero];refine zby (λh0=>?_) (λh0=>?_)
 ·try simp only [sS]
  refine zny 0 0 0 (Nat.le_refl _) (Nat.le_refl _) (Nat.le_refl _) ?_;refine ⟨none,0,0,[],n,.i64,rfl,rfl,⟨by simp,.inl ⟨_,_,rfl,rfl⟩⟩,Nat.le_refl _,by omega,by omega,by simp [maxLen]; omega,λb c hb0 hc hcm=>?_⟩;have hb:N≤b:=hb0;try simp only [sS]
  refine zh7 0 (Nat.zero_le _) ?_;try simp only [sS]
  rw [zvt];refine λhc'=>⟨_,za0 hc',λhw'=>k _ _ _ ⟨by simp,.inr ⟨b,c,_,rfl,Nat.zero_le _,hcm,hb,za2 _ _ _⟩⟩ (λq hq=>za4 _ _ (by omega)) (Nat.le_succ_of_le hb) (hm.new hb _) hw'⟩
 ·try simp only [sS]
  rw [zvt];exact λhc'=>⟨_,za0 hc',λhw'=>k _ _ _ own.nil (λ_ _=>rfl) (Nat.le_refl _) hm hw'⟩
def zna (F:Nat -> Option (List Value)) (v:Value) (ts:List (List Fc)):Prop:=∃ rows,sF F 1 v ts.length rows.flatten∧zaf (λr t=>∃ u,r=[u]∧zbp F u t∧t.length≤140737488351232) 1 rows ts
theorem zna.mono {v:Value} {ts:List (List Fc)} (h:zna F v ts) (hF:za9 F F'):zna F' v ts:=let ⟨rows,h1,h2⟩:=h; ⟨rows,h1.mono hF,h2.mono λ_ _ ⟨u,e,h,l⟩=>⟨u,e,h.mono hF,l⟩⟩
theorem ye9 {v:Value} {ts:List (List Fc)} {K:Value -> zae} (hv:zna F v ts) {i:Nat} (hi:i<ts.length) (k:∀ p u,zbp F u ts[i] -> ts[i].length≤140737488351232 -> K p u ⟨F,M,N⟩):pv (iaV none 1 v (.int .i64 (i:Nat))) (λp=>ld false 1 p (K p)) ⟨F,M,N⟩:=by
 obtain ⟨rows,h1,h2⟩:=hv;obtain ⟨b,o,c,cs,r,rfl,hF,_,⟨u,rfl,hu,hul⟩,hl,_,hle,ht,hj⟩:=zw6 h1 h2 (by decide) hi;exact zd0 hi (zg3 (zb6 (zif hF) (hj 0 (by decide))) (k _ _ hu hul))
theorem yi1 {v:Value} {ts:List (List Fc)} (hv:zna F v ts) (hl:ts.flatten.length≤1000000000) (htl:ts.length≤1000000000) (k:∀ v' F' N',(Hp.mk F' M N').wf -> za9 F F' -> N≤N' -> zbp F' v' ts.flatten -> K v' ⟨F',M,N'⟩) :
  cF 247 #[v] K E ⟨F,M,N⟩:=by
 refine za5 mixed Tryz.func247 (by kernel_rfl) (yyp _ E _) (λhw=>?_);have hm:za6 M N:=hw.m;have hlv:zac v=some (.int .i64 (ts.length:Nat)):=by obtain ⟨rows,h1,_⟩:=hv; obtain ⟨a,c,rfl,_⟩:=h1.form; rfl
 have hfl:∀ i,i≤ts.length -> (ts.take i).flatten.length≤ts.flatten.length:=λi hi=>by
  have h:=congrArg List.flatten (List.take_append_drop i ts);rw [List.flatten_append] at h;have := congrArg List.length h;rw [List.length_append] at this;omega
 try simp only [hlv]
 try simp only [sS]
 refine zt7 (σ:=Nat) (λi=>.int .i64 ((ts.take i).flatten.length:Nat)) (λi=>.int .i64 (i:Nat)) (λi h=>h=⟨F,M,N⟩∧i≤ts.length) (λi=>ts.length - i) 0 rfl rfl
  (λhw1=>⟨_,za0 hw1,rfl,Nat.zero_le _⟩) (λk1 i j h1 hI hw1 next=>?_)
 rw [zt3];obtain ⟨rfl,hi⟩:=hI;refine zau (λhlt=>?_) (λhge=>?_)
 ·have h1:i<ts.length:=by omega
  try simp only [sS]
  refine ye9 hv h1 λp u hu hul=>?_;obtain ⟨a,c,rfl⟩:=hu.form;have h2:=hfl (i+1) h1;have e:=zje ts h1;rw [e,List.length_append] at h2;try simp only [sS]
  refine zkc (by omega) (zkd (by omega) ?_);try simp only [sS]
  rw [zmr];refine zaq (by omega) ?_;rw [← List.length_append,← e];exact next (i+1) _ _ (by omega) (λhw2=>⟨_,za0 hw2,rfl,h1⟩)
 ·try simp only [sS]
  rw [List.take_of_length_le (by omega)];refine yo7 hm (by omega) (λu M1 N1 ho hM1 hN1 hm1 hw1=>?_);try simp only [hlv]
  try simp only [sS]
  refine zo0 (σ:=Nat×Value) (λs=>s.2) (λs=>.int .i64 (s.1:Nat))
   (λs h=>∃ M' N' rows,h=⟨F,M',N'⟩∧N≤N'∧(∀ q,q<N -> M' q=M q)∧za6 M' N'∧s.1≤ts.length∧own M' N 110 2 s.2 (ts.take s.1).flatten.length rows.flatten∧zaf (zcr F) 2 rows (ts.take s.1).flatten) (λs=>ts.length - s.1) (0,u) rfl rfl
   (λhw2=>⟨_,za0 hw2,M1,N1,[],rfl,hN1,hM1,hm1,Nat.zero_le _,ho,zaf.nil _ _⟩) (λk1 s j h1 hI hw2 next=>?_)
  rw [zp5];obtain ⟨M2,N2,rows,rfl,hN2,hM2,hm2,hi,ho2,hr2⟩:=hI;refine zau (λhlt=>?_) (λhge=>?_)
  ·have h1:s.1<ts.length:=by omega
   try simp only [sS]
   refine ye9 hv h1 λp w hwt hwl=>?_;obtain ⟨rows3,hw3,hr3⟩:=hwt;have h2:=hfl (s.1+1) h1;have e:=zje ts h1;rw [e,List.length_append] at h2;refine ho2.app hm2 hN2 hw3.sR hr3.f1 (by omega) (by unfold maxLen; omega) (λw' M3 N3 h4 h5 h6 h7=>?_);refine zaq (by omega) ?_;refine next (s.1+1,w') _ _ (by simp only; omega) (λhw4=>⟨_,za0 hw4,M3,N3,rows++rows3,rfl,by omega,λq hq=>?_,h7,h1,?_,?_⟩)
   ·have q1:s.2.ownBlock≠some q:=λe=>by have := (ho2.ge q e).1; omega
    exact ((h5 q q1 (by omega)).1).trans (hM2 q hq)
   ·simp only;rw [e,List.length_append,List.flatten_append]; exact h4
   ·simp only;rw [e]; exact zok hr2 hr3
  ·try simp only [sS]
   rw [List.take_of_length_le (by omega)] at ho2 hr2;exact λhc=>⟨_,zdw hm hM2 hc,λhw'=>k _ _ _ hw' (zbb hc) hN2 (zq4 hc ho2 hr2)⟩
theorem yqs {α:Type} {R:List Value -> α -> Prop} {B sz off:Nat} {e:TypeId} {v:Value} {l:List α} {rows:List (List Value)} {K:Value -> Value -> zae} (hv:own M B e sz v l.length rows.flatten) (hr:zaf R sz rows l) (ho:off<sz) {i:Nat} (hi:i<l.length)
  (k:∀ b c r x,v=.slice (some ⟨b,0,none⟩) l.length c -> (∃ cs tot,M b=some (.cells e cs tot)∧cs[i*sz+off]?=some x) -> rows[i]?=some r -> R r l[i] -> r.length=sz -> r[off]?=some x -> K (.pointer (some ⟨b,0+i*sz,none⟩)) (.pointer (some ⟨b,0+i*sz+off,none⟩)) x ⟨F,M,N⟩):pv (iaV none sz v (.int .i64 (i:Nat))) (λp=>pv (faV off p) λq=>ld false 1 q (K p q)) ⟨F,M,N⟩:=by
 rcases hv.2 with ⟨rfl,h0⟩ | ⟨b,c,rest,rfl,h1,h2,h3,h4⟩
 ·omega
 obtain ⟨r,hri,hR,hdt,hle,hrl⟩:=hr.get (List.getElem?_eq_getElem hi);have hx:r[off]?=some (r[off]'(by omega)):=List.getElem?_eq_getElem _
 have hcx:(rows.flatten++rest)[i*sz+off]?=some (r[off]'(by omega)):=by
  rw [List.getElem?_append_left (by omega),← hx,← hdt,List.getElem?_take,if_pos ho,List.getElem?_drop]
 refine zd0 hi (yqe (zg3 (zb6 (zbe h4) (by rw [Nat.zero_add]; exact hcx)) ?_));exact k b c r _ rfl ⟨_,_,h4,hcx⟩ hri hR hrl hx
theorem zrt {sz:Nat}:∀ (rows:List (List Value)) (i off:Nat) (x:Value),(∀ r∈rows,r.length=sz) -> off<sz -> (hi:i<rows.length) -> rows.flatten.set (i*sz+off) x=(rows.set i (rows[i].set off x)).flatten
 | [],i,off,x,_,_,hi=>by simp at hi
 | r::rows,0,off,x,hl,ho,_=>by
  have := hl r List.mem_cons_self;simp only [List.flatten_cons,Nat.zero_mul,Nat.zero_add,List.set_cons_zero,List.getElem_cons_zero];rw [List.set_append_left _ _ (by omega)]
 | r::rows,i+1,off,x,hl,ho,hi=>by
  have h1:=hl r List.mem_cons_self;have ih:=zrt rows i off x (λq hq=>hl q (List.mem_cons_of_mem _ hq)) ho (by simpa using hi);simp only [List.flatten_cons,List.set_cons_succ,List.getElem_cons_succ];rw [List.set_append_right _ _ (by rw [Nat.succ_mul]; omega),← ih,h1]
  congr 2
  rw [Nat.succ_mul]; omega
theorem zyu {α:Type} {R:List Value -> α -> Prop} {sz:Nat} {rows:List (List Value)} {l:List α} (h:zaf R sz rows l) {r:List Value} {x:α} (h1:r.length=sz∧∀ c∈r,c.oneCell'=true) (hR:R r x) (i:Nat):zaf R sz (rows.set i r) (l.set i x):=by
 refine ⟨λq hq=>?_,λq hq=>?_,by rw [List.length_set,List.length_set]; exact h.all.1,λj a b ha hb=>?_⟩
 ·rcases List.mem_or_eq_of_mem_set hq with hq | rfl
  ·exact h.len q hq
  ·exact h1.1
 ·rcases List.mem_or_eq_of_mem_set hq with hq | rfl
  ·exact h.one q hq
  ·exact h1.2
 ·rw [List.getElem?_set] at ha hb
  by_cases hij:i=j
  ·rw [if_pos hij] at ha hb
   split at ha
   ·split at hb
    ·cases ha; cases hb; exact hR
    ·cases hb
   ·cases ha
  ·rw [if_neg hij] at ha hb;exact h.all.2 j a b ha hb
theorem yrr {α:Type} {R:List Value -> α -> Prop} {B sz off:Nat} {e:TypeId} {v:Value} {l:List α} {rows:List (List Value)} {K:Value -> Value -> zae} {u:Value} {y:α} (hv:own M B e sz v l.length rows.flatten) (hr:zaf R sz rows l) (ho:off<sz) {i:Nat} (hi:i<l.length) (hu:u.cells = #[u]) (hu1:u.oneCell'=true) (hR:∀ r,rows[i]?=some r -> R (r.set off u) y)
  (k:∀ p q M' rows',own M' B e sz v (l.set i y).length rows'.flatten -> zaf R sz rows' (l.set i y) -> (∀ q,v.ownBlock≠some q -> M' q=M q) -> (∀ n,za6 M n -> za6 M' n) -> K p q undef ⟨F,M',N⟩):pv (iaV none sz v (.int .i64 (i:Nat))) (λp=>pv (faV off p) λq=>st 1 q u (K p q)) ⟨F,M,N⟩:=by
 rcases hv.2 with ⟨rfl,h0⟩ | ⟨b,c,rest,rfl,h1,h2,h3,h4⟩
 ·omega
 obtain ⟨r,hri,hRr,hdt,hle,hrl⟩:=hr.get (List.getElem?_eq_getElem hi);have hri':=hri;obtain ⟨hil,hre⟩:=List.getElem?_eq_some_iff.1 hri;have hrl1:=hr.one r (List.mem_of_getElem? hri);refine zd0 hi (yqe ?_);have hlen:0+i*sz+off<(rows.flatten++rest).length:=by rw [List.length_append]; omega
 have hsp:zb3 (rows.flatten++rest) (0+i*sz+off) u.cells.toList=(rows.set i (r.set off u)).flatten++rest:=by
  rw [hu,show (#[u]:Array Value).toList=[u] from rfl,zu8 hlen,List.set_append_left _ _ (by omega),Nat.zero_add,zrt rows i off u hr.len ho hil,hre]
 refine yfi h4 (by rw [hu]; rfl) (by rw [hu]; intro x hx; rw [List.mem_singleton.1 hx]; exact hu1) (by omega) hsp ?_;refine k _ _ _ (rows.set i (r.set off u)) ⟨?_,.inr ⟨b,c,rest,by rw [List.length_set],by rw [List.length_set]; exact h1,h2,h3,za2 _ _ _⟩⟩ (zyu hr ⟨by rw [List.length_set]; exact hrl,λx hx=>?_⟩ (hR r hri) i) (λq hq=>za4 _ _ (λe=>hq (by rw [e]; rfl))) (λn hn=>hn.set (hn.lt h4) _)
 ·rw [List.length_set,zdm _ (λq hq=>?_),List.length_set,hr.all.1]
  rcases List.mem_or_eq_of_mem_set hq with hq | rfl
  ·exact hr.len q hq
  ·rw [List.length_set]; exact hrl
 ·rcases List.mem_or_eq_of_mem_set hx with hx | rfl
  ·exact hrl1 x hx
  ·exact hu1
def isW (F:Nat -> Option (List Value)) (w:Value) (a b:Int):Prop:=∃ c1 c2,w=.func (.func 105) #[] #[.pointer (some ⟨c1,0,none⟩),.pointer (some ⟨c2,0,none⟩)]∧F c1=some [.int .i64 a]∧F c2=some [.int .i64 b]
theorem isW.mono {w:Value} {a b:Int} (h:isW F w a b) (hF:za9 F F'):isW F' w a b:=let ⟨c1,c2,h1,h2,h3⟩:=h; ⟨c1,c2,h1,hF _ _ h2,hF _ _ h3⟩
theorem zp7 {a b:Int} (k:∀ w F' N',(Hp.mk F' M N').wf -> za9 F F' -> N≤N' -> isW F' w a b -> K w ⟨F',M,N'⟩) :
  cF 52 #[.int .i64 a,.int .i64 b] K E ⟨F,M,N⟩:=by
 refine za5 mixed Tryz.func52 (by kernel_rfl) (t52 _ E _ _) (λhw=>?_);have hm:za6 M N:=hw.m;refine zar (cs:=[.int .i64 a]) (λb1 hb1=>?_);refine zar (cs:=[.int .i64 b]) (λb2 hb2=>?_);refine λhc=>⟨_,zdw hm (λq hq=>(za4 _ _ (by omega)).trans (za4 _ _ (by omega))) hc,λhw'=>k _ _ _ hw' (zbb hc) (by omega) ⟨b1,b2,rfl,?_,?_⟩⟩
 ·exact zhl (by omega) ((za4 _ _ (by omega)).trans (za2 _ _ _))
 ·exact zhl (by omega) (za2 _ _ _)
theorem ldF {sz b o:Nat} {cs:List Value} {v:Value} (k:K v ⟨F,M,N⟩) (hF:F b=some cs) (hv:cs[o]?=some v:=by rfl):ld false sz (.pointer (some ⟨b,o,none⟩)) K ⟨F,M,N⟩:=zg3 (zb6 (zif hF) hv) k
theorem ysq {w:Value} {a b:Int} {cs:List Value} {f:Fc} (hW:isW F w a b) (hf:zcr F cs f) (k:∀ N',N≤N' -> (Hp.mk F M N').wf -> K (.bool (inR a b f)) ⟨F,M,N'⟩) :
  zbq Tryz.prog w #[.agg cs.toArray] K E ⟨F,M,N⟩:=by
 obtain ⟨c1,c2,rfl,hc1,hc2⟩:=hW;obtain ⟨kv,rfl,hkv,hkl⟩:=hf;refine za5 mixed Tryz.func105 (by kernel_rfl) (zsm _ E _ _ _) (λhw=>?_);have hm:za6 M N:=hw.m
 have fin:∀ b1,N≤b1 -> ∀ r:Bool,r=inR a b f -> ∀ h',h'=(⟨F,upd M b1 (some (.cells 110 [kv,.int .i64 f.2] 2)),b1+1⟩:Hp) -> h'.wf -> ∃ h'',h'.wk h''∧(h''.wf -> K (.bool r) h''):=λb1 hb1 r e h' e' hc=>by
  subst e';refine ⟨⟨F,M,b1+1⟩,zbm hc (zb4 (zbc _) (hm _ hb1)),λhw'=>?_⟩;rw [e]; exact k _ (by omega) hw'
 refine zar (cs:=[kv,.int .i64 f.2]) (λb1 hb1=>?_);have hb:=za2 M b1 (some (.cells 110 [kv,.int .i64 f.2] 2));try simp only [sS]
 refine ldM (v:=kv) ?_ hb;refine zb1 hkv ?_;refine zby (λh0=>?_) (λh0=>?_)
 ·have hl:0<f.1.length:=by omega
  try simp only [sS]
  refine ldM (v:=kv) ?_ hb;try simp only [sS]
  refine zes (i:=0) hkv hl λp=>?_;try simp only [sS]
  refine ldF (v:=.int .i64 a) ?_ hc1;try simp only [sS]
  have e0:f.1.getD 0 0=f.1[0]:=zdq hl 0;refine zg7 (λh1=>?_) (λh1=>?_)
  ·try simp only [sS]
   refine ldM (v:=kv) ?_ hb;try simp only [sS]
   refine zes (i:=0) hkv hl λp=>?_;try simp only [sS]
   refine ldF (v:=.int .i64 b) ?_ hc2;try simp only [sS]
   refine zau (λh2=>?_) (λh2=>?_)
   ·try simp only [sS]
    exact fin b1 hb1 true (by unfold inR; rw [decide_eq_true ⟨hl,by omega,by omega⟩]) _ rfl
   ·try simp only [sS]
    exact fin b1 hb1 false (by unfold inR; rw [decide_eq_false (by omega)]) _ rfl
  ·try simp only [sS]
   exact fin b1 hb1 false (by unfold inR; rw [decide_eq_false (by omega)]) _ rfl
 ·try simp only [sS]
  exact fin b1 hb1 false (by unfold inR; rw [decide_eq_false (by omega)]) _ rfl
def ofK (a b:Int) (want:Bool) (f:Fc):Bool:=inR a b f == want
theorem yv4 {x y:Bool}:za1 .bool .neq (.bool x) (.bool y)=some (.bool !(x == y)):=rfl
theorem yha {b1 b2:Nat} {w:Value} {a b:Int} {want:Bool} {cs:List Value} {f:Fc} (h1:F b1=some [w]) (h2:F b2=some [.bool want]) (hW:isW F w a b) (hf:zcr F cs f) (k:∀ N',N≤N' -> (Hp.mk F M N').wf -> K (.bool (!ofK a b want f)) ⟨F,M,N'⟩) :
  zbq Tryz.prog (.func (.func 104) #[] #[.pointer (some ⟨b1,0,none⟩),.pointer (some ⟨b2,0,none⟩)]) #[.agg cs.toArray] K E ⟨F,M,N⟩:=by
 have hf':=hf;obtain ⟨kv,rfl,hkv,hkl⟩:=hf';refine za5 mixed Tryz.func104 (by kernel_rfl) (zse _ E _ _ _) (λhw=>?_);have hm:za6 M N:=hw.m;refine zar (cs:=[kv,.int .i64 f.2]) (λb3 hb3=>?_);refine ldF (v:=w) ?_ h1;refine zbd (vs:=[kv,.int .i64 f.2]) ?_;refine ldF (v:=.bool want) ?_ h2;refine ysq hW hf (λN2 hN2 hw2=>?_);refine ⟨zb6 (zif h2) rfl,?_⟩;refine zab yv4 ?_;exact λhc=>⟨⟨F,M,N2⟩,zbm hc (zb4 (zbc _) (hm _ hb3)),λhw'=>k _ (by omega) hw'⟩
theorem zpb {sz:Nat}:∀ (rows:List (List Value)) (i:Nat),(∀ r∈rows,r.length=sz) -> rows.flatten.take (i*sz)=(rows.take i).flatten
 | [],i,_=>by simp
 | x::rows,0,_=>by simp
 | x::rows,i+1,h=>by
  have hx:=h x List.mem_cons_self;have ih:=zpb rows i λr hr=>h r (List.mem_cons_of_mem _ hr);rw [List.flatten_cons,List.take_succ_cons,List.flatten_cons,List.take_append,List.take_of_length_le (by rw [Nat.succ_mul]; omega),← ih]
  congr 2
  rw [Nat.succ_mul]; omega
theorem yf2 {sz:Nat} {rows:List (List Value)} {rest r:List Value} (hl:∀ q∈rows,q.length=sz) {i:Nat} (hi:i<rows.length) (hr:r.length=sz):zb3 (rows.flatten++rest) (i*sz) r=(rows.set i r).flatten++rest:=by
 have hA:(rows.take i).flatten.length=i*sz:=by rw [zdm _ (λq hq=>hl q (List.mem_of_mem_take hq)),List.length_take,Nat.min_eq_left (by omega)]
 have e:rows=rows.take i++rows[i]::rows.drop (i+1):=by rw [← List.drop_eq_getElem_cons hi,List.take_append_drop]
 have h:=zfx (rows.take i).flatten rows[i] r ((rows.drop (i+1)).flatten++rest) (by rw [hl _ (List.getElem_mem hi),hr]);rw [hA] at h
 have e1:rows.flatten++rest=(rows.take i).flatten++rows[i]++((rows.drop (i+1)).flatten++rest):=by
  have e2:=congrArg List.flatten e;rw [List.flatten_append,List.flatten_cons] at e2;rw [e2]; simp [List.append_assoc]
 rw [e1,h,List.set_eq_take_append_cons_drop,if_pos hi]
 simp [List.flatten_append,List.append_assoc]
theorem yhb {α:Type} {R:List Value -> α -> Prop} {B sz:Nat} {e:TypeId} {v:Value} {l:List α} {rows:List (List Value)} {K:Value -> zae} {r:List Value} {y:α} (hv:own M B e sz v l.length rows.flatten) (hr:zaf R sz rows l) {i:Nat} (hi:i<l.length) (hl:r.length=sz) (h1:∀ c∈r,c.oneCell'=true) (hR:R r y)
  (k:∀ p M',own M' B e sz v (l.set i y).length (rows.set i r).flatten -> zaf R sz (rows.set i r) (l.set i y) -> (∀ q,v.ownBlock≠some q -> M' q=M q) -> (∀ n,za6 M n -> za6 M' n) -> K p undef ⟨F,M',N⟩):pv (iaV none sz v (.int .i64 (i:Nat))) (λp=>st sz p (.agg r.toArray) (K p)) ⟨F,M,N⟩:=by
 rcases hv.2 with ⟨rfl,h0⟩ | ⟨b,c,rest,rfl,g1,g2,g3,g4⟩
 ·omega
 have hlen:=hr.all.1;have hfl:=hr.flen;have hle:i*sz+sz≤l.length*sz:=by rw [← Nat.succ_mul]; exact Nat.mul_le_mul_right _ hi
 refine zd0 hi ?_
 have hsp:zb3 (rows.flatten++rest) (0+i*sz) (Value.agg r.toArray).cells.toList=(rows.set i r).flatten++rest:=by
  rw [Nat.zero_add];exact yf2 hr.len (by omega) hl
 refine yfi g4 (by simpa [Value.cells] using hl) (by simpa [Value.cells] using h1) (by rw [List.length_append]; omega) hsp ?_;have hrs:=zyu hr (r:=r) (x:=y) ⟨hl,h1⟩ hR i;refine k _ _ ⟨by rw [hrs.flen],.inr ⟨b,c,rest,by rw [List.length_set],by rw [List.length_set]; exact g1,g2,g3,za2 _ _ _⟩⟩ hrs (λq hq=>za4 _ _ (λe=>hq (by rw [e]; rfl))) (λn hn=>hn.set (hn.lt g4) _)
theorem yr3 {B:Nat} {v d:Value} {l:List Fc} {rows:List (List Value)} {p:Fc -> Bool} (hv:own M B 110 2 v l.length rows.flatten) (hr:zaf (zcr F) 2 rows l) (hl:l.length≤1000000000)
  (hd:∀ {K:zae} (M1:Nat -> Option zah) (N1:Nat) (cs:List Value) (f:Fc),zcr F cs f -> (∀ N',N1≤N' -> (Hp.mk F M1 N').wf -> K (.bool (!p f)) ⟨F,M1,N'⟩) -> zbq Tryz.prog d #[.agg cs.toArray] K E ⟨F,M1,N1⟩)
  (k1:∀ i (hi:i<l.length),(∀ f∈l.take i,p f=true) -> p l[i]=false -> ∀ N',N≤N' -> (Hp.mk F M N').wf -> K (.int .i64 (i:Nat)) ⟨F,M,N'⟩)
  (k2:(∀ f∈l,p f=true) -> ∀ N',N≤N' -> (Hp.mk F M N').wf -> K (.int .i64 (-1)) ⟨F,M,N'⟩) :
  cF 152 #[v,d] K E ⟨F,M,N⟩:=by
 refine za5 mixed Tryz.func152 (by kernel_rfl) (yle _ E _ _) (λhw=>?_);have hlv:zac v=some (.int .i64 (l.length:Nat)):=by obtain ⟨a,c,e,_⟩:=hv.form; rw [e]; rfl
 refine zab hlv ?_
 refine zk5 (σ:=Nat) (λi=>.int .i64 (i:Nat)) (λi h=>∃ N',h=⟨F,M,N'⟩∧N≤N'∧i≤l.length∧∀ f∈l.take i,p f=true) (λi=>l.length - i) 0 rfl
  (λhw1=>⟨_,za0 hw1,N,rfl,Nat.le_refl _,Nat.zero_le _,by simp⟩) (λkk i j h1 hI hw1 next=>?_)
 rw [zjt];obtain ⟨N1,rfl,hN1,hi,he⟩:=hI;refine zau (λhlt=>?_) (λhge=>?_)
 ·have i1:i<l.length:=by omega
  try simp only [sS]
  refine zkm hv hr (by decide) i1 λq r _ hR _ _=>hd _ _ _ _ hR (λN2 hN2 hw2=>?_);cases hp:p l[i]
  ·refine zav ?_;exact λhc=>⟨_,za0 hc,λhw'=>k1 i i1 he hp _ (by omega) hw'⟩
  ·refine zan ?_;refine zaq (by omega) ?_;refine next (i+1) _ _ (by omega) (λhw3=>⟨_,za0 hw3,N2,rfl,by omega,i1,λf hf=>?_⟩);rw [List.take_add_one,List.getElem?_eq_getElem i1,Option.toList_some] at hf
   rcases List.mem_append.1 hf with hf | hf
   ·exact he f hf
   ·rw [List.mem_singleton.1 hf]; exact hp
 ·try simp only [sS]
  refine λhc=>⟨_,za0 hc,λhw'=>k2 (λf hf=>he f ?_) _ hN1 hw'⟩;rw [List.take_of_length_le (by omega)]; exact hf
theorem zp8 {α:Type} (l:List α) (i:Nat) (x:α) (hi:i<l.length):(l.set i x).take (i+1)=l.take i++[x]:=by
 rw [List.take_add_one,List.getElem?_set_self hi,Option.toList_some,List.take_set_of_le (Nat.le_refl _)]
theorem yrp {B:Nat} {v d:Value} {l:List Fc} {rows:List (List Value)} {p:Fc -> Bool} (hv:own M B 110 2 v l.length rows.flatten) (hr:zaf (zcr F) 2 rows l) (hl:l.length≤1000000000) (hB:B≤N)
  (hd:∀ {K:zae} (M1:Nat -> Option zah) (N1:Nat) (cs:List Value) (f:Fc),zcr F cs f -> (∀ N',N1≤N' -> (Hp.mk F M1 N').wf -> K (.bool (!p f)) ⟨F,M1,N'⟩) -> zbq Tryz.prog d #[.agg cs.toArray] K E ⟨F,M1,N1⟩)
  (k:∀ v' M' N' rows',own M' B 110 2 v' (l.filter p).length rows'.flatten -> zaf (zcr F) 2 rows' (l.filter p) -> (∀ x,v.ownBlock≠some x -> x<N -> M' x=M x∧v'.ownBlock≠some x) -> N≤N' -> za6 M' N' -> (Hp.mk F M' N').wf -> ∃ h',(Hp.mk F M' N').wk h'∧(h'.wf -> K v' h')) :
  cF 102 #[v,d] K E ⟨F,M,N⟩:=by
 refine za5 mixed Tryz.func102 (by kernel_rfl) (ybh _ E _ _) (λhw=>?_);have hm:za6 M N:=hw.m;have hlv:zac v=some (.int .i64 (l.length:Nat)):=by obtain ⟨a,c,e,_⟩:=hv.form; rw [e]; rfl
 refine yr3 hv hr hl hd (λi hi he hpi N1 hN1 hw1=>?_) (λhe N1 hN1 hw1=>?_)
 rotate_left
 ·refine zcj rfl ?_;try simp only [sS]
  have e:l.filter p=l:=List.filter_eq_self.2 he;rw [e] at k;exact λhc=>k v M N1 rows hv hr (λx hx _=>⟨rfl,hx⟩) hN1 (hm.up hN1) hc
 refine zbo (by omega) ?_;try simp only [sS]
 refine zaq (by omega) ?_
 refine zpf (σ:=Nat×Nat) (λs=>.int .i64 (s.1:Nat)) (λs=>.int .i64 (s.2:Nat))
  (λs h=>∃ M' N' rows' l',h=⟨F,M',N'⟩∧N≤N'∧own M' B 110 2 v l'.length rows'.flatten∧zaf (zcr F) 2 rows' l'∧l'.length=l.length∧s.1<s.2∧s.2≤l.length∧l'.take s.1=(l.take s.2).filter p∧l'.drop s.2=l.drop s.2∧(∀ x,v.ownBlock≠some x -> x<N -> M' x=M x)∧za6 M' N') (λs=>l.length - s.2) (i,i+1) rfl rfl
  (λhw2=>⟨_,za0 hw2,M,N1,rows,l,rfl,hN1,hv,hr,rfl,Nat.lt_succ_self _,hi,?_,rfl,λ_ _ _=>rfl,hm.up hN1⟩) (λkk s j h1 hI hw2 next=>?_)
 ·simp only;rw [List.take_add_one,List.getElem?_eq_getElem hi,Option.toList_some,List.filter_append,List.filter_eq_self.2 he]
  simp [hpi]
 rw [zqq];obtain ⟨M2,N2,rows2,l2,rfl,hN2,ho,hr2,hl2,hs,hs2,ht,hdr,hM2,hm2⟩:=hI;refine zab hlv ?_;refine zau (λhlt=>?_) (λhge=>?_)
 ·have j1:s.2<l.length:=by omega
  have j2:s.2<l2.length:=by omega
  have ej:l2[s.2]=l[s.2]:=by
   have h:=congrArg (λx:List Fc=>x[0]?) hdr;simp only [List.getElem?_drop,Nat.add_zero,List.getElem?_eq_getElem j1,List.getElem?_eq_getElem j2] at h;exact Option.some.inj h
  have hdr':l2.drop (s.2+1)=l.drop (s.2+1):=by rw [← List.drop_drop,← List.drop_drop,hdr]
  try simp only [sS]
  refine zkm ho hr2 (by decide) j2 λq r _ hR hrl hr1=>?_;rw [ej] at hR;have hR':=hR;obtain ⟨kv,hre,hkv,hkl⟩:=hR;subst hre;refine zar (λb5 hb5=>?_);refine stM (cs':=[kv,.int .i64 l[s.2].2]) ?_ (za2 _ _ _) rfl rfl hr1;rw [zas];refine zbd (vs:=[kv,.int .i64 l[s.2].2]) ?_;refine hd _ _ _ _ hR' (λN3 hN3 hw3=>?_);have hvb:∀ x,v.ownBlock=some x -> x≠b5:=λx hx e=>by have := ho.lt hm2 x hx; omega
  have hbox:=za2 M2 b5 (some (.cells 110 [kv,.int .i64 l[s.2].2] [Value.slice none 0 0,Value.int .i64 0].length));have ho3:=ho.box hm2 hb5 (some (.cells 110 [kv,.int .i64 l[s.2].2] [Value.slice none 0 0,Value.int .i64 0].length));have hm3:za6 (upd M2 b5 (some (.cells 110 [kv,.int .i64 l[s.2].2] [Value.slice none 0 0,Value.int .i64 0].length))) N3:=hw3.m;have hM3:∀ x,v.ownBlock≠some x -> x<N -> upd M2 b5 (some (.cells 110 [kv,.int .i64 l[s.2].2] [Value.slice none 0 0,Value.int .i64 0].length)) x=M x:=λx hx hxN=>(za4 _ _ (by omega)).trans (hM2 x hx hxN);generalize upd M2 b5 _=M3 at *;cases hp:p l[s.2]
  ·rw [Bool.not_false];try simp only [sS]
   rw [zi6];refine zaq (by omega) ?_;refine next (s.1,s.2+1) _ _ (by simp only; omega) (λhw4=>⟨_,za0 hw4,M3,N3,rows2,l2,rfl,by omega,ho3,hr2,hl2,by simp only; omega,j1,?_,hdr',hM3,hm3⟩);simp only;rw [ht,List.take_add_one,List.getElem?_eq_getElem j1,Option.toList_some,List.filter_append]
   simp [hp]
  ·rw [Bool.not_true];try simp only [sS]
   refine zbd (vs:=[kv,.int .i64 l[s.2].2]) ?_ hbox;have i1:s.1<l2.length:=by omega
   refine yhb (y:=l[s.2]) ho3 hr2 i1 rfl hr1 hR' λq M4 g1 g2 g3 g4=>?_;refine zaq (by omega) ?_;rw [zi6];refine zaq (by omega) ?_;refine next (s.1+1,s.2+1) _ _ (by simp only; omega) (λhw4=>⟨_,za0 hw4,M4,N3,_,_,rfl,by omega,g1,g2,by rw [List.length_set]; exact hl2,by simp only; omega,j1,?_,?_,λx hx hxN=>(g3 x hx).trans (hM3 x hx hxN),g4 _ hm3⟩)
   ·simp only;rw [zp8 _ _ _ i1,ht,List.take_add_one,List.getElem?_eq_getElem j1,Option.toList_some,List.filter_append]
    simp [hp]
   ·simp only;rw [List.drop_set_of_lt (by omega)];exact hdr'
 ·try simp only [sS]
  have es:s.2=l.length:=by omega
  rw [es,List.take_length] at ht;have i1:s.1<l.length:=by omega
  have hlen2:=hr2.all.1;have hfl2:=hr2.flen;have hn:(l.filter p).length=s.1:=by rw [← ht,List.length_take]; omega
  rcases ho.2 with ⟨hv0,h0⟩ | ⟨b,c,rest,hvf,g1,g2,g3,g4⟩
  ·omega
  rw [hvf,hl2];refine zga s.1 (by omega) (by omega) ?_;rw [if_neg (by omega)];refine .inr ⟨b,0+s.1*2,l.length - s.1,c - s.1,_,_,_,rfl,by omega,g4,by exact List.all_eq_true.1 rfl,by rw [List.length_append,hfl2]; omega,?_⟩;refine zh7 s.1 (by omega) ?_
  obtain ⟨Z,hcs⟩:∃ Z,zb3 (rows2.flatten++rest) (0+s.1*2) (List.replicate (l.length - s.1) [Value.slice none 0 0,Value.int .i64 0]).flatten=(rows2.take s.1).flatten++Z:=⟨_,by
   unfold zb3;rw [Nat.zero_add,List.take_append_of_le_length (by rw [hfl2]; omega),zpb rows2 s.1 hr2.len,List.append_assoc]⟩
  have hrt:=zyq hr2 s.1;rw [ht] at hrt;refine λhc=>k _ _ N2 (rows2.take s.1) ⟨by rw [hrt.flen],.inr ⟨b,c,Z,by rw [hn],by omega,g2,g3,?_⟩⟩ hrt (λx hx hxN=>⟨?_,λe=>hx (by rw [hvf]; exact e)⟩) hN2 (hm2.set (hm2.lt g4) _) hc
  ·rw [← hcs]; exact za2 _ _ _
  ·have hxb:x≠b:=λe=>hx (by rw [hvf,e]; rfl);exact (za4 _ _ hxb).trans (hM2 x hx hxN)
theorem zs9 {v w:Value} {l:List Fc} {a b:Int} {want:Bool} (hv:zbp F v l) (hW:isW F w a b) (hl:l.length≤1000000000) (hk:∀ f∈l,f.1.length≤10000000000)
  (k:∀ v' F' N',(Hp.mk F' M N').wf -> za9 F F' -> N≤N' -> zbp F' v' (l.filter (ofK a b want)) -> K v' ⟨F',M,N'⟩) :
  cF 51 #[v,w,.bool want] K E ⟨F,M,N⟩:=by
 refine za5 mixed Tryz.func51 (by kernel_rfl) (t51 _ E _ _ _) (λhw=>?_);have hm:za6 M N:=hw.m;have hW':=hW;obtain ⟨c1,c2,hwf,_,_⟩:=hW';refine zar (cs:=[w]) (λb1 hb1=>?_) (by rw [hwf]; rfl);refine zar (cs:=[.bool want]) (λb2 hb2=>?_);generalize hM2:upd (upd M b1 _) b2 _=M2;have g1:∃ e,M2 b1=some (.cells e [w] 1):=⟨_,by rw [← hM2]; exact (za4 _ _ (by omega)).trans (za2 _ _ _)⟩;have g2:∃ e,M2 b2=some (.cells e [.bool want] 1):=⟨_,by rw [← hM2]; exact za2 _ _ _⟩;have hM2':∀ q,q<N -> M2 q=M q:=λq hq=>by rw [← hM2]; exact (za4 _ _ (by omega)).trans (za4 _ _ (by omega))
 clear hM2;obtain ⟨ty1,g1⟩:=g1;obtain ⟨ty2,g2⟩:=g2;refine ziq (λhc=>⟨_,zdw hm hM2' hc,?_⟩);have hs:=zbb (N:=N) hc;have f1:=zhl (F:=F) (N:=N) (b:=b1) (by omega) g1;have f2:=zhl (F:=F) (N:=N) (b:=b2) (by omega) g2;generalize zd5 F M2 N=F1 at *;clear hc g1 g2 hM2' M2;refine yko (hv.mono hs) hl hk (λv2 F2 M2 N2 rows hF2 hN2 ho hr hM2 hm2 hw2=>?_);refine yrp (p:=ofK a b want) ho hr hl (by omega) (λM1 N1 cs f hf kk=>yha (hF2 _ _ f1) (hF2 _ _ f2) (hW.mono (hs.trans hF2)) hf kk) (λv3 M3 N3 rows3 ho3 hr3 hM3 hN3 hm3 hc3=>⟨_,za0 hc3,λhw3=>?_⟩);have hX:∀ q,q<N -> M3 q=M q:=λq hq=>((hM3 q (λe=>by have := (ho.ge q e).1; omega) (by omega)).1).trans (hM2 q (by omega));have ho3':own M3 N 110 2 v3 (l.filter (ofK a b want)).length rows3.flatten:=ho3.keep (λ_ _=>rfl) (by omega);exact λhc=>⟨_,zdw hm hX hc,λhw'=>k _ _ _ hw' ((hs.trans hF2).trans (zbb hc)) (by omega) (zq4 hc ho3' hr3)⟩
def zcb (F:Nat -> Option (List Value)) (v:Value) (h:List En):Prop:=∃ rows,sF F 2 v h.length rows.flatten∧zaf (ze6 F) 2 rows h
theorem zcb.mono {v:Value} {t:List En} (h:zcb F v t) (hF:za9 F F'):zcb F' v t:=let ⟨rows,h1,h2⟩:=h; ⟨rows,h1.mono hF,h2.mono λ_ _ hr=>hr.mono hF⟩
theorem zcb.form {v:Value} {t:List En} (h:zcb F v t):∃ a c,v=.slice a t.length c:=let ⟨rows,h1,_⟩:=h; let ⟨a,c,h2,_⟩:=h1.form; ⟨a,c,h2⟩
theorem zcb.nil {c:Nat}:zcb F (.slice none 0 c) []:=⟨[],sF.nil _ _ _,zaf.nil _ _⟩
theorem yik {v:Value} {t:List En} {rows:List (List Value)} (hc:(Hp.mk F M' N').wf) (ho:own M' N 143 2 v t.length rows.flatten) (hr:zaf (ze6 F) 2 rows t):zcb (zd5 F M' N) v t :=
 ⟨rows,ho.rd.frz hc (λb hb=>.inl (ho.ge b hb).1),hr.mono λ_ _ h=>h.mono (zbb hc)⟩
theorem ymq (a b:Int):ofK a b true=inR a b:=by funext f; unfold ofK; cases inR a b f<;>rfl
theorem zyn (a b:Int):ofK a b false=zh0 a b:=by funext f; unfold ofK zh0; cases inR a b f<;>rfl
theorem ye8 (f:En -> Option En) (h:List En) {i:Nat} (hi:i<h.length):(h.take (i+1)).filterMap f=(h.take i).filterMap f++(f h[i]).toList:=by
 rw [List.take_add_one,List.getElem?_eq_getElem hi,Option.toList_some,List.filterMap_append];cases hf:f h[i]<;>simp [hf]
theorem yj4 (f:En -> Option En) (h:List En) (i:Nat):((h.take i).filterMap f).length≤i:=by
 have := List.length_filterMap_le f (h.take i);rw [List.length_take] at this; omega
theorem okH.keys {l:List Dm} {n m:Nat} {h:List En} (o:okH l n m h) (hl:l.length≤1000) {e:En} (he:e∈h):∀ f∈e.2,f.1.length≤10000000000:=λf hf=>by
 have := zk2 (o.fi e he f hf); omega
theorem ztu {B g:Nat} {hv dv:Value} {rows:List (List Value)} {l:List Dm} {h:List En} {a b:Int} (hC:zgi F M B g hv dv rows l h) (o:okH l 5000 200 h) (hdl:l.length≤1000)
  (k:∀ v' F' N',(Hp.mk F' M N').wf -> za9 F F' -> N≤N' -> zcb F' v' (zjp a b h) -> K v' ⟨F',M,N'⟩) :
  cF 19 #[.pointer (some ⟨g,0,none⟩),.int .i64 a,.int .i64 b] K E ⟨F,M,N⟩:=by
 refine za5 mixed Tryz.func19 (by kernel_rfl) (t19 _ E _ _ _) (λhw=>?_);have hm:za6 M N:=hw.m;have hgN:=hm.lt hC.gg;have hol:=o.le;have hlv:zac hv=some (.int .i64 (h.length:Nat)):=by obtain ⟨x,c,e,_⟩:=hC.oo.form; rw [e]; rfl
 try simp only [sS]
 refine ldM (v:=hv) ?_ hC.gg;refine zab hlv ?_
 refine zw5 (σ:=Nat×Value) (λs=>s.2) (λs=>.int .i64 (s.1:Nat))
  (λs h'=>∃ F' M' N' rows',h'=⟨F',M',N'⟩∧za9 F F'∧N≤N'∧(∀ q,q<N -> M' q=M q)∧za6 M' N'∧s.1≤h.length∧own M' N 143 2 s.2 (zjp a b (h.take s.1)).length rows'.flatten∧zaf (ze6 F') 2 rows' (zjp a b (h.take s.1))) (λs=>h.length - s.1) (0,.slice none 0 0) rfl rfl
  (λhw2=>⟨_,za0 hw2,F,M,N,[],rfl,za9.refl _,Nat.le_refl _,λ_ _=>rfl,hm,Nat.zero_le _,own.nil,zaf.nil _ _⟩) (λkk s j h1 hI hw2 next=>?_)
 rw [zuq];obtain ⟨F1,M1,N1,rows1,rfl,hF1,hN1,hM1,hm1,hi,ho,hr⟩:=hI;refine zau (λhlt=>?_) (λhge=>?_)
 ·have i1:s.1<h.length:=by omega
  have e1:=ye8 (yck a b) h i1;have hle:(zjp a b (h.take s.1)).length≤s.1:=yj4 (yck a b) h s.1;try simp only [sS]
  have hoo1:own M1 B 143 2 hv h.length rows.flatten:=hC.oo.keep (λq hq=>hM1 q (hC.oo.lt hm q hq)) (Nat.le_refl _);refine zkm hoo1 hC.rr (by decide) i1 λp r _ hR _ hr1=>?_;obtain ⟨fv,rfl,hfv,hfl⟩:=hR;have hfm:=o.fl _ (List.getElem_mem i1);refine zar (λb4 hb4=>?_);refine stM (cs':=[.int .u32 h[s.1].1,fv]) ?_ (za2 _ _ _) rfl rfl hr1;rw [zas];have hbox:=za2 M1 b4 (some (.cells 143 [.int .u32 h[s.1].1,fv] [Value.int .u32 0,Value.slice none 0 0].length));have ho2:=ho.box hm1 hb4 (some (.cells 143 [.int .u32 h[s.1].1,fv] [Value.int .u32 0,Value.slice none 0 0].length));have hm2:=hm1.new hb4 (some (.cells 143 [.int .u32 h[s.1].1,fv] [Value.int .u32 0,Value.slice none 0 0].length));have hM2:∀ q,q<N -> upd M1 b4 (some (.cells 143 [.int .u32 h[s.1].1,fv] [Value.int .u32 0,Value.slice none 0 0].length)) q=M q:=λq hq=>(za4 _ _ (by omega)).trans (hM1 q hq);generalize upd M1 b4 _=M2 at *;try simp only [sS]
  refine ldM (v:=fv) ?_ hbox;refine zp7 (λw F3 N3 hw3 hF3 hN3 hW=>?_);refine ⟨zb6 (zbe hbox) rfl,?_⟩;refine zs9 (hfv.mono (hF1.trans hF3)) hW (by omega) (o.keys hdl (List.getElem_mem i1)) (λv4 F4 N4 hw4 hF4 hN4 hf4=>?_);rw [ymq] at hf4;obtain ⟨frows,hf4a,hf4b⟩:=hf4;refine zb1 hf4a ?_;have hF4':=(hF1.trans hF3).trans hF4;refine zby (λh0=>?_) (λh0=>?_)
  ·try simp only [sS]
   refine ldM (v:=.int .u32 h[s.1].1) ?_ hbox;obtain ⟨a5,c5,e5,_⟩:=hf4a.form;have hflen:(h[s.1].2.filter (inR a b)).length≤200:=by have := List.length_filter_le (inR a b) h[s.1].2; omega
   have he4:ze6 F4 [.int .u32 h[s.1].1,v4] (h[s.1].1,h[s.1].2.filter (inR a b)):=⟨v4,rfl,⟨frows,hf4a,hf4b⟩,by simp only; omega⟩;refine zab (v:=.agg #[.int .u32 h[s.1].1,v4]) (by rw [e5]; kernel_rfl) ?_;refine zj8 (new:=[.int .u32 h[s.1].1,v4]) ho2 hw4.m (by omega) (by rw [e5]; kernel_rfl) rfl he4.one.2 (by omega) (by unfold maxLen; omega) (λp v' M5 N5 g1 g2 g3 g4=>?_);rw [zj1];refine zaq (by omega) ?_
   have e2:zjp a b (h.take (s.1+1))=zjp a b (h.take s.1)++[(h[s.1].1,h[s.1].2.filter (inR a b))]:=by
    unfold zjp;rw [e1];unfold yck;rw [if_pos (by omega)]; rfl
   refine next (s.1+1,v') _ _ (by simp only; omega) (λhw5=>⟨_,za0 hw5,F4,M5,N5,rows1++[[.int .u32 h[s.1].1,v4]],rfl,hF4',by omega,λq hq=>?_,g4,i1,?_,?_⟩)
   ·exact ((g2 q (λe=>by have := (ho2.ge q e).1; omega) (by omega)).1).trans (hM2 q hq)
   ·simp only;rw [e2,List.length_append,List.length_singleton];exact (by simpa using g1:own M5 N 143 2 v' _ (rows1++[[.int .u32 h[s.1].1,v4]]).flatten)
   ·simp only;rw [e2];exact zcq (hr.mono λ_ _ h=>h.mono (hF3.trans hF4)) he4.one he4
  ·try simp only [sS]
   rw [zj1];refine zaq (by omega) ?_
   have e2:zjp a b (h.take (s.1+1))=zjp a b (h.take s.1):=by
    unfold zjp;rw [e1];unfold yck;rw [if_neg (by omega)]; simp
   refine next (s.1+1,s.2) _ _ (by simp only; omega) (λhw5=>⟨_,za0 hw5,F4,M2,N4,rows1,rfl,hF4',by omega,hM2,hw4.m,i1,?_,?_⟩)
   ·simp only;rw [e2]; exact ho2
   ·simp only;rw [e2]; exact hr.mono λ_ _ h=>h.mono (hF3.trans hF4)
 ·try simp only [sS]
  rw [List.take_of_length_le (by omega)] at ho hr;exact λhc=>⟨_,zdw hm hM1 hc,λhw'=>k _ _ _ hw' (hF1.trans (zbb hc)) hN1 (yik hc ho hr)⟩
theorem ygk (l:List Dm) (a b last:Int) (e:En) (es:List En):zfv l a b last (e::es)=(decide (last<e.1)&&zd1 l e.2&&(e.2.all (inR a b)&&zfv l a b e.1 es)):=rfl
theorem yfp (l:List Dm) (a b last:Int):zfv l a b last []=true:=rfl
theorem ydl {a b:Int} {l:List Fc}:(l.filter (zh0 a b)).length=0↔l.all (inR a b)=true:=by
 rw [List.length_eq_zero_iff,List.filter_eq_nil_iff,List.all_eq_true]
 constructor
 ·intro h f hf;have := h f hf;unfold zh0 at this;cases hi:inR a b f
  ·rw [hi] at this; simp at this
  ·rfl
 ·intro h f hf;unfold zh0;rw [h f hf]; decide
theorem yjc {B g:Nat} {hv dv ev w:Value} {rows:List (List Value)} {l:List Dm} {h es:List En} {a b:Int} (hC:zgi F M B g hv dv rows l h) (hdl:l.length≤1000) (hes:zcb F ev es) (hel:es.length≤140737488351232) (hW:isW F w a b)
  (k:∀ F' N',(Hp.mk F' M N').wf -> za9 F F' -> N≤N' -> K (.bool (zfv l a b 0 es)) ⟨F',M,N'⟩) :
  cF 187 #[.pointer (some ⟨g,0,none⟩),w,ev] K E ⟨F,M,N⟩:=by
 refine za5 mixed Tryz.func187 (by kernel_rfl) (yyv _ E _ _ _) (λhw=>?_);have hm:za6 M N:=hw.m;have hgN:=hm.lt hC.gg;obtain ⟨erows,he1,he2⟩:=hes;refine zb1 he1 ?_
 refine zsr (σ:=Nat×Int) (λs=>.int .u32 s.2) (λs=>.int .i64 (s.1:Nat))
  (λs h'=>∃ F' N',h'=⟨F',M,N'⟩∧za9 F F'∧N≤N'∧s.1≤es.length∧zfv l a b 0 es=zfv l a b s.2 (es.drop s.1)) (λs=>es.length - s.1) (0,0) rfl rfl
  (λhw2=>⟨_,za0 hw2,F,N,rfl,za9.refl _,Nat.le_refl _,Nat.zero_le _,rfl⟩) (λkk s j h1 hI hw2 next=>?_)
 rw [zsn];obtain ⟨F1,N1,rfl,hF1,hN1,hi,hrt⟩:=hI;refine zau (λhlt=>?_) (λhge=>?_)
 ·have i1:s.1<es.length:=by omega
  rw [List.drop_eq_getElem_cons i1,ygk] at hrt;have hm1:za6 M N1:=hw2.m;try simp only [sS]
  refine zie (he1.mono hF1) (he2.mono λ_ _ h=>h.mono hF1) (by decide) i1 (λp r _ hR hrl hr1=>?_);obtain ⟨fv,hre,hfv,hfl⟩:=hR;subst hre;refine zar (λb4 hb4=>?_);refine stM (cs':=[.int .u32 es[s.1].1,fv]) ?_ (za2 _ _ _) rfl rfl hr1;rw [zas];have hbox:=za2 M b4 (some (.cells 143 [.int .u32 es[s.1].1,fv] [Value.int .u32 0,Value.slice none 0 0].length));have hg2:=(za4 M (b:=b4) (k:=g) (some (.cells 143 [.int .u32 es[s.1].1,fv] [Value.int .u32 0,Value.slice none 0 0].length)) (by omega)).trans hC.gg;have hsub:∀ {F':Nat -> Option (List Value)} {n:Nat},(Hp.mk F' (upd M b4 (some (.cells 143 [.int .u32 es[s.1].1,fv] [Value.int .u32 0,Value.slice none 0 0].length))) n).wf -> (Hp.mk F' (upd M b4 (some (.cells 143 [.int .u32 es[s.1].1,fv] [Value.int .u32 0,Value.slice none 0 0].length))) n).wk ⟨F',M,n⟩:=λhc=>zbm hc (zb4 (zbc _) (hm1 _ hb4));generalize upd M b4 _=M2 at *;try simp only [sS]
  refine ldM (v:=.int .u32 es[s.1].1) ?_ hbox;refine zdv (λh2=>?_) (λh2=>?_)
  ·try simp only [sS]
   rw [decide_eq_false (by omega),Bool.false_and,Bool.false_and] at hrt;exact λhc=>⟨_,hsub hc,λhw'=>by have := k _ _ hw' hF1 (by omega); rw [hrt] at this; exact this⟩
  rw [decide_eq_true (by omega),Bool.true_and] at hrt;try simp only [sS]
  refine ldM (v:=fv) ?_ hbox;try simp only [sS]
  refine zv2 hg2 (hC.dd.mono hF1) (by omega) hfv hfl (λN3 hN3 hw3=>?_);cases hfit:zd1 l es[s.1].2
  ·rw [hfit,Bool.false_and] at hrt;try simp only [sS]
   exact λhc=>⟨_,hsub hc,λhw'=>by have := k _ _ hw' hF1 (by omega); rw [hrt] at this; exact this⟩
  rw [hfit,Bool.true_and] at hrt;obtain ⟨f1,f2⟩:=zh6 hfit;try simp only [sS]
  refine ldM (v:=fv) ?_ hbox;try simp only [sS]
  refine zs9 hfv (hW.mono hF1) (by omega) (λf hf=>by have := zk2 (f2 f hf); omega) (λv4 F4 N4 hw4 hF4 hN4 hf4=>?_);rw [zyn] at hf4;obtain ⟨frows,hf4a,hf4b⟩:=hf4;try simp only [sS]
  refine zb1 hf4a ?_;refine zby (λh0=>?_) (λh0=>?_)
  ·try simp only [sS]
   have hall:es[s.1].2.all (inR a b)=false:=by
    cases hc:es[s.1].2.all (inR a b)
    ·rfl
    ·have := ydl.2 hc; omega
   rw [hall,Bool.false_and] at hrt;exact λhc=>⟨_,hsub hc,λhw'=>by have := k _ _ hw' (hF1.trans hF4) (by omega); rw [hrt] at this; exact this⟩
  ·try simp only [sS]
   rw [ydl.1 (by omega),Bool.true_and] at hrt;refine ldM (v:=.int .u32 es[s.1].1) ?_ hbox;refine zaq (by omega) ?_;exact next (s.1+1,es[s.1].1) _ _ (by simp only; omega) (λhw5=>⟨_,hsub hw5,F4,N4,rfl,hF1.trans hF4,by omega,i1,hrt⟩)
 ·try simp only [sS]
  rw [List.drop_eq_nil_of_le (by omega),yfp] at hrt;exact λhc=>⟨_,za0 hc,λhw'=>by have := k _ _ hw' hF1 hN1; rw [hrt] at this; exact this⟩
theorem ynb {v:Value} {l:List Int} {h:Hp} (hv:zkg h 1 v l.length (bts l)) (k:K (.string ⟨(l.map (λn=>UInt8.ofNat (Int.toNat n))).toArray⟩) h):bs v K h:=⟨_,⟨_,l,hv,rfl⟩,k⟩
theorem ylc (l m:List Int):bts (l++m)=bts l++bts m:=by simp [bts]
def zjf (x:Int) (k:Nat):Int:=IntKind.u8.wrap (x.fdiv (2 ^ (min (8*k) 64)))
def zgf (x:Int) (size i:Nat):List Int:=(List.range i).map λj=>zjf x (size - 1 - j)
def zam (x:Int) (size:Nat):List Int:=zgf x size size
theorem zly (x:Int) (size i:Nat):(zgf x size i).length=i:=by simp [zgf]
theorem zaa (x:Int) (size:Nat):(zam x size).length=size:=zly _ _ _
theorem zkn (x:Int) (size i:Nat):zgf x size (i+1)=zgf x size i++[zjf x (size - 1 - i)]:=by simp [zgf,List.range_succ]
def yez (F:Nat -> Option (List Value)) (M:Nat -> Option zah) (N B n:Nat) (v:Value) (cs:List Value) (out:List Int) (K:zae):Prop :=
 ∀ v' M' N',own M' B 5 1 v' (n+out.length) (cs++bts out) -> fr M M' N v v' -> N≤N' -> za6 M' N' -> (Hp.mk F M' N').wf -> K v' ⟨F,M',N'⟩
theorem ysp {x:Int} {k:Nat} {h:Hp} (kk:K (.int .u64 (x.fdiv (2 ^ (min k 64)))) h):pv (za1 .none .shr (.int .u64 x) (.int .u64 (k:Nat))) K h :=
 ⟨_,by
  have e:za1 .none .shr (.int .u64 x) (.int .u64 (k:Nat))=zgh .shr .u64 x (k:Nat):=rfl;rw [e]; unfold zgh; rw [if_neg (by omega)]; simp only [Int.toNat_natCast]; rfl,kk⟩
theorem zig {B n size:Nat} {v:Value} {cs:List Value} {x:Int} (h:own M B 5 1 v n cs) (hB:B≤N) (hs:size≤8) (hn:n≤1000000000000) (k:yez F M N B n v cs (zam x size) K) :
  cF 106 #[v,.int .u64 x,.int .i64 (size:Nat)] K E ⟨F,M,N⟩:=by
 refine za5 mixed Tryz.func106 (by kernel_rfl) (zhi _ E _ _ _) (λhw=>?_);have hm:za6 M N:=hw.m;refine zcz (by omega) (by omega) ?_
 refine zy5 (σ:=Nat×Value) (λs=>s.2) (λs=>.int .i64 ((size:Int) - 1 - (s.1:Nat)))
  (λs h'=>∃ M' N',h'=⟨F,M',N'⟩∧N≤N'∧za6 M' N'∧s.1≤size∧own M' B 5 1 s.2 (n+s.1) (cs++bts (zgf x size s.1))∧fr M M' N v s.2) (λs=>size - s.1) (0,v) rfl (by simp)
  (λhw2=>⟨_,za0 hw2,M,N,rfl,Nat.le_refl _,hm,Nat.zero_le _,by simpa [zgf,bts] using h,fr.refl⟩) (λkk s j h1 hI hw2 next=>?_)
 rw [zxy];obtain ⟨M1,N1,rfl,hN1,hm1,hi,ho,hfr⟩:=hI;refine zg7 (λhlt=>?_) (λhge=>?_)
 ·have i1:s.1<size:=by omega
  have e7:(size:Int) - 1 - (s.1:Nat)=((size - 1 - s.1:Nat):Int):=by omega
  rw [e7];try simp only [sS]
  refine ygt (by omega) (yxy (a:=8) (by omega) (ysp ?_));refine zab (v:=.int .u8 (zjf x (size - 1 - s.1))) rfl ?_;refine zj8 (new:=[.int .u8 (zjf x (size - 1 - s.1))]) ho hm1 (by omega) (by kernel_rfl) rfl (List.all_eq_true.1 rfl) (by omega) (by unfold maxLen; omega) (λp v' M5 N5 g1 g2 g3 g4=>?_);refine zcz (by omega) (by omega) ?_;have e8:((size - 1 - s.1:Nat):Int) - 1=(size:Int) - 1 - ((s.1+1:Nat):Int):=by omega
  rw [e8];refine next (s.1+1,v') _ _ (by simp only; omega) (λhw5=>⟨_,za0 hw5,M5,N5,rfl,by omega,g4,i1,?_,hfr.trans g2 hN1⟩);simp only;rw [zkn,ylc,← List.append_assoc,← Nat.add_assoc];exact g1
 ·try simp only [sS]
  have es:s.1=size:=by omega
  rw [es] at ho;refine λhc=>⟨_,za0 hc,λhw'=>k s.2 M1 N1 ?_ hfr hN1 hm1 hw'⟩;rw [zaa]; exact ho
def zaz (x:Int):Int:=IntKind.u64.wrap x
theorem zex {x:Int} {k:IntKind} {h:Hp} (kk:K (.int .u64 (zaz x)) h):pv (cvV .u64 (.int k x)) K h:=⟨_,rfl,kk⟩
def zg4 (l:List Int):List Int:=l.flatMap λx=>zam (zaz x) 4
def ze5 (f:Fc):List Int:=zam (zaz (f.1.length:Nat)) 1++(zg4 f.1++zam (zaz f.2) 8)
def zce (l:List Fc):List Int:=zam (zaz (l.length:Nat)) 4++l.flatMap ze5
def zeu (e:En):List Int:=zam (zaz e.1) 4++zce e.2
def zdn (l:List En):List Int:=zam (zaz (l.length:Nat)) 4++l.flatMap zeu
theorem zlz (l:List Int):(zg4 l).length=l.length*4:=by
 induction l with
 | nil=>rfl
 | cons x l ih=>
  unfold zg4 at ih ⊢;rw [List.flatMap_cons,List.length_append,ih,zaa,List.length_cons]; omega
theorem zeg {α:Type} (f:α -> List Int) (l:List α) {i:Nat} (hi:i<l.length):(l.take (i+1)).flatMap f=(l.take i).flatMap f++f l[i]:=by
 rw [List.take_add_one,List.getElem?_eq_getElem hi,Option.toList_some,List.flatMap_append]; simp
theorem zjd {α:Type} (f:α -> List Int) (l:List α) (i:Nat):((l.take i).flatMap f).length≤(l.flatMap f).length:=by
 conv=>rhs; rw [← List.take_append_drop i l]
 rw [List.flatMap_append,List.length_append]; omega
theorem zjy {B n a:Nat} {v:Value} {cs:List Value} {x y:List Int} (h:own M B 5 1 v (n+x.length+a) (cs++bts x++bts y)) (ha:a=y.length):own M B 5 1 v (n+(x++y).length) (cs++bts (x++y)):=by
 rw [ylc,← List.append_assoc,List.length_append,← Nat.add_assoc,← ha]; exact h
theorem ydw {B n:Nat} {v fv:Value} {cs:List Value} {l:List Fc} (h:own M B 5 1 v n cs) (hB:B≤N) (hf:zbp F fv l) (hl:l.length≤1000000) (hn:n+(zce l).length≤1000000000000) (k:yez F M N B n v cs (zce l) K) :
  cF 107 #[v,fv] K E ⟨F,M,N⟩:=by
 refine za5 mixed Tryz.func107 (by kernel_rfl) (zsy _ E _ _) (λhw=>?_);have hm:za6 M N:=hw.m;obtain ⟨rows,hf1,hf2⟩:=hf;unfold zce at hn;rw [List.length_append,zaa] at hn;refine zb1 hf1 (zex ?_);refine zig (size:=4) h hB (by omega) (by omega) (λv1 M1 N1 ho1 hfr1 hN1 hm1 hw1=>?_);rw [zaa] at ho1
 refine zti (σ:=Nat×Value) (λs=>s.2) (λs=>.int .i64 (s.1:Nat))
  (λs h'=>∃ M' N',h'=⟨F,M',N'⟩∧N≤N'∧za6 M' N'∧s.1≤l.length∧own M' B 5 1 s.2 (n+(zam (zaz (l.length:Nat)) 4++(l.take s.1).flatMap ze5).length) (cs++bts (zam (zaz (l.length:Nat)) 4++(l.take s.1).flatMap ze5))∧fr M M' N v s.2) (λs=>l.length - s.1) (0,v1) rfl rfl
  (λhw2=>⟨_,za0 hw2,M1,N1,rfl,hN1,hm1,Nat.zero_le _,by simpa [zaa] using ho1,hfr1⟩) (λkk s j h1 hI hw2 next=>?_)
 rw [zs8];obtain ⟨M2,N2,rfl,hN2,hm2,hi,ho,hfr⟩:=hI;refine zb1 hf1 ?_;refine zau (λhlt=>?_) (λhge=>?_)
 ·have i1:s.1<l.length:=by omega
  have et:=zeg ze5 l i1;have hle:=zjd ze5 l (s.1+1);rw [et,List.length_append] at hle;have hfl:(ze5 l[s.1]).length=1+l[s.1].1.length*4+8:=by unfold ze5; rw [List.length_append,List.length_append,zaa,zaa,zlz]; omega
  obtain ⟨pre,hpre⟩:∃ p,p=zam (zaz (l.length:Nat)) 4++(l.take s.1).flatMap ze5:=⟨_,rfl⟩;have hpl:pre.length+(ze5 l[s.1]).length≤4+(l.flatMap ze5).length:=by rw [hpre,List.length_append,zaa]; omega
  rw [← hpre] at ho;try simp only [sS]
  refine zeo hf1 hf2 (by decide) i1 (off:=0) (by decide) λp q r x hR _ hx=>?_;obtain ⟨kv,rfl,hkv,hkl⟩:=hR;have hx':x=kv:=by simpa using hx.symm
  subst hx';refine zb1 hkv (zex ?_);refine zig (size:=1) ho (by omega) (by omega) (by omega) (λv3 M3 N3 ho3 hfr3 hN3 hm3 hw3=>?_);rw [zaa] at ho3
  refine zis (σ:=Nat×Value) (λt=>t.2) (λt=>.int .i64 (t.1:Nat))
   (λt h'=>∃ M' N',h'=⟨F,M',N'⟩∧N≤N'∧za6 M' N'∧t.1≤l[s.1].1.length∧own M' B 5 1 t.2 (n+(pre++(zam (zaz (l[s.1].1.length:Nat)) 1++zg4 (l[s.1].1.take t.1))).length) (cs++bts (pre++(zam (zaz (l[s.1].1.length:Nat)) 1++zg4 (l[s.1].1.take t.1))))∧fr M M' N v t.2) (λt=>l[s.1].1.length - t.1) (0,v3) rfl rfl
   (λhw4=>⟨_,za0 hw4,M3,N3,rfl,by omega,hm3,Nat.zero_le _,?_,hfr.trans hfr3 hN2⟩) (λkk2 t j2 h2 hI2 hw4 next2=>?_)
  ·have e0:zg4 (l[s.1].1.take 0)=[]:=by simp [zg4]
   simp only;rw [e0,List.append_nil];exact zjy ho3 (by rw [zaa])
  rw [zit];obtain ⟨M4,N4,rfl,hN4,hm4,hi4,ho4,hfr4⟩:=hI2;have htl:(zg4 (l[s.1].1.take t.1)).length≤l[s.1].1.length*4:=by rw [zlz,List.length_take]; exact Nat.mul_le_mul_right _ (by omega)
  have hqb:(pre++(zam (zaz (l[s.1].1.length:Nat)) 1++zg4 (l[s.1].1.take t.1))).length≤4+(l.flatMap ze5).length:=by
   rw [List.length_append,List.length_append,zaa]; omega
  try simp only [sS]
  refine zeo hf1 hf2 (by decide) i1 (off:=0) (by decide) λp q r x hR _ hx=>?_;obtain ⟨kv,rfl,hkv,hkl⟩:=hR;have hx':x=kv:=by simpa using hx.symm
  subst hx';refine zb1 hkv ?_;refine zau (λhlt2=>?_) (λhge2=>?_)
  ·have k1:t.1<l[s.1].1.length:=by omega
   try simp only [sS]
   refine zeo hf1 hf2 (by decide) i1 (off:=0) (by decide) λp q r y hR _ hy=>?_;obtain ⟨kv,rfl,hkv,hkl⟩:=hR;have hy':y=kv:=by simpa using hy.symm
   subst hy';refine zes hkv k1 λp=>zex ?_;refine zig (size:=4) ho4 (by omega) (by omega) (by omega) (λv5 M5 N5 ho5 hfr5 hN5 hm5 hw5=>?_);rw [zaa] at ho5;refine zaq (by omega) ?_;have ek:zg4 (l[s.1].1.take (t.1+1))=zg4 (l[s.1].1.take t.1)++zam (zaz l[s.1].1[t.1]) 4:=zeg _ _ k1;refine next2 (t.1+1,v5) _ _ (by simp only; omega) (λhw6=>⟨_,za0 hw6,M5,N5,rfl,by omega,hm5,k1,?_,hfr4.trans hfr5 hN4⟩);simp only;rw [ek,← List.append_assoc,← List.append_assoc,List.append_assoc pre];exact zjy ho5 (by rw [zaa])
  ·try simp only [sS]
   rw [List.take_of_length_le (by omega)] at ho4;refine zeo hf1 hf2 (by decide) i1 (off:=1) (by decide) λp q r y hR _ hy=>?_;obtain ⟨kv,rfl,hkv,hkl⟩:=hR;have hy':y=.int .i64 l[s.1].2:=by simpa using hy.symm
   subst hy';refine zex ?_;refine zig (size:=8) ho4 (by omega) (by omega) (by rw [List.length_append,List.length_append,zaa,zlz]; omega) (λv5 M5 N5 ho5 hfr5 hN5 hm5 hw5=>?_);rw [zaa] at ho5;refine zaq (by omega) ?_;refine next (s.1+1,v5) _ _ (by simp only; omega) (λhw6=>⟨_,za0 hw6,M5,N5,rfl,by omega,hm5,i1,?_,hfr4.trans hfr5 hN4⟩);simp only;rw [et,← List.append_assoc,← hpre];have := zjy ho5 (by rw [zaa]);rw [List.append_assoc pre,List.append_assoc] at this;exact this
 ·try simp only [sS]
  rw [List.take_of_length_le (by omega)] at ho;exact λhc=>⟨_,za0 hc,λhw'=>k s.2 M2 N2 ho hfr hN2 hm2 hw'⟩
theorem yoc {B n:Nat} {v ev:Value} {cs:List Value} {l:List En} (h:own M B 5 1 v n cs) (hB:B≤N) (he:zcb F ev l) (hl:l.length≤1000000) (hfl:∀ e∈l,e.2.length≤1000000) (hn:n+(zdn l).length≤1000000000000) (k:yez F M N B n v cs (zdn l) K) :
  cF 53 #[v,ev] K E ⟨F,M,N⟩:=by
 refine za5 mixed Tryz.func53 (by kernel_rfl) (t53 _ E _ _) (λhw=>?_);have hm:za6 M N:=hw.m;obtain ⟨rows,hf1,hf2⟩:=he;unfold zdn at hn;rw [List.length_append,zaa] at hn;refine zb1 hf1 (zex ?_);refine zig (size:=4) h hB (by omega) (by omega) (λv1 M1 N1 ho1 hfr1 hN1 hm1 hw1=>?_);rw [zaa] at ho1
 refine zuk (σ:=Nat×Value) (λs=>s.2) (λs=>.int .i64 (s.1:Nat))
  (λs h'=>∃ M' N',h'=⟨F,M',N'⟩∧N≤N'∧za6 M' N'∧s.1≤l.length∧own M' B 5 1 s.2 (n+(zam (zaz (l.length:Nat)) 4++(l.take s.1).flatMap zeu).length) (cs++bts (zam (zaz (l.length:Nat)) 4++(l.take s.1).flatMap zeu))∧fr M M' N v s.2) (λs=>l.length - s.1) (0,v1) rfl rfl
  (λhw2=>⟨_,za0 hw2,M1,N1,rfl,hN1,hm1,Nat.zero_le _,by simpa [zaa] using ho1,hfr1⟩) (λkk s j h1 hI hw2 next=>?_)
 rw [zvy];obtain ⟨M2,N2,rfl,hN2,hm2,hi,ho,hfr⟩:=hI;refine zb1 hf1 ?_;refine zau (λhlt=>?_) (λhge=>?_)
 ·have i1:s.1<l.length:=by omega
  have et:=zeg zeu l i1;have hle:=zjd zeu l (s.1+1);rw [et,List.length_append] at hle;have hel:(zeu l[s.1]).length=4+(zce l[s.1].2).length:=by unfold zeu; rw [List.length_append,zaa]
  obtain ⟨pre,hpre⟩:∃ p,p=zam (zaz (l.length:Nat)) 4++(l.take s.1).flatMap zeu:=⟨_,rfl⟩;have hpl:pre.length+(zeu l[s.1]).length≤4+(l.flatMap zeu).length:=by rw [hpre,List.length_append,zaa]; omega
  rw [← hpre] at ho;try simp only [sS]
  refine zeo hf1 hf2 (by decide) i1 (off:=0) (by decide) λp q r x hR _ hx=>?_;obtain ⟨fv,rfl,hfv,hfvl⟩:=hR;have hx':x=.int .u32 l[s.1].1:=by simpa using hx.symm
  subst hx';refine zex ?_;refine zig (size:=4) ho (by omega) (by omega) (by omega) (λv3 M3 N3 ho3 hfr3 hN3 hm3 hw3=>?_);rw [zaa] at ho3;refine zeo hf1 hf2 (by decide) i1 (off:=1) (by decide) λp q r x hR _ hx=>?_;obtain ⟨fv,rfl,hfv,hfvl⟩:=hR;have hx':x=fv:=by simpa using hx.symm
  subst hx';have ho3':=zjy ho3 (by rw [zaa]);refine ydw ho3' (by omega) hfv (hfl _ (List.getElem_mem i1)) (by rw [List.length_append,zaa]; omega) (λv5 M5 N5 ho5 hfr5 hN5 hm5 hw5=>?_);refine zaq (by omega) ?_;refine next (s.1+1,v5) _ _ (by simp only; omega) (λhw6=>⟨_,za0 hw6,M5,N5,rfl,by omega,hm5,i1,?_,(hfr.trans hfr3 hN2).trans hfr5 (by omega)⟩);simp only;rw [et,← List.append_assoc,← hpre];have := zjy ho5 rfl;rw [List.append_assoc pre] at this;exact this
 ·try simp only [sS]
  rw [List.take_of_length_le (by omega)] at ho;exact λhc=>⟨_,za0 hc,λhw'=>k s.2 M2 N2 ho hfr hN2 hm2 hw'⟩
theorem yhw {R:Ending -> FrameMode -> Hp -> Prop} {h:Hp} (k:R (.returned (.tuple #[])) .returning h):zr2 Tryz.prog 321 #[] .returning R h:=by
 refine zol mixed Tryz.func321 (id:=0) (rest:=sel (za3 Tryz.f321) [1]) (ops:=zgr (sel (za3 Tryz.f321) [0])) (d:=some 0) (by kernel_rfl) (by kernel_rfl) (by kernel_rfl)
  (X:=pv (zon .neq .nilIface) λt1=>cnd t1 (ld false 1 (.pointer (some ⟨0,0,none⟩)) λt2=>pnc t2 (λc h=>c≠[]∧R (.panicked c) .returning h) λ_=>R (.returned (.tuple #[])) .returning) (R (.returned (.tuple #[])) .returning)) (by kernel_rfl) ?_
 exact zab rfl (zan k)
theorem znh {e:EqK} {a b:Nat} {h:Hp} (h2:a*b<9223372036854775808) (k:K (.int .i64 ((a*b:Nat):Int)) h):pv (za1 e .mul (.int .i64 a) (.int .i64 b)) K h :=
 ⟨_,by simp [za1,zfr]; rfl,by
  have e:((a:Int)*b)=((a*b:Nat):Int):=by simp
  rw [IntKind.wrap_i64,e];rw [show ((a*b:Nat):Int)+9223372036854775808=(a*b:Nat)+9223372036854775808 from rfl];rw [show (((a*b:Nat):Int)+9223372036854775808)%18446744073709551616 - 9223372036854775808=((a*b:Nat):Int) by omega];exact k⟩
theorem ydz {Z:Value -> Value -> Value -> Hp -> Prop} {v:Value} {bs:List Int} {C:Nat} (hm:za6 M N) (hv:sR F M 1 v bs.length (bts bs)) (hC:bs.length≤C) (hC0:0<C) (hC1:C≤100000000)
  (k:∀ b c' z,N≤b -> z.length+bs.length=C -> C≤c' -> c'≤maxLen -> (∀ x∈z,x.oneCell'=true) -> Z (.slice (some ⟨b,0,none⟩) C c') (.int .i64 (bs.length:Nat)) (.slice (some ⟨b,0,none⟩) bs.length c') ⟨F,upd M b (some (.cells 5 (bts bs++z) c')),b+1⟩) :
  zq1 5 [(.int .u8 0)] 1 1 (.slice none 0 0) (.int .i64 (C:Nat)) (λt8=>cpy 1 t8 v λt9=>pv (slV 1 t8 none (some t9) none) λt10=>Z t8 t9 t10) ⟨F,M,N⟩:=by
 refine ⟨none,0,0,[],C,.i64,rfl,rfl,⟨by simp,.inl ⟨none,0,rfl,rfl⟩⟩,Nat.le_refl _,by omega,by omega,by unfold maxLen; omega,λb c' hb hc hcm=>?_⟩;have hlen:(bts bs).length=bs.length:=by simp [bts]
 have hz:((List.replicate C [Value.int .u8 0]).flatten).length=C:=by simp
 rw [Nat.zero_add] at hc ⊢;refine ⟨b,0,C,c',_,_,_,bs.length,bts bs,rfl,za2 _ _ _,(hv.new hm hb).read,λc hc=>?_,by simp; omega,?_⟩
 ·have := List.mem_of_mem_take hc;simp only [bts,List.mem_map] at this;obtain ⟨x,_,rfl⟩:=this; rfl
 ·have et:(bts bs).take (bs.length*1)=bts bs:=by rw [Nat.mul_one,← hlen,List.take_length]
  rw [Nat.min_eq_left hC,et];refine zh7 bs.length (by omega) ?_
  have e:zb3 ([]++(List.replicate C [Value.int .u8 0]).flatten) 0 (bts bs)=bts bs++List.replicate (C - bs.length) (.int .u8 0):=by
   simp [zb3,hlen]
  have := k b c' (List.replicate (C - bs.length) (.int .u8 0)) hb (by simp; omega) hc hcm (λx hx=>by rw [List.eq_of_mem_replicate hx]; rfl);rw [← e,← zas M b (some (.cells 5 ([]++(List.replicate C [Value.int .u8 0]).flatten) c'))] at this;rw [Nat.mul_one];exact this
theorem yd5 {v:Value} {bs:List Int} {n c:Nat} {a:Option Addr} (hv:sR F M 1 v bs.length (bts bs)) (hc:v=.slice a bs.length c) (hcap:c<bs.length+n) (hl:bs.length+n≤4194304)
  (k:∀ b c' z,N≤b -> n≤z.length -> bs.length+z.length≤c' -> c'≤maxLen -> (∀ x∈z,x.oneCell'=true) -> (Hp.mk F (upd M b (some (.cells 5 (bts bs++z) c'))) (b+1)).wf -> K (.slice (some ⟨b,0,none⟩) bs.length c') ⟨F,upd M b (some (.cells 5 (bts bs++z) c')),b+1⟩) :
  cF 303 #[v,.int .i64 (n:Nat)] K E ⟨F,M,N⟩:=by
 refine ztr Tryz.func303 (by kernel_rfl) (λhw=>?_);have hm:za6 M N:=hw.m;refine zd4 (a:=sel (za3 Tryz.f303) [0]) (b:=sel (za3 Tryz.f303) [1]) (by kernel_rfl) ?_;refine zd3 mixed (zc1 zd6) (yrv ..) ?_;refine zd4 (a:=sel (za3 Tryz.f303) [1,0]) (b:=sel (za3 Tryz.f303) [1,1]) (by kernel_rfl) ?_;refine zz2 (id:=1) (by kernel_rfl) (zc1 zd6) (ykz ..) ⟨_,_,_,rfl,?_⟩;refine zd3 mixed zd6 (yjv ..) ?_;subst hc
 have fin:∀ b c' z,N≤b -> ∀ C,bs.length+n≤C -> z.length+bs.length=C -> C≤c' -> c'≤maxLen -> (∀ x∈z,x.oneCell'=true) -> ∀ env:Env,env.getD 4 undef=.slice (some ⟨b,0,none⟩) bs.length c' ->
   zxe Tryz.prog Tryz.f303.results.toList (λv h=>h.wf -> ∃ h',h.wk h'∧(h'.wf -> K v h')) E [{ target:=.fn (.func 321) #[],args:=#[] }] .ret env ⟨F,upd M b (some (.cells 5 (bts bs++z) c')),b+1⟩:=by
  intro b c' z hb C hC hz hcc hcm hone env he;refine ⟨by simp,by kernel_rfl,yhw ?_⟩;refine λhc=>⟨_,za0 hc,λhw'=>?_⟩;have := k b c' z hb (by omega) (by omega) hcm hone hw';rw [← he] at this;exact this
 refine zab rfl (zmj (by omega) (by omega) (zab rfl (znh (a:=2) (by omega) ?_)));refine zau (λh1=>zav ?_) (λh1=>zan ?_)
 ·refine zab rfl (znh (a:=2) (by omega) ?_);exact ydz hm hv (by omega) (by omega) (by omega) λb c' z hb hz hcc hcm hone=>fin b c' z hb (2*c) (by omega) hz hcc hcm hone _ rfl
 ·have e:((bs.length:Int)+(n:Nat))=((bs.length+n:Nat):Int):=rfl;rw [e];exact ydz hm hv (by omega) (by omega) (by omega) λb c' z hb hz hcc hcm hone=>fin b c' z hb _ (Nat.le_refl _) hz hcc hcm hone _ rfl
structure zbf (M:Nat -> Option zah) (B p:Nat) (e:TypeId) (post:List Value) (tot:Nat) (v:Value) (bs:List Int):Prop where
 pp:∃ lr,M p=some (.cells e (v :: .int .i64 0 :: .int .i8 lr::post) tot)
 ow:own M B 5 1 v bs.length (bts bs)
 ne:v.ownBlock≠some p
 bl:bs.length≤2097152
def bfr (M M':Nat -> Option zah) (N p:Nat) (v v':Value):Prop:=∀ q,q≠p -> v.ownBlock≠some q -> q<N -> M' q=M q∧v'.ownBlock≠some q
section
variable {B p tot:Nat} {e:TypeId} {post:List Value} {v:Value} {bs:List Int}
theorem zla (P:zbf M B p e post tot v bs) (k:(Hp.mk F M N).wf -> K (.int .i64 (bs.length:Nat)) ⟨F,M,N⟩) :
  cF 65 #[.pointer (some ⟨p,0,none⟩)] K E ⟨F,M,N⟩:=by
 refine za5 mixed Tryz.func65 (by kernel_rfl) (t65 _ E _) (λhw=>?_);obtain ⟨lr,hp⟩:=P.pp;obtain ⟨a,c,rfl,hc⟩:=P.ow.form;try simp only [sS]
 refine ldM (v:=.slice a bs.length c) ?_ hp;try simp only [sS]
 refine ldM (v:=.int .i64 0) ?_ hp;refine zcz (by have := P.bl; omega) (by have := P.bl; omega) ?_;rw [Int.sub_zero];exact λhc=>⟨_,za0 hc,k⟩
theorem ya5 (P:zbf M B p e post tot v bs) (k:(Hp.mk F M N).wf -> K v ⟨F,M,N⟩) :
  cF 85 #[.pointer (some ⟨p,0,none⟩)] K E ⟨F,M,N⟩:=by
 refine za5 mixed Tryz.func85 (by kernel_rfl) (t85 _ E _) (λhw=>?_);obtain ⟨lr,hp⟩:=P.pp;try simp only [sS]
 refine ldM (v:=v) ?_ hp;try simp only [sS]
 refine ldM (v:=.int .i64 0) ?_ hp
 rcases P.ow.2 with ⟨rfl,h0⟩ | ⟨b,c,rest,rfl,h1,h2,h3,h4⟩
 ·refine zab (v:=.slice none 0 0) (by kernel_rfl) ?_;exact λhc=>⟨_,za0 hc,k⟩
 ·refine zga 0 (Nat.zero_le _) h1 ?_;have:(if c=0 then (⟨b,0,none⟩:Addr) else ⟨b,0+0*1,none⟩)=⟨b,0,none⟩:=by split<;>rfl
  rw [this];exact λhc=>⟨_,za0 hc,k⟩
theorem ygz {lr:Int} {vb len c n:Nat} (hp:M p=some (.cells e (.slice (some ⟨vb,0,none⟩) len c :: .int .i64 0 :: .int .i8 lr::post) tot)) (h1:len+n≤c) (h2:c≤maxLen)
  (k:(Hp.mk F (upd M p (some (.cells e (.slice (some ⟨vb,0,none⟩) (len+n) c :: .int .i64 0 :: .int .i8 lr::post) tot))) N).wf -> K (.tuple #[.int .i64 (len:Nat),.bool true]) ⟨F,upd M p (some (.cells e (.slice (some ⟨vb,0,none⟩) (len+n) c :: .int .i64 0 :: .int .i8 lr::post) tot)),N⟩) :
  cF 264 #[.pointer (some ⟨p,0,none⟩),.int .i64 (n:Nat)] K E ⟨F,M,N⟩:=by
 refine za5 mixed Tryz.func264 (by kernel_rfl) (yqx _ E _ _) (λhw=>?_);unfold maxLen at h2;try simp only [sS]
 refine ldM (v:=.slice (some ⟨vb,0,none⟩) len c) ?_ hp;try simp only [sS]
 refine ldM (v:=.slice (some ⟨vb,0,none⟩) len c) ?_ hp;try simp only [sS]
 refine zcz (by omega) (by omega) (yn2 (by omega) (zav ?_));try simp only [sS]
 refine ldM (v:=.slice (some ⟨vb,0,none⟩) len c) ?_ hp;refine zmj (by omega) (by omega) ?_;have ea:((len:Int)+(n:Nat))=((len+n:Nat):Int):=rfl;rw [ea];refine zh7 (len+n) h1 ?_;try simp only [sS]
 refine stM (cs':=.slice (some ⟨vb,0,none⟩) (len+n) c :: .int .i64 0 :: .int .i8 lr::post) ?_ hp (by simp [zb3,Value.cells]) rfl (List.all_eq_true.1 rfl) (by simp);exact λhc=>⟨_,za0 hc,k⟩
theorem yb6 {lr:Int} {a:Option Addr} {len c n:Nat} (hp:M p=some (.cells e (.slice a len c :: .int .i64 0 :: .int .i8 lr::post) tot)) (h1:c<len+n) (h2:len≤c) (h3:len+n≤10000000)
  (k:(Hp.mk F M N).wf -> K (.tuple #[.int .i64 0,.bool false]) ⟨F,M,N⟩) :
  cF 264 #[.pointer (some ⟨p,0,none⟩),.int .i64 (n:Nat)] K E ⟨F,M,N⟩:=by
 refine za5 mixed Tryz.func264 (by kernel_rfl) (yqx _ E _ _) (λhw=>?_);try simp only [sS]
 refine ldM (v:=.slice a len c) ?_ hp;try simp only [sS]
 refine ldM (v:=.slice a len c) ?_ hp;try simp only [sS]
 refine zcz (by omega) (by omega) (yn4 (by omega) (zan ?_));exact λhc=>⟨_,za0 hc,k⟩
end
theorem sl0 {a:Option Addr} {len c:Nat} (h:len≤c) (ha:a=none∨∃ b,a=some ⟨b,0,none⟩):slV 1 (.slice a len c) (some (.int .i64 0)) none none=some (.slice a len c):=by
 rcases ha with rfl | ⟨b,rfl⟩<;>simp [slV,bnd,zzz,h,Addr.add]
section
variable {B p tot:Nat} {e:TypeId} {post:List Value} {v:Value} {bs:List Int}
theorem ydj {lr:Int} {a:Option Addr} {c n:Nat} (hp:M p=some (.cells e (.slice a bs.length c :: .int .i64 0 :: .int .i8 lr::post) tot)) (ow:own M B 5 1 (.slice a bs.length c) bs.length (bts bs)) (hne:(Value.slice a bs.length c).ownBlock≠some p)
  (hf:c<bs.length+n) (hn:0<n) (hl:bs.length+n≤2097152)
  (k:∀ vb c' z M' N',N≤vb -> vb<N' -> M' p=some (.cells e (.slice (some ⟨vb,0,none⟩) (bs.length+n) c' :: .int .i64 0 :: .int .i8 lr::post) tot) -> M' vb=some (.cells 5 (bts bs++z) c') -> n≤z.length -> bs.length+z.length≤c' -> c'≤maxLen -> (∀ x∈z,x.oneCell'=true) ->
   (∀ q,q≠p -> q<N -> M' q=M q) -> za6 M' N' -> (Hp.mk F M' N').wf -> K (.int .i64 (bs.length:Nat)) ⟨F,M',N'⟩) :
  cF 265 #[.pointer (some ⟨p,0,none⟩),.int .i64 (n:Nat)] K E ⟨F,M,N⟩:=by
 refine za5 mixed Tryz.func265 (by kernel_rfl) (yys _ E _ _) (λhw=>?_);have hm:za6 M N:=hw.m;have P:zbf M B p e post tot (.slice a bs.length c) bs:=⟨⟨lr,hp⟩,ow,hne,by omega⟩;have hpN:p<N:=hm.lt hp;have hcl:bs.length≤c:=by obtain ⟨a1,c1,he,h1⟩:=ow.form; cases he; exact h1
 have hw0:=hw
 have fin:∀ vb c' z,N≤vb -> n≤z.length -> bs.length+z.length≤c' -> c'≤maxLen -> (∀ x∈z,x.oneCell'=true) ->
   (Hp.mk F (upd (upd M vb (some (.cells 5 (bts bs++z) c'))) p (some (.cells e (.slice (some ⟨vb,0,none⟩) (bs.length+n) c' :: .int .i64 0 :: .int .i8 lr::post) tot))) (vb+1)).wf ->
   K (.int .i64 (bs.length:Nat)) ⟨F,upd (upd M vb (some (.cells 5 (bts bs++z) c'))) p (some (.cells e (.slice (some ⟨vb,0,none⟩) (bs.length+n) c' :: .int .i64 0 :: .int .i8 lr::post) tot)),vb+1⟩:=λvb c' z h1 h2 h3 h4 h5 hw'=>
  k vb c' z _ _ h1 (by omega) (za2 _ _ _) ((za4 _ _ (by omega)).trans (za2 _ _ _)) h2 h3 h4 h5 (λq h6 h7=>(za4 _ _ h6).trans (za4 _ _ (by omega))) (((hm.new h1 _)).set (by omega) _) hw'
 have hmx:c≤maxLen:=by
  rcases ow.2 with ⟨e0,h00⟩ | ⟨b0,c0,rest,e0,g1,g2,g3,g4⟩
  ·simp only [Value.slice.injEq] at e0; unfold maxLen; omega
  ·simp only [Value.slice.injEq] at e0; rw [e0.2.2]; exact g2
 unfold maxLen at hmx
 have hform:(a=none∧bs.length=0∧c=0)∨∃ b0,a=some ⟨b0,0,none⟩:=by
  rcases ow.2 with ⟨e0,h00⟩ | ⟨b0,c0,rest,e0,g1,g2,g3,g4⟩
  ·simp only [Value.slice.injEq] at e0; exact .inl ⟨e0.1,e0.2.1,e0.2.2⟩
  ·simp only [Value.slice.injEq] at e0; exact .inr ⟨b0,e0.1⟩
 refine zla P (λhw1=>?_);refine zat (λh0=>?a) (λh0=>?b)
 case' a=>
  try simp only [sS]
  refine ldM (v:=.int .i64 0) ?_ hp;refine zcv rfl ?_
 all_goals try simp only [sS]
 all_goals rw [yfu]
 all_goals refine yb6 hp hf hcl (by omega) (λhw2=>?_)
 all_goals try simp only [sS]
 all_goals refine ldM (v:=.slice a bs.length c) ?_ hp
 all_goals rcases hform with ⟨rfl,hl0,hc0⟩ | ⟨b0,rfl⟩
 all_goals first
  | refine zab (v:=.bool true) rfl ?_
  | refine zab (v:=.bool false) rfl ?_
 all_goals try simp only [sS]
 all_goals try refine zdv (λh64=>?_) (λh64=>?_)
 all_goals try simp only [sS]
 all_goals try
  refine ⟨.i64,n,.i64,64,rfl,rfl,by omega,by omega,by unfold maxLen; omega,λvb hvb=>?_⟩;have hbs:bs=[]:=List.eq_nil_of_length_eq_zero hl0;subst hbs;try simp only [sS]
  refine stM (cs':=.slice (some ⟨vb,0,none⟩) n 64 :: .int .i64 0 :: .int .i8 lr::post) ?_ ((za4 _ _ (by have:N≤vb:=hvb; omega)).trans hp) (by simp [zb3,Value.cells]) rfl (List.all_eq_true.1 rfl) (by simp);have := fin vb 64 (List.replicate n [Value.int .u8 0]).flatten hvb (by simp) (by simp; omega) (by unfold maxLen; omega) (λx hx=>by simp at hx; rw [hx.2]; rfl);simp only [List.length_nil,Nat.zero_add,show bts ([]:List Int)=[] from rfl,List.nil_append] at this;exact λhc=>⟨_,za0 hc,this⟩
 all_goals refine ldM (v:=.slice _ bs.length c) ?_ hp
 all_goals try simp only [sS]
 all_goals refine yni (a:=(c:Int)) (b:=2) (by omega) (by omega) (by omega) ?_
 all_goals refine zcz (by omega) (by omega) (yn4 (by omega) (zan ?_))
 all_goals refine zcz (by omega) (by omega) (zcz (by omega) (by omega) (zqz (by omega) (zan ?_)))
 all_goals try simp only [sS]
 all_goals refine ldM (v:=.slice _ bs.length c) ?_ hp
 all_goals try simp only [sS]
 all_goals refine ldM (v:=.int .i64 0) ?_ hp
 all_goals first
  | refine zab (sl0 hcl (.inl rfl)) ?_
  | refine zab (sl0 hcl (.inr ⟨_,rfl⟩)) ?_
 all_goals try simp only [sS]
 all_goals refine ldM (v:=.int .i64 0) ?_ hp
 all_goals refine zmj (by omega) (by omega) ?_
 all_goals rw [Int.zero_add]
 all_goals refine yd5 ow.rd rfl hf (by omega) (λvb c' z hvb hz hc' hcm hone hw3=>?_)
 all_goals try simp only [sS]
 all_goals have hp1:upd M vb (some (.cells 5 (bts bs++z) c')) p=_:=(za4 _ _ (by omega)).trans hp
 all_goals refine stM (cs':=.slice (some ⟨vb,0,none⟩) bs.length c' :: .int .i64 0 :: .int .i8 lr::post) ?_ hp1 (by simp [zb3,Value.cells]) rfl (List.all_eq_true.1 rfl) (by simp)
 all_goals rw [zpx]
 all_goals try simp only [sS]
 all_goals refine stM (cs':=.slice (some ⟨vb,0,none⟩) bs.length c' :: .int .i64 0 :: .int .i8 lr::post) ?_ (za2 _ _ _) (by simp [zb3,Value.cells]) rfl (List.all_eq_true.1 rfl) (by simp)
 all_goals rw [zas]
 all_goals try simp only [sS]
 all_goals refine ldM (v:=.slice (some ⟨vb,0,none⟩) bs.length c') ?_ (za2 _ _ _)
 all_goals refine zmj (by omega) (by omega) ?_
 all_goals rw [show ((bs.length:Int)+(n:Nat))=((bs.length+n:Nat):Int) from rfl]
 all_goals refine zh7 (bs.length+n) (by omega) ?_
 all_goals try simp only [sS]
 all_goals refine stM (cs':=.slice (some ⟨vb,0,none⟩) (bs.length+n) c' :: .int .i64 0 :: .int .i8 lr::post) ?_ (za2 _ _ _) (by simp [zb3,Value.cells]) rfl (List.all_eq_true.1 rfl) (by simp)
 all_goals rw [zas]
 all_goals exact λhc=>⟨_,za0 hc,fin vb c' z hvb hz hc' hcm hone⟩
def zzr (M:Nat -> Option zah) (B:Nat) (v:Value) (bs:List Int):Prop :=
 (v=.slice none 0 0∧bs=[])∨∃ b c rest,v=.slice (some ⟨b,0,none⟩) bs.length c∧c≤maxLen∧B≤b∧M b=some (.cells 5 (bts bs++rest) c)∧bs.length+rest.length=c
theorem zzr.own {M:Nat -> Option zah} (h:zzr M B v bs):own M B 5 1 v bs.length (bts bs):=by
 rcases h with ⟨rfl,rfl⟩ | ⟨b,c,rest,rfl,h2,h3,h4,h5⟩
 ·exact own.nil
 ·exact ⟨by simp [bts],.inr ⟨b,c,rest,rfl,by omega,h2,h3,by rw [Nat.mul_one]; exact h4⟩⟩
theorem zz0 {vb c:Nat} {l:List Int} {z:List Value} (h:M vb=some (.cells 5 (bts l++z) c)) (hc:l.length≤c) (hm:c≤maxLen) (hB:B≤vb):own M B 5 1 (.slice (some ⟨vb,0,none⟩) l.length c) l.length (bts l) :=
 ⟨by simp [bts],.inr ⟨vb,c,z,rfl,hc,hm,hB,by rw [Nat.mul_one]; exact h⟩⟩
theorem ydv {ys:List Int} {z:List Value}:zb3 (bts bs++z) bs.length (bts ys)=bts (bs++ys)++z.drop ys.length:=by
 have h1:(bts bs).length=bs.length:=by simp [bts]
 have h2:(bts ys).length=ys.length:=by simp [bts]
 unfold zb3;rw [List.take_left' h1,List.drop_append,h1,h2,Nat.add_sub_cancel_left,List.drop_eq_nil_of_le (by omega),ylc,List.nil_append]
theorem zut {f:FuncId} {args:Array Value} (P:zbf M B p e post tot v bs) (hb:(((Tryz.prog.funcs[f]?).map λfn=>fn.name != "runtime.NumGoroutine" && fn.body.isSome).getD false)=true)
  (hc:∀ M1,zbf M1 B p e post tot v bs -> zzr M1 B v bs -> (∀ q,v.ownBlock≠some q -> M1 q=M q) -> za6 M1 N -> call Tryz.prog f (zcp (zcp #[] args) #[]) K E ⟨F,M1,N⟩) (hm:za6 M N):zbq Tryz.prog (.func (.func f) #[] #[]) args K E ⟨F,M,N⟩:=by
 rcases P.ow.2 with ⟨e0,h0⟩ | ⟨b,c,rest,e0,g1,g2,g3,g4⟩
 ·exact .inl ⟨hb,hc M P (.inl ⟨e0,List.eq_nil_of_length_eq_zero h0⟩) (λ_ _=>rfl) hm⟩
 ·refine zqi (first:=#[]) (captured:=#[]) g4 rfl hb (λext hext=>?_);have hbne:b≠p:=λh=>P.ne (by rw [e0,h]; rfl);have hbl:(bts bs).length=bs.length:=by simp [bts]
  have hN:=hm.lt g4;rw [Nat.mul_one,List.append_assoc] at hext ⊢;simp only [List.length_append] at hext;have h2:zzr (upd M b (some (.cells 5 (bts bs++(rest++ext)) c))) B v bs:=.inr ⟨b,c,rest++ext,e0,g2,g3,za2 _ _ _,by simp; omega⟩
  exact hc (upd M b (some (.cells 5 (bts bs++(rest++ext)) c))) ⟨by obtain ⟨lr,hp⟩:=P.pp; exact ⟨lr,(za4 _ _ (λe=>hbne e.symm)).trans hp⟩,h2.own,P.ne,P.bl⟩ h2
   (λq hq=>za4 _ _ (λe=>hq (by rw [e0,e]; rfl))) (hm.set hN _)
theorem ym8 {x:Value} {ys:List Int} (P:zbf M B p e post tot v bs) (hm:za6 M N) (hB:B≤N) (hx:sR F M 1 x ys.length (bts ys)) (hxo:∀ q,x.ownBlock=some q -> v.ownBlock≠some q∧q≠p∧q<N) (hy:0<ys.length) (hl:bs.length+ys.length≤2097152)
  (k:∀ v' M' N',zbf M' B p e post tot v' (bs++ys) -> bfr M M' N p v v' -> N≤N' -> za6 M' N' -> (Hp.mk F M' N').wf -> K (.tuple #[.int .i64 (ys.length:Nat),.nilIface]) ⟨F,M',N'⟩) :
  cF 204 #[.pointer (some ⟨p,0,none⟩),x] K E ⟨F,M,N⟩:=by
 refine zut P (by kernel_rfl) (λM1 P1 hf hM1 hm1=>?_) hm;refine zj4 mixed Tryz.func204 (by kernel_rfl) (yxv _ E _ _) (λhw=>?_);obtain ⟨lr,hp⟩:=P1.pp;obtain ⟨xa,xc,rfl,hxc⟩:=hx.form;have hpN:p<N:=hm1.lt hp;have hx1:sR F M1 1 (.slice xa ys.length xc) ys.length (bts ys):=hx.keep (za9.refl _) λq c hq hM=>(hM1 q (hxo q hq).1).trans hM;try simp only [sS]
 refine stM (cs':=v :: .int .i64 0 :: .int .i8 0::post) ?_ hp (by simp [zb3,Value.cells]) rfl (List.all_eq_true.1 rfl) (by simp)
 have tail:∀ (vb c':Nat) (z:List Value) (M2:Nat -> Option zah) (N2:Nat),(v.ownBlock=some vb∨N≤vb) -> N≤N2 -> M2 p=some (.cells e (.slice (some ⟨vb,0,none⟩) (bs.length+ys.length) c' :: .int .i64 0 :: .int .i8 0::post) tot) -> M2 vb=some (.cells 5 (bts bs++z) c') ->
   ys.length≤z.length -> bs.length+z.length≤c' -> c'≤maxLen -> (∀ q,q≠p -> v.ownBlock≠some q -> q<N -> M2 q=M q) -> za6 M2 N2 -> vb≠p -> B≤vb ->
   ld false 1 (.pointer (some ⟨p,0,none⟩)) (λt3=>pv (slV 1 t3 (some (.int .i64 (bs.length:Nat))) none none) λt4=>cpy 1 t4 (.slice xa ys.length xc) λt5 h=>h.wf -> ∃ h',h.wk h'∧(h'.wf -> K (.tuple #[t5,.nilIface]) h')) ⟨F,M2,N2⟩:=by
  intro vb c' z M2 N2 hvb hN2 h1 h2 h3 h4 h5 h6 hm2 h7 h8;have hvN:=hm2.lt h2;refine ldM (v:=.slice (some ⟨vb,0,none⟩) (bs.length+ys.length) c') ?_ h1;refine zga bs.length (by omega) (by omega) ?_;rw [if_neg (by omega:¬ c'=bs.length),show bs.length+ys.length - bs.length=ys.length by omega];have hx2:sR F M2 1 (.slice xa ys.length xc) ys.length (bts ys):=hx.keep (za9.refl _) λq c hq hM=>(h6 q (hxo q hq).2.1 (hxo q hq).1 (hxo q hq).2.2).trans hM;have hbl:(bts bs).length=bs.length:=by simp [bts]
  have hyl:(bts ys).length=ys.length:=by simp [bts]
  have ht:(bts ys).take (min ys.length ys.length*1)=bts ys:=by rw [Nat.min_self,Nat.mul_one,← hyl,List.take_length]
  refine ⟨vb,_,ys.length,_,_,_,_,ys.length,bts ys,rfl,h2,hx2.read,λc hc=>?_,by simp [hbl]; omega,?_⟩
  ·rw [ht] at hc;simp only [bts,List.mem_map] at hc;obtain ⟨y,_,rfl⟩:=hc; rfl
  ·rw [ht,Nat.zero_add,Nat.mul_one,ydv,Nat.min_self];refine λhc=>⟨_,za0 hc,λhw'=>k (.slice (some ⟨vb,0,none⟩) (bs.length+ys.length) c') _ N2 ?_ ?_ hN2 (hm2.set hvN _) hw'⟩
   ·refine ⟨⟨0,(za4 _ _ (λe=>h7 e.symm)).trans h1⟩,?_,λe=>h7 (by simpa [Value.ownBlock] using e),by simp; omega⟩;have := zz0 (M:=upd M2 vb (some (.cells 5 (bts (bs++ys)++z.drop ys.length) c'))) (za2 _ _ _) (by simp; omega) h5 h8;rw [List.length_append] at this ⊢;exact this
   ·intro q q1 q2 q3;have:q≠vb:=λe=>by rcases hvb with h | h; exact q2 (by rw [h,e]); omega
    exact ⟨(za4 _ _ this).trans (h6 q q1 q2 q3),λe=>this (by simpa [Value.ownBlock] using e.symm)⟩
 have hM1':∀ q,q≠p -> v.ownBlock≠some q -> q<N -> upd M1 p (some (.cells e (v :: .int .i64 0 :: .int .i8 0::post) tot)) q=M q:=λq q1 q2 _=>(za4 _ _ q1).trans (hM1 q q2);have ow1:own (upd M1 p (some (.cells e (v :: .int .i64 0 :: .int .i8 0::post) tot))) B 5 1 v bs.length (bts bs):=hf.own.keep (λq hq=>za4 _ _ (λe=>P1.ne (by rw [hq,e]))) (Nat.le_refl _);try simp only [sS]
 have hcase:(∃ a c,v=.slice a bs.length c∧bs.length≤c∧c<bs.length+ys.length)∨∃ b c rest,v=.slice (some ⟨b,0,none⟩) bs.length c∧bs.length+ys.length≤c∧c≤maxLen∧B≤b∧M1 b=some (.cells 5 (bts bs++rest) c)∧bs.length+rest.length=c:=by
  rcases hf with ⟨rfl,hbs⟩ | ⟨b,c,rest,rfl,g2,g3,g4,g5⟩
  ·exact .inl ⟨none,0,by rw [hbs]; rfl,by rw [hbs]; exact Nat.le_refl _,by omega⟩
  ·by_cases hfit:bs.length+ys.length≤c
   ·exact .inr ⟨b,c,rest,rfl,hfit,g2,g3,g4,g5⟩
   ·exact .inl ⟨_,c,rfl,by omega,by omega⟩
 rcases hcase with ⟨a,c,rfl,hcl,hc⟩ | ⟨b,c,rest,rfl,hfit,g2,g3,g4,g5⟩
 ·refine yb6 (za2 _ _ _) hc hcl (by omega) (λhw2=>?_);try simp only [sS]
  refine ydj (B:=B) (za2 _ _ _) ow1 P1.ne hc hy hl (λvb c' z M' N' h1 hvN h2 h3 h4 h5 h6 h7 h8 h9 hw3=>?_);try simp only [sS]
  rw [zph];try simp only [sS]
  exact tail vb c' z M' N' (.inr h1) (by omega) h2 h3 h4 h5 h6 (λq q1 q2 q3=>(h8 q q1 q3).trans (hM1' q q1 q2 q3)) h9 (by omega) (by omega)
 ·refine ygz (za2 _ _ _) hfit g2 (λhw2=>?_);try simp only [sS]
  rw [zph];try simp only [sS]
  rw [zas];have hbp:b≠p:=λe=>P1.ne (by rw [e]; rfl);exact tail b c rest _ N (.inl rfl) (Nat.le_refl _) (za2 _ _ _) ((za4 _ _ hbp).trans g4) (by omega) (by omega) g2 (λq q1 q2 q3=>(za4 _ _ q1).trans (hM1 q q2)) (hm1.set hpN _) hbp g3
theorem zr3 {x:Int} (P:zbf M B p e post tot v bs) (hm:za6 M N) (hB:B≤N) (hl:bs.length+1≤2097152)
  (k:∀ v' M' N',zbf M' B p e post tot v' (bs++[x]) -> bfr M M' N p v v' -> N≤N' -> za6 M' N' -> (Hp.mk F M' N').wf -> K .nilIface ⟨F,M',N'⟩) :
  cF 262 #[.pointer (some ⟨p,0,none⟩),.int .u8 x] K E ⟨F,M,N⟩:=by
 refine zut P (by kernel_rfl) (λM1 P1 hf hM1 hm1=>?_) hm;refine zj4 mixed Tryz.func262 (by kernel_rfl) (yur _ E _ _) (λhw=>?_);obtain ⟨lr,hp⟩:=P1.pp;have hpN:p<N:=hm1.lt hp;try simp only [sS]
 refine stM (cs':=v :: .int .i64 0 :: .int .i8 0::post) ?_ hp (by simp [zb3,Value.cells]) rfl (List.all_eq_true.1 rfl) (by simp)
 have tail:∀ (vb c':Nat) (z:List Value) (M2:Nat -> Option zah) (N2:Nat),(v.ownBlock=some vb∨N≤vb) -> N≤N2 -> M2 p=some (.cells e (.slice (some ⟨vb,0,none⟩) (bs.length+1) c' :: .int .i64 0 :: .int .i8 0::post) tot) -> M2 vb=some (.cells 5 (bts bs++z) c') ->
   1≤z.length -> bs.length+z.length≤c' -> c'≤maxLen -> (∀ q,q≠p -> v.ownBlock≠some q -> q<N -> M2 q=M q) -> za6 M2 N2 -> vb≠p -> B≤vb ->
   ld false 1 (.pointer (some ⟨p,0,none⟩)) (λt3=>pv (iaV none 1 t3 (.int .i64 (bs.length:Nat))) λt4=>st 1 t4 (.int .u8 x) λ_ h=>h.wf -> ∃ h',h.wk h'∧(h'.wf -> K .nilIface h')) ⟨F,M2,N2⟩:=by
  intro vb c' z M2 N2 hvb hN2 h1 h2 h3 h4 h5 h6 hm2 h7 h8;have hvN:=hm2.lt h2;refine ldM (v:=.slice (some ⟨vb,0,none⟩) (bs.length+1) c') ?_ h1;refine zd0 (by omega) ?_;have hbl:(bts bs).length=bs.length:=by simp [bts]
  refine stM (cs':=bts (bs++[x])++z.drop 1) ?_ h2 (by rw [Nat.zero_add,Nat.mul_one]; exact ydv (ys:=[x])) rfl (List.all_eq_true.1 rfl) (by simp [hbl]; omega)
  ·skip
   refine λhc=>⟨_,za0 hc,λhw'=>k (.slice (some ⟨vb,0,none⟩) (bs.length+1) c') _ N2 ?_ ?_ hN2 (hm2.set hvN _) hw'⟩
   ·refine ⟨⟨0,(za4 _ _ (λe=>h7 e.symm)).trans h1⟩,?_,λe=>h7 (by simpa [Value.ownBlock] using e),by simp; omega⟩;have := zz0 (M:=upd M2 vb (some (.cells 5 (bts (bs++[x])++z.drop 1) c'))) (za2 _ _ _) (by simp; omega) h5 h8
    simpa using this
   ·intro q q1 q2 q3;have:q≠vb:=λe=>by rcases hvb with h | h; exact q2 (by rw [h,e]); omega
    exact ⟨(za4 _ _ this).trans (h6 q q1 q2 q3),λe=>this (by simpa [Value.ownBlock] using e.symm)⟩
 have hM1':∀ q,q≠p -> v.ownBlock≠some q -> q<N -> upd M1 p (some (.cells e (v :: .int .i64 0 :: .int .i8 0::post) tot)) q=M q:=λq q1 q2 _=>(za4 _ _ q1).trans (hM1 q q2);have ow1:own (upd M1 p (some (.cells e (v :: .int .i64 0 :: .int .i8 0::post) tot))) B 5 1 v bs.length (bts bs):=hf.own.keep (λq hq=>za4 _ _ (λe=>P1.ne (by rw [hq,e]))) (Nat.le_refl _);try simp only [sS]
 have hcase:(∃ a c,v=.slice a bs.length c∧bs.length≤c∧c<bs.length+1)∨∃ b c rest,v=.slice (some ⟨b,0,none⟩) bs.length c∧bs.length+1≤c∧c≤maxLen∧B≤b∧M1 b=some (.cells 5 (bts bs++rest) c)∧bs.length+rest.length=c:=by
  rcases hf with ⟨rfl,hbs⟩ | ⟨b,c,rest,rfl,g2,g3,g4,g5⟩
  ·exact .inl ⟨none,0,by rw [hbs]; rfl,by rw [hbs]; exact Nat.le_refl _,by omega⟩
  ·by_cases hfit:bs.length+1≤c
   ·exact .inr ⟨b,c,rest,rfl,hfit,g2,g3,g4,g5⟩
   ·exact .inl ⟨_,c,rfl,by omega,by omega⟩
 rcases hcase with ⟨a,c,rfl,hcl,hc⟩ | ⟨b,c,rest,rfl,hfit,g2,g3,g4,g5⟩
 ·refine yb6 (n:=1) (za2 _ _ _) hc hcl (by omega) (λhw2=>?_);try simp only [sS]
  refine ydj (n:=1) (B:=B) (za2 _ _ _) ow1 P1.ne hc (by omega) hl (λvb c' z M' N' h1 hvN h2 h3 h4 h5 h6 h7 h8 h9 hw3=>?_);try simp only [sS]
  rw [zq5];try simp only [sS]
  exact tail vb c' z M' N' (.inr h1) (by omega) h2 h3 h4 h5 h6 (λq q1 q2 q3=>(h8 q q1 q3).trans (hM1' q q1 q2 q3)) h9 (by omega) (by omega)
 ·refine ygz (n:=1) (za2 _ _ _) hfit g2 (λhw2=>?_);try simp only [sS]
  rw [zq5];try simp only [sS]
  rw [zas];have hbp:b≠p:=λe=>P1.ne (by rw [e]; rfl);exact tail b c rest _ N (.inl rfl) (Nat.le_refl _) (za2 _ _ _) ((za4 _ _ hbp).trans g4) (by omega) (by omega) g2 (λq q1 q2 q3=>(za4 _ _ q1).trans (hM1 q q2)) (hm1.set hpN _) hbp g3
end
section
variable {B p tot:Nat} {e:TypeId} {post:List Value} {v:Value} {bs:List Int}
theorem bfr.trans {M'':Nat -> Option zah} {v' v'':Value} (h:bfr M M' N p v v') (k:bfr M' M'' N' p v' v'') (hN:N≤N'):bfr M M'' N p v v'':=λq q1 q2 q3=>
 ⟨((k q q1 (h q q1 q2 q3).2 (by omega)).1).trans (h q q1 q2 q3).1,(k q q1 (h q q1 q2 q3).2 (by omega)).2⟩
theorem bfr.refl:bfr M M N p v v:=λq _ q2 _=>⟨rfl,q2⟩
theorem zzl {x:Int} {k:Nat} {h:Hp} (kk:K (.int .u64 (x.fdiv (2 ^ (min k 64)))) h):pv (za1 .none .shr (.int .u64 x) (.int .i64 (k:Nat))) K h :=
 ⟨_,by
  have e:za1 .none .shr (.int .u64 x) (.int .i64 (k:Nat))=zgh .shr .u64 x (k:Nat):=rfl;rw [e]; unfold zgh; rw [if_neg (by omega)]; simp only [Int.toNat_natCast]; rfl,kk⟩
def ztc (F:Nat -> Option (List Value)) (M:Nat -> Option zah) (N B p:Nat) (e:TypeId) (post:List Value) (tot:Nat) (v:Value) (bs out:List Int) (K:zae):Prop :=
 ∀ v' M' N',zbf M' B p e post tot v' (bs++out) -> bfr M M' N p v v' -> N≤N' -> za6 M' N' -> (Hp.mk F M' N').wf -> K (.tuple #[]) ⟨F,M',N'⟩
theorem ys2 {kx:IntKind} {x:Int} {size:Nat} (P:zbf M B p e post tot v bs) (hm:za6 M N) (hB:B≤N) (hs:size≤8) (hl:bs.length+size≤2097152) (k:ztc F M N B p e post tot v bs (zam (zaz x) size) K) :
  cF 193 #[.pointer (some ⟨p,0,none⟩),.int kx x,.int .i64 (size:Nat)] K E ⟨F,M,N⟩:=by
 refine za5 mixed Tryz.func193 (by kernel_rfl) (ywu _ E _ _ _) (λhw=>?_)
 refine yeq (σ:=Nat×Value) (λs=>.int .i64 (s.1:Nat))
  (λs h'=>∃ M' N',h'=⟨F,M',N'⟩∧N≤N'∧za6 M' N'∧s.1≤size∧zbf M' B p e post tot s.2 (bs++zgf (zaz x) size s.1)∧bfr M M' N p v s.2) (λs=>size - s.1) (0,v) rfl
  (λhw2=>⟨_,za0 hw2,M,N,rfl,Nat.le_refl _,hm,Nat.zero_le _,by simpa [zgf] using P,bfr.refl⟩) (λkk s j h1 hI hw2 next=>?_)
 rw [yf9];obtain ⟨M1,N1,rfl,hN1,hm1,hi,P1,hfr⟩:=hI;refine zau (λhlt=>?_) (λhge=>?_)
 ·have i1:s.1<size:=by omega
  try simp only [sS]
  refine zex ?_;refine zcz (by omega) (by omega) (zcz (by omega) (by omega) ?_);rw [show (size:Int) - 1 - (s.1:Nat)=((size - 1 - s.1:Nat):Int) by omega];refine znh (a:=8) (by omega) (zzl ?_);refine zab (v:=.int .u8 (zjf (zaz x) (size - 1 - s.1))) rfl ?_;refine zr3 P1 hm1 (by omega) (by rw [List.length_append,zly]; omega) (λv' M5 N5 g1 g2 g3 g4 hw5=>?_);refine zaq (by omega) ?_;refine next (s.1+1,v') _ _ (by simp only; omega) (λhw5=>⟨_,za0 hw5,M5,N5,rfl,by omega,g4,i1,?_,hfr.trans g2 hN1⟩);simp only;rw [zkn,← List.append_assoc];exact g1
 ·try simp only [sS]
  have es:s.1=size:=by omega
  rw [es] at P1;exact λhc=>⟨_,za0 hc,λhw'=>k s.2 M1 N1 P1 hfr hN1 hm1 hw'⟩
theorem zy7 {kx:IntKind} {x:Int} {size:Nat} (P:zbf M B p e post tot v bs) (hm:za6 M N) (hB:B≤N) (hs:size≤8) (hl:bs.length+size≤2097152) (k:ztc F M N B p e post tot v bs (zam (zaz x) size) K) :
  cF 194 #[.pointer (some ⟨p,0,none⟩),.int kx x,.int .i64 (size:Nat)] K E ⟨F,M,N⟩:=by
 refine za5 mixed Tryz.func194 (by kernel_rfl) (yxj _ E _ _ _) (λhw=>?_)
 refine yg3 (σ:=Nat×Value) (λs=>.int .i64 (s.1:Nat))
  (λs h'=>∃ M' N',h'=⟨F,M',N'⟩∧N≤N'∧za6 M' N'∧s.1≤size∧zbf M' B p e post tot s.2 (bs++zgf (zaz x) size s.1)∧bfr M M' N p v s.2) (λs=>size - s.1) (0,v) rfl
  (λhw2=>⟨_,za0 hw2,M,N,rfl,Nat.le_refl _,hm,Nat.zero_le _,by simpa [zgf] using P,bfr.refl⟩) (λkk s j h1 hI hw2 next=>?_)
 rw [yex];obtain ⟨M1,N1,rfl,hN1,hm1,hi,P1,hfr⟩:=hI;refine zau (λhlt=>?_) (λhge=>?_)
 ·have i1:s.1<size:=by omega
  try simp only [sS]
  refine zex ?_;refine zcz (by omega) (by omega) (zcz (by omega) (by omega) ?_);rw [show (size:Int) - 1 - (s.1:Nat)=((size - 1 - s.1:Nat):Int) by omega];refine znh (a:=8) (by omega) (zzl ?_);refine zab (v:=.int .u8 (zjf (zaz x) (size - 1 - s.1))) rfl ?_;refine zr3 P1 hm1 (by omega) (by rw [List.length_append,zly]; omega) (λv' M5 N5 g1 g2 g3 g4 hw5=>?_);refine zaq (by omega) ?_;refine next (s.1+1,v') _ _ (by simp only; omega) (λhw5=>⟨_,za0 hw5,M5,N5,rfl,by omega,g4,i1,?_,hfr.trans g2 hN1⟩);simp only;rw [zkn,← List.append_assoc];exact g1
 ·try simp only [sS]
  have es:s.1=size:=by omega
  rw [es] at P1;exact λhc=>⟨_,za0 hc,λhw'=>k s.2 M1 N1 P1 hfr hN1 hm1 hw'⟩
theorem zkh {kx:IntKind} {x:Int} {size:Nat} (P:zbf M B p e post tot v bs) (hm:za6 M N) (hB:B≤N) (hs:size≤8) (hl:bs.length+size≤2097152) (k:ztc F M N B p e post tot v bs (zam (zaz x) size) K) :
  cF 197 #[.pointer (some ⟨p,0,none⟩),.int kx x,.int .i64 (size:Nat)] K E ⟨F,M,N⟩:=by
 refine za5 mixed Tryz.func197 (by kernel_rfl) (yvg _ E _ _ _) (λhw=>?_)
 refine yf0 (σ:=Nat×Value) (λs=>.int .i64 (s.1:Nat))
  (λs h'=>∃ M' N',h'=⟨F,M',N'⟩∧N≤N'∧za6 M' N'∧s.1≤size∧zbf M' B p e post tot s.2 (bs++zgf (zaz x) size s.1)∧bfr M M' N p v s.2) (λs=>size - s.1) (0,v) rfl
  (λhw2=>⟨_,za0 hw2,M,N,rfl,Nat.le_refl _,hm,Nat.zero_le _,by simpa [zgf] using P,bfr.refl⟩) (λkk s j h1 hI hw2 next=>?_)
 rw [yey];obtain ⟨M1,N1,rfl,hN1,hm1,hi,P1,hfr⟩:=hI;refine zau (λhlt=>?_) (λhge=>?_)
 ·have i1:s.1<size:=by omega
  try simp only [sS]
  refine zex ?_;refine zcz (by omega) (by omega) (zcz (by omega) (by omega) ?_);rw [show (size:Int) - 1 - (s.1:Nat)=((size - 1 - s.1:Nat):Int) by omega];refine znh (a:=8) (by omega) (zzl ?_);refine zab (v:=.int .u8 (zjf (zaz x) (size - 1 - s.1))) rfl ?_;refine zr3 P1 hm1 (by omega) (by rw [List.length_append,zly]; omega) (λv' M5 N5 g1 g2 g3 g4 hw5=>?_);refine zaq (by omega) ?_;refine next (s.1+1,v') _ _ (by simp only; omega) (λhw5=>⟨_,za0 hw5,M5,N5,rfl,by omega,g4,i1,?_,hfr.trans g2 hN1⟩);simp only;rw [zkn,← List.append_assoc];exact g1
 ·try simp only [sS]
  have es:s.1=size:=by omega
  rw [es] at P1;exact λhc=>⟨_,za0 hc,λhw'=>k s.2 M1 N1 P1 hfr hN1 hm1 hw'⟩
theorem ynt {kx:IntKind} {x:Int} {size:Nat} (P:zbf M B p e post tot v bs) (hm:za6 M N) (hB:B≤N) (hs:size≤8) (hl:bs.length+size≤2097152) (k:ztc F M N B p e post tot v bs (zam (zaz x) size) K) :
  cF 263 #[.pointer (some ⟨p,0,none⟩),.int kx x,.int .i64 (size:Nat)] K E ⟨F,M,N⟩:=by
 refine za5 mixed Tryz.func263 (by kernel_rfl) (yw6 _ E _ _ _) (λhw=>?_)
 refine yg2 (σ:=Nat×Value) (λs=>.int .i64 (s.1:Nat))
  (λs h'=>∃ M' N',h'=⟨F,M',N'⟩∧N≤N'∧za6 M' N'∧s.1≤size∧zbf M' B p e post tot s.2 (bs++zgf (zaz x) size s.1)∧bfr M M' N p v s.2) (λs=>size - s.1) (0,v) rfl
  (λhw2=>⟨_,za0 hw2,M,N,rfl,Nat.le_refl _,hm,Nat.zero_le _,by simpa [zgf] using P,bfr.refl⟩) (λkk s j h1 hI hw2 next=>?_)
 rw [yes];obtain ⟨M1,N1,rfl,hN1,hm1,hi,P1,hfr⟩:=hI;refine zau (λhlt=>?_) (λhge=>?_)
 ·have i1:s.1<size:=by omega
  try simp only [sS]
  refine zex ?_;refine zcz (by omega) (by omega) (zcz (by omega) (by omega) ?_);rw [show (size:Int) - 1 - (s.1:Nat)=((size - 1 - s.1:Nat):Int) by omega];refine znh (a:=8) (by omega) (zzl ?_);refine zab (v:=.int .u8 (zjf (zaz x) (size - 1 - s.1))) rfl ?_;refine zr3 P1 hm1 (by omega) (by rw [List.length_append,zly]; omega) (λv' M5 N5 g1 g2 g3 g4 hw5=>?_);refine zaq (by omega) ?_;refine next (s.1+1,v') _ _ (by simp only; omega) (λhw5=>⟨_,za0 hw5,M5,N5,rfl,by omega,g4,i1,?_,hfr.trans g2 hN1⟩);simp only;rw [zkn,← List.append_assoc];exact g1
 ·try simp only [sS]
  have es:s.1=size:=by omega
  rw [es] at P1;exact λhc=>⟨_,za0 hc,λhw'=>k s.2 M1 N1 P1 hfr hN1 hm1 hw'⟩
end
open Go.MapKept
theorem yd2 {w0 w:World} {h:Hp} {d:Nat} (r:Rep w0 h { w with drawn:=d }) (hd:w0.drawn≤w.drawn):Rep w0 h w :=
 ⟨⟨r.below.os,r.below.tape,r.below.output,r.below.size,r.below.block⟩,hd,r.nx,r.base,r.fr,r.cl,r.ob⟩
structure yl2 (es:Array MapEntry) (clock:Nat):Prop where
 st:Stamped es clock
 ks:∀ x∈es.toList,∃ id:Int,x.key=.int .u32 id∧0≤id∧id<4294967296
 sz:es.size≤1000000
theorem yqy {x:Int} (h0:0≤x) (h1:x<4294967296):(Lit.int .u32 x).wf=true:=by
 simp [Lit.wf,IntKind.min,IntKind.max,IntKind.bits,IntKind.signed]; omega
theorem yfl {bm mb:Nat} {es:Array MapEntry} {clock:Nat} (hE:E [] zcy) (hbm:F bm=some [.map (some mb)]) (hmb:M mb=some (.obj (.map es clock))) (hK:yl2 es clock)
  (k:∀ v' (ss:List Int) M' N',ss.Nodup -> (∀ x:Int,x∈ss↔∃ e∈es.toList,e.key=.int .u32 x) -> own M' N 38 1 v' ss.length (ss.map (Value.int .u32)) -> (∀ q,q<N -> M' q=M q) -> N≤N' -> za6 M' N' -> K v' ⟨F,M',N'⟩) :
  cF 109 #[.func (.func 111) #[] #[.pointer (some ⟨bm,0,none⟩)]] K E ⟨F,M,N⟩:=by
 refine .inl ⟨by kernel_rfl,λw0 w hl r=>?_⟩;have hd0:=hl hE;have hm:za6 M N:=r.wf.m;obtain ⟨q1,q2,q3,hb,_⟩:=r.ob mb _ hmb;have hcell:w.cell? ⟨bm,0,none⟩=some (.map (some mb)):=r.cell (cs:=[.map (some mb)]) (.inl hbm) rfl;have hbw:bm<w.heap.size:=by have := (r.fr bm _ hbm).1; exact Nat.lt_of_lt_of_le this r.nx
 have hrd:∀ e∈es.toList,∀ id,e.key=.int .u32 id -> 0≤id -> id<4294967296 -> WideElems.rd (H:=Unit) Tryz.prog 38 zo8 e=some (.int .u32 id,.lit (.bool true)):=λe he id h1 h2 h3=>by
  unfold WideElems.rd;rw [h1,Maps.keyOf_int_mk Tryz.underlying38 (yqy h2 h3)]
  rfl
 have hfit:WideElems.Fit (H:=Unit) Tryz.prog 38 zo8 es clock:=⟨by have := hK.sz; unfold maxLen; omega,hK.st,λx hx=>let ⟨id,h1,h2,h3⟩:=hK.ks x hx; ⟨_,hrd x hx id h1 h2 h3⟩⟩;have hown:=World.ownsMap_of_fit (w:=w) (b:=mb) hb hfit (R:=zo8) (λ_ _ _ h=>h);generalize hD:(DataW.map ((es.toList.map (WideElems.rg Tryz.prog 38 zo8)).foldr DataW.insert []):DataW Unit)=D0 at hown
 have hsize:Maps.size D0=es.size:=by
  rw [← hD,Maps.size_eq,(WideShapes.sorted_perm _).length_eq,List.length_map,Array.length_toList]
 have hhas:∀ x:Int,Maps.has D0 (.int .u32 x)=true↔∃ e∈es.toList,e.key=.int .u32 x:=λx=>by
  rw [← hD,Maps.has_eq,List.any_eq_true]
  constructor
  ·rintro ⟨p,hp,hs⟩;obtain ⟨e,he,rfl⟩:=List.mem_map.1 (mem_sorted.1 hp);obtain ⟨id,h1,h2,h3⟩:=hK.ks e he;rw [WideElems.rg_of (hrd e he id h1 h2 h3)] at hs;have:id=x:=by simpa [Lit.sameKey] using hs
   exact ⟨e,he,by rw [h1,this]⟩
  ·rintro ⟨e,he,h1⟩;obtain ⟨id,h0,h2,h3⟩:=hK.ks e he;have e1:id=x:=by rw [h0] at h1; simpa using h1
   subst e1;refine ⟨_,mem_sorted.2 (List.mem_map_of_mem he),?_⟩;rw [WideElems.rg_of (hrd e he id h0 h2 h3)]
   simp [Lit.sameKey]
 have hsz:=hK.sz;have hseq:=zzc (H:=Unit) Fence.wide 1 trivial rfl (Nat.le_refl _) bm mb es.size D0 w hbw hcell hown;have hcol:=callsIn_wide.1 (zzg Fence.wide 3 trivial trivial rfl (Nat.le_refl _) 111 #[.pointer (some ⟨bm,0,none⟩)] trivial (Go.Proofs.enters_of Tryz.func111 (by kernel_rfl) rfl) _ (Maps.size D0) (by rw [hsize]; unfold maxLen; omega) (by rw [hsize]; omega) w hseq);refine Calls.mono hcol λe w' ⟨v,ss,he,⟨hn,hall⟩,hrow,hnil,hbl⟩=>?_;subst he;have hall':∀ x:Int,x∈ss↔∃ e∈es.toList,e.key=.int .u32 x:=λx=>(hall x).trans (hhas x);have hNN:N≤w'.heap.size:=Nat.le_trans r.nx hbl.size
 rcases hrow.2 with ⟨rfl,h0⟩ | ⟨g,cap,cur,rfl,hg,hgb,hk1,hk2,hk3,hk4⟩
 ·refine ⟨⟨F,M,w'.heap.size⟩,?_,k _ ss M _ hn hall' ⟨by simp,.inl ⟨rfl,h0⟩⟩ (λ_ _=>rfl) hNN (hm.up hNN)⟩;have lt:∀ q,q<N -> q<w.heap.size:=λq hq=>Nat.lt_of_lt_of_le hq r.nx;refine ⟨r.below.trans ⟨hbl.os,hbl.tape,hbl.output,hbl.size,λq hq=>hbl.block q (Nat.lt_of_lt_of_le hq r.below.size)⟩,by rw [hd0]; exact Nat.zero_le _,Nat.le_refl _,Nat.le_trans r.base hNN,λb cs h=>?_,λb e cs tot h=>?_,λb o h=>?_⟩
  ·obtain ⟨a1,arr,e,z,a2,a3⟩:=r.fr b cs h;exact ⟨Nat.lt_of_lt_of_le a1 hNN,arr,e,z,(hbl.block b (lt b a1)).trans a2,a3⟩
  ·obtain ⟨a1,a2,a3,arr,a4,a5⟩:=r.cl b e cs tot h;exact ⟨Nat.lt_of_lt_of_le a1 hNN,a2,a3,arr,(hbl.block b (lt b a1)).trans a4,a5⟩
  ·obtain ⟨a1,a2,a3,a4,a5⟩:=r.ob b o h;exact ⟨Nat.lt_of_lt_of_le a1 hNN,a2,a3,(hbl.block b (lt b a1)).trans a4,a5⟩
 ·have hgl:g<w'.heap.size:=(Array.getElem?_eq_some_iff.1 hgb).1
  have hFg:F g=none:=by
   cases hF:F g with
   | none=>rfl
   | some cs=>have h8:g<N:=(r.fr g cs hF).1; have h9:N≤w.heap.size:=r.nx; omega
  refine ⟨⟨F,upd M g (some (.cells 38 cur.toList cap)),w'.heap.size⟩,?_,k _ ss _ _ hn hall' ?_ (λq hq=>za4 _ _ (by have h9:N≤w.heap.size:=r.nx; omega)) hNN (λq hq=>(za4 _ _ (by omega)).trans (hm q (by omega)))⟩
  ·refine yd2 (d:=w.drawn) ?_ (by rw [hd0]; exact Nat.zero_le _);refine r.turn (w':={ w' with drawn:=w.drawn }) (b:=g) (Nat.le_trans r.base (Nat.le_trans r.nx hg)) hFg hbl.os hbl.tape hbl.output hbl.size hgl (λq hq hql=>hbl.block q hql) (some _) w'.heap.size hNN (Nat.le_refl _) hgl ⟨cur,hgb,by rw [hk3]; omega,List.prefix_refl _⟩
  ·refine ⟨by simp,.inr ⟨g,cap,cur.toList.drop ss.length,rfl,hk1,hk2,by have h9:N≤w.heap.size:=r.nx; omega,?_⟩⟩;rw [za2,Nat.mul_one]
   congr 2
   rw [← List.take_append_drop ss.length cur.toList]
   congr 1
   ·rw [Nat.mul_one] at hk4; exact hk4
   ·simp
theorem zl7 {k:IntKind} (l:List Int):(ick k l).length=l.length:=by simp [ick]
theorem yr9 {k:IntKind} {l:List Int} {i:Nat} (h:i<l.length):(ick k l)[i]?=some (.int k l[i]):=by simp [ick,h]
theorem zn9 {B:Nat} {e:TypeId} {kd:IntKind} {v:Value} {l:List Int} {K:Value -> zae} (h:own M B e 1 v l.length (ick kd l)) {i:Nat} (hi:i<l.length) (k:∀ p,K p (.int kd l[i]) ⟨F,M,N⟩):pv (iaV none 1 v (.int .i64 (i:Nat))) (λp=>ld false 1 p (K p)) ⟨F,M,N⟩:=by
 rcases h.2 with ⟨rfl,h0⟩ | ⟨b,c,rest,rfl,h1,h2,h3,h4⟩
 ·omega
 ·refine zd0 hi (zg3 (zb6 (zbe h4) ?_) (k _));rw [Nat.zero_add,Nat.mul_one,List.getElem?_append_left (by rw [zl7]; exact hi),yr9 hi]
theorem yar {B:Nat} {e:TypeId} {kd:IntKind} {v:Value} {l:List Int} {K:Value -> zae} {x:Int} (h:own M B e 1 v l.length (ick kd l)) {i:Nat} (hi:i<l.length)
  (k:∀ p M',own M' B e 1 v (l.set i x).length (ick kd (l.set i x)) -> (∀ q,v.ownBlock≠some q -> M' q=M q) -> (∀ n,za6 M n -> za6 M' n) -> K p undef ⟨F,M',N⟩):pv (iaV none 1 v (.int .i64 (i:Nat))) (λp=>st 1 p (.int kd x) (K p)) ⟨F,M,N⟩:=by
 rcases h.2 with ⟨rfl,h0⟩ | ⟨b,c,rest,rfl,h1,h2,h3,h4⟩
 ·omega
 ·refine zd0 hi ?_;have hl:i<(ick kd l).length:=by rw [zl7]; exact hi
  refine yfi (cs':=ick kd (l.set i x)++rest) h4 rfl (List.all_eq_true.1 rfl) (by rw [List.length_append]; omega) ?_ (k _ _ ⟨by rw [zl7,Nat.mul_one],.inr ⟨b,c,rest,by rw [List.length_set],by rw [List.length_set]; exact h1,h2,h3,za2 _ _ _⟩⟩ (λq hq=>za4 _ _ (λe=>hq (by rw [e]; rfl))) (λn hc=>hc.set (hc.lt h4) _));rw [show (Value.int kd x).cells.toList=[Value.int kd x] from rfl,Nat.zero_add,Nat.mul_one,zu8 (by rw [List.length_append]; omega),List.set_append_left _ _ hl]
  congr 1
  unfold ick;rw [List.map_set]
theorem yq4 {a b:Int} (k:∀ N',N≤N' -> (Hp.mk F M N').wf -> K (.bool (decide (a<b))) ⟨F,M,N'⟩) :
  cF 211 #[.int .u32 a,.int .u32 b] K E ⟨F,M,N⟩:=by
 refine za5 mixed Tryz.func211 (by kernel_rfl) (yvj _ E _ _) (λhw=>?_);refine za5 mixed Tryz.func271 (by kernel_rfl) (yqw _ E _) (λhw=>?_);refine zcv rfl ?_;refine λhc=>⟨_,za0 hc,λhw=>?_⟩;try simp only [sS]
 refine zau (λh=>?_) (λh=>?_)
 ·try simp only [sS]
  rw [decide_eq_true h] at k;exact λhc=>⟨_,za0 hc,λhw=>k _ (Nat.le_refl _) hw⟩
 ·try simp only [sS]
  rw [decide_eq_false h] at k;exact λhc=>⟨_,za0 hc,λhw=>k _ (Nat.le_refl _) hw⟩
def zws (m:List Int) (i j:Nat):Prop:=(∀ p q,p<q -> q≤i -> p≠j -> q≠j -> m.getD p 0≤m.getD q 0)∧∀ q,j<q -> q≤i -> m.getD j 0≤m.getD q 0
def upto (m:List Int) (i:Nat):Prop:=∀ p q,p<q -> q<i -> m.getD p 0≤m.getD q 0
theorem yb1 {m:List Int} {i j:Nat} {x:Int} (hi:i<m.length):(m.set i x).getD j 0=if j=i then x else m.getD j 0:=by
 rw [List.getD_eq_getElem?_getD,List.getElem?_set]
 by_cases h:i=j
 ·subst h; rw [if_pos rfl,if_pos hi,if_pos rfl]; rfl
 ·rw [if_neg h,if_neg (λe=>h e.symm),← List.getD_eq_getElem?_getD]
theorem ygf {m:List Int} {i:Nat} (h:upto m i):zws m i i:=⟨λp q h1 h2 _ h4=>h p q h1 (by omega),λq h1 h2=>by omega⟩
theorem yia {m:List Int} {i j:Nat} (h:zws m i (j+1)) (hl:i<m.length) (hj:j+1≤i) (hlt:m.getD (j+1) 0<m.getD j 0):zws ((m.set (j+1) (m.getD j 0)).set j (m.getD (j+1) 0)) i j:=by
 have e:∀ q,((m.set (j+1) (m.getD j 0)).set j (m.getD (j+1) 0)).getD q 0=if q=j then m.getD (j+1) 0 else if q=j+1 then m.getD j 0 else m.getD q 0:=λq=>by
  rw [yb1 (by rw [List.length_set]; omega),yb1 (by omega)]
 refine ⟨λp q h1 h2 h3 h4=>?_,λq h1 h2=>?_⟩
 ·rw [e,e,if_neg h3,if_neg h4]
  by_cases hp:p=j+1
  ·rw [if_pos hp,if_neg (by omega)]; exact h.1 j q (by omega) h2 (by omega) (by omega)
  ·rw [if_neg hp]
   by_cases hq:q=j+1
   ·rw [if_pos hq]; exact h.1 p j (by omega) (by omega) (by omega) (by omega)
   ·rw [if_neg hq]; exact h.1 p q h1 h2 hp hq
 ·rw [e,e,if_pos rfl,if_neg (by omega)]
  by_cases hq:q=j+1
  ·rw [if_pos hq]; omega
  ·rw [if_neg hq]; exact h.2 q (by omega) h2
theorem ygi {m:List Int} {i:Nat} (h:zws m i 0):upto m (i+1):=λp q h1 h2=>by
 by_cases hp:p=0
 ·subst hp; exact h.2 q h1 (by omega)
 ·exact h.1 p q h1 (by omega) hp (by omega)
theorem yjb {m:List Int} {i j:Nat} (h:zws m i (j+1)) (hge:¬ m.getD (j+1) 0<m.getD j 0) (hj:j+1≤i):upto m (i+1):=λp q h1 h2=>by
 by_cases hp:p=j+1
 ·subst hp; exact h.2 q h1 (by omega)
 ·by_cases hq:q=j+1
  ·subst hq
   by_cases hpj:p=j
   ·subst hpj; omega
   ·have := h.1 p j (by omega) (by omega) hp (by omega); omega
  ·exact h.1 p q h1 (by omega) hp hq
theorem yie {m:List Int} {j:Nat} (h:j+1<m.length):((m.set (j+1) (m.getD j 0)).set j (m.getD (j+1) 0)).Perm m:=by
 have h1:j<m.length:=by omega
 have e1:m.getD j 0=m[j]:=zdq h1 0;have e2:m.getD (j+1) 0=m[j+1]:=zdq h 0
 have hm:m=m.take j++m[j]::m[j+1]::m.drop (j+2):=by
  rw [← List.drop_eq_getElem_cons h,← List.drop_eq_getElem_cons h1,List.take_append_drop]
 have hs:(m.set (j+1) (m.getD j 0)).set j (m.getD (j+1) 0)=m.take j++m[j+1]::m[j]::m.drop (j+2):=by
  rw [e1,e2]
  apply List.ext_getElem?
  intro q;rw [List.getElem?_set,List.getElem?_set]
  rcases Nat.lt_trichotomy q j with hq | hq | hq
  ·rw [if_neg (by omega),if_neg (by omega),List.getElem?_append_left (by rw [List.length_take]; omega),List.getElem?_take,if_pos hq]
  ·subst hq;rw [if_pos rfl,if_pos (by rw [List.length_set]; omega),List.getElem?_append_right (by rw [List.length_take]; omega)]
   simp [List.length_take,Nat.min_eq_left (Nat.le_of_lt h1)]
  ·by_cases hq2:q=j+1
   ·subst hq2;rw [if_neg (by omega),if_pos rfl,if_pos h,List.getElem?_append_right (by rw [List.length_take]; omega)]
    simp [List.length_take,Nat.min_eq_left (Nat.le_of_lt h1)]
   ·rw [if_neg (by omega),if_neg (by omega),List.getElem?_append_right (by rw [List.length_take]; omega)];rw [List.length_take,Nat.min_eq_left (by omega)];obtain ⟨d,hd⟩:∃ d,q - j=d+2:=⟨q - j - 2,by omega⟩;rw [hd,List.getElem?_cons_succ,List.getElem?_cons_succ,List.getElem?_drop]
    congr 1; omega
 rw [hs]
 conv=>rhs; rw [hm]
 exact List.Perm.append_left _ (List.Perm.swap _ _ _)
theorem yl9 {B:Nat} {v:Value} {l:List Int} (hv:own M B 38 1 v l.length (ick .u32 l)) (hl:l.length≤1000000) (h0:0<l.length)
  (k:∀ l' M' N',l'.Perm l -> upto l' l.length -> own M' B 38 1 v l'.length (ick .u32 l') -> (∀ q,v.ownBlock≠some q -> M' q=M q) -> N≤N' -> za6 M' N' -> (Hp.mk F M' N').wf -> K (.tuple #[]) ⟨F,M',N'⟩) :
  cF 205 #[v,.int .i64 0,.int .i64 (l.length:Nat)] K E ⟨F,M,N⟩:=by
 refine za5 mixed Tryz.func205 (by kernel_rfl) (ys5 _ E _ _ _) (λhw=>?_);have hm:za6 M N:=hw.m;refine zaq (a:=0) (by omega) ?_
 refine zv8 (σ:=Nat) (λi=>.int .i64 (i:Nat)) (λi h=>∃ M' N' l',h=⟨F,M',N'⟩∧N≤N'∧own M' B 38 1 v l'.length (ick .u32 l')∧l'.Perm l∧upto l' i∧(∀ q,v.ownBlock≠some q -> M' q=M q)∧za6 M' N'∧1≤i∧i≤l.length) (λi=>l.length - i) 1 rfl
  (λhw1=>⟨_,za0 hw1,M,N,l,rfl,Nat.le_refl _,hv,List.Perm.refl _,λp q h1 h2=>by omega,λ_ _=>rfl,hm,Nat.le_refl _,h0⟩) (λkk i j h1 hI hw1 next=>?_)
 rw [zvf];obtain ⟨M1,N1,l1,rfl,hN1,ho1,hp1,hu1,hM1,hm1,hi1,hi2⟩:=hI;have hlen1:=hp1.length_eq;refine zau (λhlt=>?_) (λhge=>?_)
 ·have i1:i<l.length:=by omega
  try simp only [sS]
  refine zmv (σ:=Nat) (λj=>.int .i64 (j:Nat)) (λj h=>∃ M' N' l',h=⟨F,M',N'⟩∧N≤N'∧own M' B 38 1 v l'.length (ick .u32 l')∧l'.Perm l∧zws l' i j∧(∀ q,v.ownBlock≠some q -> M' q=M q)∧za6 M' N'∧j≤i) (λj=>j) i rfl
   (λhw2=>⟨_,za0 hw2,M1,N1,l1,rfl,hN1,ho1,hp1,ygf hu1,hM1,hm1,Nat.le_refl _⟩) (λk2 j jj h2 hI2 hw2 next2=>?_)
  rw [zmo];obtain ⟨M2,N2,l2,rfl,hN2,ho2,hp2,hu2,hM2,hm2,hj⟩:=hI2;have hlen2:=hp2.length_eq;refine zby (λhj0=>?_) (λhj0=>?_)
  ·obtain ⟨j',rfl⟩:∃ j',j=j'+1:=⟨j - 1,by omega⟩;have b1:j'+1<l2.length:=by omega
   have b2:j'<l2.length:=by omega
   try simp only [sS]
   refine zn9 ho2 b1 λ_=>?_;try simp only [sS]
   refine zkz (a:=j'+1) (b:=1) (by omega) (by omega) ?_;rw [Nat.add_sub_cancel];refine zn9 ho2 b2 λ_=>?_;try simp only [sS]
   refine yq4 (λN3 hN3 hw3=>?_);have e1:l2.getD j' 0=l2[j']:=zdq b2 0;have e2:l2.getD (j'+1) 0=l2[j'+1]:=zdq b1 0
   by_cases hlt2:l2[j'+1]<l2[j']
   ·rw [decide_eq_true hlt2];try simp only [sS]
    refine zkz (a:=j'+1) (b:=1) (by omega) (by omega) ?_;rw [Nat.add_sub_cancel];refine zkz (a:=j'+1) (b:=1) (by omega) (by omega) ?_;rw [Nat.add_sub_cancel];refine zn9 ho2 b2 λ_=>?_;refine zn9 ho2 b1 λ_=>?_;refine yar ho2 b1 λ_ M4 ho4 hM4 hm4=>?_;refine yar ho4 (by rw [List.length_set]; exact b2) λ_ M5 ho5 hM5 hm5=>?_;refine zkz (a:=j'+1) (b:=1) (by omega) (by omega) ?_;rw [Nat.add_sub_cancel];rw [← e1,← e2] at ho5;refine next2 j' _ _ (by omega) (λhw6=>⟨_,za0 hw6,M5,N3,_,rfl,by omega,ho5,(yie b1).trans hp2,yia hu2 (by omega) hj (by omega),λq hq=>(hM5 q hq).trans ((hM4 q hq).trans (hM2 q hq)),hm5 _ (hm4 _ (hm2.up hN3)),by omega⟩)
   ·rw [decide_eq_false hlt2];try simp only [sS]
    refine zaq (by omega) ?_;exact next (i+1) _ _ (by omega) (λhw6=>⟨_,za0 hw6,M2,N3,l2,rfl,by omega,ho2,hp2,yjb hu2 (by omega) hj,hM2,hm2.up hN3,by omega,i1⟩)
  ·have hj0':j=0:=by omega
   subst hj0';try simp only [sS]
   refine zaq (by omega) ?_;exact next (i+1) _ _ (by omega) (λhw6=>⟨_,za0 hw6,M2,N2,l2,rfl,hN2,ho2,hp2,ygi hu2,hM2,hm2,by omega,i1⟩)
 ·try simp only [sS]
  exact λhc=>⟨_,za0 hc,λhw'=>k l1 M1 N1 hp1 (by rw [show l.length=i by omega]; exact hu1) ho1 hM1 hN1 hm1 hw'⟩
theorem yi3 {n:Nat} (hn:n≤12) (k:∀ r N',N≤N' -> (Hp.mk F M N').wf -> K r ⟨F,M,N'⟩) :
  cF 155 #[.int .u64 (n:Nat)] K E ⟨F,M,N⟩:=by
 refine za5 mixed Tryz.func155 (by kernel_rfl) (ywd _ E _) (λhw=>?_);refine zan ?_;refine za5 mixed Tryz.func215 (by kernel_rfl) (yyg _ E _) (λhw=>?_);refine zrb (by omega) ?_;try simp only [sS]
 rw [ymi];refine zrb (by omega) ?_;try simp only [sS]
 rw [yfs];refine zrb (by omega) ?_;try simp only [sS]
 rw [yas];have:n=0∨n=1∨n=2∨n=3∨n=4∨n=5∨n=6∨n=7∨n=8∨n=9∨n=10∨n=11∨n=12:=by omega
 rcases this with rfl | rfl | rfl | rfl | rfl | rfl | rfl | rfl | rfl | rfl | rfl | rfl | rfl <;>
  exact zab rfl (zab rfl (zab rfl (zab rfl (λhc=>⟨_,za0 hc,λhw' hc'=>⟨_,za0 hc',λhw''=>k _ _ (Nat.le_refl _) hw''⟩⟩))))
theorem yhf {v:Value} (k:(Hp.mk F M N).wf -> K (.tuple #[]) ⟨F,M,N⟩) :
  cF 205 #[v,.int .i64 0,.int .i64 0] K E ⟨F,M,N⟩:=by
 refine za5 mixed Tryz.func205 (by kernel_rfl) (ys5 _ E _ _ _) (λhw=>?_);refine zaq (a:=0) (by omega) ?_
 refine zv8 (σ:=Nat) (λi=>.int .i64 (i:Nat)) (λi h=>h=⟨F,M,N⟩∧1≤i) (λi=>0) 1 rfl
  (λhw1=>⟨_,za0 hw1,rfl,Nat.le_refl _⟩) (λkk i j h1 hI hw1 next=>?_)
 rw [zvf];obtain ⟨rfl,hi⟩:=hI;refine zkd (by omega) ?_;try simp only [sS]
 exact λhc=>⟨_,za0 hc,k⟩
theorem yoh {B:Nat} {v:Value} {l:List Int} (hv:own M B 38 1 v l.length (ick .u32 l)) (hl:l.length≤12)
  (k:∀ l' M' N',l'.Perm l -> upto l' l.length -> own M' B 38 1 v l'.length (ick .u32 l') -> (∀ q,v.ownBlock≠some q -> M' q=M q) -> N≤N' -> za6 M' N' -> (Hp.mk F M' N').wf -> K (.tuple #[]) ⟨F,M',N'⟩) :
  cF 110 #[v] K E ⟨F,M,N⟩:=by
 refine za5 mixed Tryz.func110 (by kernel_rfl) (zp0 _ E _) (λhw=>?_);have hm:za6 M N:=hw.m;have hlv:zac v=some (.int .i64 (l.length:Nat)):=by obtain ⟨a,c,e,_⟩:=hv.form; rw [e]; rfl
 refine zab hlv ?_;refine zab (v:=.int .u64 (l.length:Nat)) (by simp only [cvV]; rw [yj7 (by omega) (by omega)]) ?_;refine yi3 hl (λr N1 hN1 hw1=>?_);refine za5 mixed Tryz.func154 (by kernel_rfl) (ytg _ E _ _ _ _) (λhw=>?_)
 refine ycf (σ:=Unit) (λ_=>.int .i64 0) (λ_=>.int .i64 (l.length:Nat)) (λ_=>r) (λ_=>.bool true) (λ_=>.bool true) (λ_ h=>h=⟨F,M,N1⟩) (λ_=>0) () rfl rfl rfl rfl rfl
  (λhw2=>⟨_,za0 hw2,rfl⟩) (λkk s j h1 hI hw2 next=>?_)
 rw [yal];subst hI;refine zkz (a:=l.length) (b:=0) (by omega) (by omega) ?_;refine yn2 (by omega) ?_;try simp only [sS]
 by_cases h0:0<l.length
 ·refine yl9 hv (by omega) h0 (λl' M2 N2 q1 q2 q3 q4 q5 q6 q7=>?_);exact λhc=>⟨_,za0 hc,λhw' hc'=>⟨_,za0 hc',λhw''=>k l' M2 N2 q1 q2 q3 q4 (by omega) q6 hw''⟩⟩
 ·have e0:l=[]:=List.eq_nil_of_length_eq_zero (by omega);subst e0;refine yhf (λhw3=>?_);exact λhc=>⟨_,za0 hc,λhw' hc'=>⟨_,za0 hc',λhw''=>k [] M N1 (List.Perm.refl _) (λp q h1 h2=>by simp at h2) hv (λ_ _=>rfl) hN1 (hm.up hN1) hw''⟩⟩
def zqx (l:List Int):Prop:=l.Pairwise (· < ·)
theorem yfq {l:List Int} (h:upto l l.length) (hn:l.Nodup):zqx l:=by
 unfold zqx;rw [List.pairwise_iff_getElem];intro i j hi hj hij;have h1:=h i j hij hj;rw [zdq hi,zdq hj] at h1;have h2:l[i]≠l[j]:=List.pairwise_iff_getElem.1 hn i j hi hj hij;omega
theorem yit:∀ {a b:List Int},zqx a -> zqx b -> (∀ x,x∈a↔x∈b) -> a=b:=by
 intro a b ha hb h;have na:a.Nodup:=ha.imp (λ{x y} h=>by omega);have nb:b.Nodup:=hb.imp (λ{x y} h=>by omega);have hp:a.Perm b:=(List.perm_ext_iff_of_nodup na nb).2 h;exact hp.eq_of_pairwise (λx y _ _ h1 h2=>by omega) ha hb
theorem zo9 {α:Type}:∀ {a b:List α},a.Nodup -> (∀ x∈a,x∈b) -> a.length≤b.length
 | [],b,_,_=>Nat.zero_le _
 | x::a,b,hn,hs=>by
  obtain ⟨s,t,rfl⟩:=List.append_of_mem (hs x List.mem_cons_self);obtain ⟨h1,h2⟩:=List.pairwise_cons.1 hn
  have := zo9 (b:=s++t) h2 (λy hy=>by
   have h3:=hs y (List.mem_cons_of_mem _ hy);have h4:y≠x:=λe=>h1 y hy e.symm;simp only [List.mem_append,List.mem_cons] at h3 ⊢
   rcases h3 with h3 | h3 | h3
   ·exact .inl h3
   ·exact absurd h3 h4
   ·exact .inr h3)
  simp only [List.length_append,List.length_cons] at this ⊢;omega
theorem yj2 {bm mb:Nat} {es:Array MapEntry} {clock:Nat} (hE:E [] zcy) (hbm:F bm=some [.map (some mb)]) (hmb:M mb=some (.obj (.map es clock))) (hK:yl2 es clock) (h12:es.size≤12)
  (k:∀ v' (l:List Int) M' N',zqx l -> (∀ x:Int,x∈l↔∃ e∈es.toList,e.key=.int .u32 x) -> own M' N 38 1 v' l.length (ick .u32 l) -> (∀ q,q<N -> M' q=M q) -> N≤N' -> za6 M' N' -> (Hp.mk F M' N').wf -> K v' ⟨F,M',N'⟩) :
  cF 55 #[.func (.func 111) #[] #[.pointer (some ⟨bm,0,none⟩)]] K E ⟨F,M,N⟩:=by
 refine za5 mixed Tryz.func55 (by kernel_rfl) (t55 _ E _) (λhw=>?_);refine yfl hE hbm hmb hK (λv ss M1 N1 hn hall ho hM1 hN1 hm1=>?_)
 have hlen:ss.length≤12:=by
  have hsub:∀ x∈ss,(Value.int .u32 x)∈es.toList.map (·.key):=λx hx=>by
   obtain ⟨e,he,h1⟩:=(hall x).1 hx;exact List.mem_map.2 ⟨e,he,h1⟩
  have h1:(ss.map (Value.int .u32)).Nodup:=by
   refine List.pairwise_map.2 (hn.imp (λ{a b} h e=>h (by simpa using e)))
  have h2:=zo9 h1 (λv hv=>by
   obtain ⟨x,hx,rfl⟩:=List.mem_map.1 hv;exact hsub x hx)
  simp only [List.length_map,Array.length_toList] at h2;omega
 refine yoh (l:=ss) ho hlen (λl M2 N2 hp hu ho2 hM2 hN2 hm2 hw2=>?_);refine λhc=>⟨_,za0 hc,λhw'=>k v l M2 N2 (yfq (by rw [hp.length_eq]; exact hu) (hp.nodup_iff.2 hn)) (λx=>(hp.mem_iff).trans (hall x)) ho2 (λq hq=>(hM2 q (λe=>by have := (ho.ge q e).1; omega)).trans (hM1 q hq)) (by omega) hm2 hw'⟩
structure yfj (F:Nat -> Option (List Value)) (M:Nat -> Option zah) (g:Nat) (dv lv:Value) (l:List Dm) (h:List En):Prop where
 gg:M g=some (.cells 220 [dv,lv] 2)
 dd:zeb F dv l
 ll:zcb F lv h
theorem yfj.keep {g:Nat} {dv lv:Value} {l:List Dm} {h:List En} (hC:yfj F M g dv lv l h) (hF:za9 F F') (hM:M' g=M g):yfj F' M' g dv lv l h:=⟨hM.trans hC.gg,hC.dd.mono hF,hC.ll.mono hF⟩
theorem zgi.keep {B g:Nat} {hv dv:Value} {rows:List (List Value)} {l:List Dm} {h:List En} (hC:zgi F M B g hv dv rows l h) (hF:za9 F F') (hM:∀ q,q=g∨hv.ownBlock=some q -> M' q=M q):zgi F' M' B g hv dv rows l h :=
 ⟨(hM g (.inl rfl)).trans hC.gg,hC.gB,hC.oo.keep (λq h=>hM q (.inr h)) (Nat.le_refl _),hC.rr.mono λ_ _ h=>h.mono hF,hC.vg,hC.dd.mono hF,hC.rs⟩
theorem zgi.lt {B g:Nat} {hv dv:Value} {rows:List (List Value)} {l:List Dm} {h:List En} (hC:zgi F M B g hv dv rows l h) (hm:za6 M N):∀ q,q=g∨hv.ownBlock=some q -> B≤q∧q<N:=λq hq=>by
 rcases hq with rfl | hq
 ·exact ⟨hC.gB,hm.lt hC.gg⟩
 ·exact ⟨(hC.oo.ge q hq).1,hC.oo.lt hm q hq⟩
theorem yjf {b c:Nat} {x v:Int} (h1:F b=some [.int .i64 x]) (h2:F c=some [.slice (some ⟨b,0,none⟩) 1 1,.int .i64 v]):zbp F (.slice (some ⟨c,0,none⟩) 1 1) [([x],v)] :=
 ⟨[[.slice (some ⟨b,0,none⟩) 1 1,.int .i64 v]],znd h2 rfl (by decide),yi4 (yqp h1) (by simp) (zaf.nil _ _)⟩
theorem ze6.at {cs:List Value} {e:En} (h:ze6 F cs e):∃ v,cs=[.int .u32 e.1,v]∧zbp F v e.2:=let ⟨v,h1,h2,_⟩:=h; ⟨v,h1,h2⟩
def yz1 (es:List En) (i:Nat):Int:=if h:0<i∧i≤es.length then es[i - 1].1 else 0
open Go.MapKept
structure Bt where
 st:Int
 tm:Int
 ns:List Int
 fs:List Fc
def Bt.no:Bt:=⟨0,0,[],[]⟩
def btD (F:Nat -> Option (List Value)) (v:Value) (b:Bt):Prop:=∃ nv fv,v=.agg #[.int .u8 b.st,.int .u32 b.tm,nv,fv]∧sF F 1 nv b.ns.length (ic b.ns)∧zbp F fv b.fs
theorem btD.mono {v:Value} {b:Bt} (h:btD F v b) (hF:za9 F F'):btD F' v b:=let ⟨nv,fv,e,h1,h2⟩:=h; ⟨nv,fv,e,h1.mono hF,h2.mono hF⟩
theorem zbp.nil {c:Nat}:zbp F (.slice none 0 c) []:=⟨[],sF.nil _ _ _,zaf.nil _ _⟩
theorem btD.no:btD F (.agg #[.int .u8 0,.int .u32 0,.slice none 0 0,.slice none 0 0]) Bt.no:=⟨_,_,rfl,sF.nil _ _ _,zbp.nil⟩
abbrev Bts:=List (Int×Bt)
def zal (bs:Bts) (id:Int):Bt:=match bs.find? λx=>decide (x.1=id) with | some x=>x.2 | none=>Bt.no
def zpm (bs:Bts) (id:Int):Bool:=bs.any λx=>decide (x.1=id)
def zhz (bs:Bts) (id:Int) (b:Bt):Bts:=if zpm bs id=true then bs.map (λx=>if x.1=id then (id,b) else x) else bs++[(id,b)]
theorem zev {bs:Bts} {id:Int}:zpm bs id=true↔∃ x∈bs,x.1=id:=by
 unfold zpm;rw [List.any_eq_true];exact ⟨λ⟨x,hx,h⟩=>⟨x,hx,of_decide_eq_true h⟩,λ⟨x,hx,h⟩=>⟨x,hx,decide_eq_true h⟩⟩
theorem zz6 {bs:Bts} {id:Int} (h:∀ x∈bs,x.1≠id):zal bs id=Bt.no:=by
 unfold zal;rw [List.find?_eq_none.2 (λx hx=>by simpa using h x hx)]
theorem ykt {bs:Bts} {j:Nat} {x:Int×Bt} (hn:(bs.map (·.1)).Nodup) (hj:bs[j]?=some x):zal bs x.1=x.2:=by
 unfold zal;cases hf:bs.find? (λy=>decide (y.1=x.1)) with
 | none=>exact absurd (List.find?_eq_none.1 hf x (List.mem_of_getElem? hj)) (by simp)
 | some y=>
  have h1:y.1=x.1:=by simpa using List.find?_some hf
  have h2:=List.mem_of_find?_eq_some hf;obtain ⟨i,hi,hy⟩:=List.mem_iff_getElem.1 h2;obtain ⟨hj',hx⟩:=List.getElem?_eq_some_iff.1 hj
  have:i=j:=by
   rcases Nat.lt_trichotomy i j with h | h | h
   ·have := List.pairwise_iff_getElem.1 hn i j (by simpa using hi) (by simpa using hj') h;simp only [List.getElem_map,hy,hx] at this;exact absurd h1 this
   ·exact h
   ·have := List.pairwise_iff_getElem.1 hn j i (by simpa using hj') (by simpa using hi) h;simp only [List.getElem_map,hy,hx] at this;exact absurd h1.symm this
  subst this;rw [← hy,hx]
theorem yis {bs:Bts} {id:Int} {b:Bt}:(zhz bs id b).map (·.1)=if zpm bs id=true then bs.map (·.1) else bs.map (·.1)++[id]:=by
 unfold zhz
 split
 ·rw [List.map_map];refine List.map_congr_left λx _=>?_;simp only [Function.comp]
  split
  ·rename_i h; exact h.symm
  ·rfl
 ·simp
theorem zu7 {bs:Bts} {id:Int} {b:Bt} (h:(bs.map (·.1)).Nodup):((zhz bs id b).map (·.1)).Nodup:=by
 rw [yis]
 split
 ·exact h
 ·rename_i hh
  refine List.nodup_append.2 ⟨h,by simp,λa ha c hc=>?_⟩;simp only [List.mem_singleton] at hc;subst hc;obtain ⟨x,hx,rfl⟩:=List.mem_map.1 ha;exact λe=>hh (zev.2 ⟨x,hx,e⟩)
theorem yco {bs:Bts} {id:Int} {b:Bt} {x:Int×Bt} (h:x∈zhz bs id b):x=(id,b)∨(x∈bs∧x.1≠id):=by
 unfold zhz at h
 split at h
 ·obtain ⟨y,hy,rfl⟩:=List.mem_map.1 h
  split
  ·exact .inl rfl
  ·rename_i h1; exact .inr ⟨hy,h1⟩
 ·rename_i hh
  rcases List.mem_append.1 h with h1 | h1
  ·exact .inr ⟨h1,λe=>hh (zev.2 ⟨x,h1,e⟩)⟩
  ·exact .inl (List.mem_singleton.1 h1)
structure zfs (F:Nat -> Option (List Value)) (es:Array MapEntry) (bs:Bts):Prop where
 len:es.size=bs.length
 ea:∀ (j:Nat) (e:MapEntry) (x:Int×Bt),es.toList[j]?=some e -> bs[j]?=some x -> e.key=.int .u32 x.1∧btD F e.val x.2∧e.born=j
 nd:(bs.map (·.1)).Nodup
 rg:∀ x∈bs,0≤x.1∧x.1<4294967296
theorem zfs.mono {es:Array MapEntry} {bs:Bts} (h:zfs F es bs) (hF:za9 F F'):zfs F' es bs:=⟨h.len,λj e x h1 h2=>let ⟨a,b,c⟩:=h.ea j e x h1 h2; ⟨a,b.mono hF,c⟩,h.nd,h.rg⟩
theorem zfs.nil:zfs F #[] []:=⟨rfl,λj e x h=>by simp at h,List.nodup_nil,λx hx=>by simp at hx⟩
theorem zfs.get {es:Array MapEntry} {bs:Bts} (h:zfs F es bs) {j:Nat} {e:MapEntry} (hj:es.toList[j]?=some e):∃ x,bs[j]?=some x∧e.key=.int .u32 x.1∧btD F e.val x.2∧e.born=j:=by
 have hl:j<bs.length:=by have := (List.getElem?_eq_some_iff.1 hj).1; rw [Array.length_toList,h.len] at this; exact this
 exact ⟨bs[j],List.getElem?_eq_getElem hl,h.ea j e _ hj (List.getElem?_eq_getElem hl)⟩
theorem zfs.keys {es:Array MapEntry} {bs:Bts} (h:zfs F es bs):es.toList.map (·.key)=bs.map λx=>Value.int .u32 x.1:=by
 refine List.ext_getElem? λj=>?_;rw [List.getElem?_map,List.getElem?_map];cases hj:es.toList[j]? with
 | none=>
  have:bs[j]?=none:=by
   rw [List.getElem?_eq_none_iff] at hj ⊢;rw [Array.length_toList,h.len] at hj; exact hj
  rw [this]; rfl
 | some e=>
  obtain ⟨x,hx,h1,_⟩:=h.get hj;rw [hx];simp only [Option.map_some,h1]
theorem zfs.borns {es:Array MapEntry} {bs:Bts} (h:zfs F es bs):es.toList.map (·.born)=List.range bs.length:=by
 refine List.ext_getElem? λj=>?_;rw [List.getElem?_map];cases hj:es.toList[j]? with
 | none=>
  rw [List.getElem?_eq_none_iff,Array.length_toList,h.len] at hj;rw [List.getElem?_eq_none (by rw [List.length_range]; exact hj)]; rfl
 | some e=>
  obtain ⟨x,hx,_,_,h1⟩:=h.get hj;have hl:=(List.getElem?_eq_some_iff.1 hx).1;rw [List.getElem?_range hl];simp only [Option.map_some,h1]
theorem zfs.k {es:Array MapEntry} {bs:Bts} (h:zfs F es bs) (hl:bs.length≤1000000):yl2 es bs.length:=by
 refine ⟨⟨λx hx=>?_,?_,?_⟩,λx hx=>?_,by rw [h.len]; exact hl⟩
 ·obtain ⟨j,hj⟩:=List.mem_iff_getElem?.1 hx;obtain ⟨y,hy,_,_,hb⟩:=h.get hj;have := (List.getElem?_eq_some_iff.1 hy).1;omega
 ·rw [h.borns]; exact List.nodup_range
 ·rw [h.keys];have := h.nd;refine List.pairwise_map.2 ((List.pairwise_map.1 this).imp λ{a b} hne e=>hne (by simpa using e))
 ·obtain ⟨j,hj⟩:=List.mem_iff_getElem?.1 hx;obtain ⟨y,hy,h1,_⟩:=h.get hj;have := h.rg y (List.mem_of_getElem? hy);exact ⟨y.1,h1,this⟩
theorem zfs.isKey {es:Array MapEntry} {bs:Bts} (h:zfs F es bs):∀ x∈es.toList,IsKey (.int .u32) x.key:=λx hx=>by
 obtain ⟨j,hj⟩:=List.mem_iff_getElem?.1 hx;obtain ⟨y,hy,h1,_⟩:=h.get hj;rw [h1]; trivial
theorem yad:Tryz.prog.underlying 56=some (.map 38 154):=Tryz.underlying56
theorem yeo (w:World):(zeroValue 154).run Tryz.prog w=.ok (.agg #[.int .u8 0,.int .u32 0,.slice none 0 0,.slice none 0 0]) w:=by kernel_rfl
theorem zqy {mb:Nat} {es:Array MapEntry} {clock:Nat} {bs:Bts} {id:Int} (hM:M mb=some (.obj (.map es clock))) (hd:zfs F es bs) (k:∀ v,btD F v (zal bs id) -> K v ⟨F,M,N⟩) :
  lkp Tryz.prog 56 (.map (some mb)) (.int .u32 id) false K ⟨F,M,N⟩:=by
 refine ysx yad Tryz.underlying38 yeo (d:=.int .u32) rfl hd.isKey hM (λhmiss=>?_) (λj x hj hx=>?_)
 ·refine k _ ?_;rw [zz6 (λy hy e=>?_)]
  ·exact btD.no
  ·obtain ⟨j,hj⟩:=List.mem_iff_getElem?.1 hy;have hl:j<es.toList.length:=by rw [Array.length_toList,hd.len]; exact (List.getElem?_eq_some_iff.1 hj).1
   have h1:=(hd.ea j _ y (List.getElem?_eq_getElem hl) hj).1;exact hmiss _ (List.getElem_mem hl) (by rw [h1,e])
 ·obtain ⟨y,hy,h1,h2,_⟩:=hd.get hj;have e:y.1=id:=by rw [h1] at hx; simpa using hx
  refine k _ ?_;rw [← e,ykt hd.nd hy]; exact h2
theorem yg5 {mb:Nat} {es:Array MapEntry} {bs:Bts} {id:Int} {v:Value} {b:Bt} (hM:M mb=some (.obj (.map es bs.length))) (hd:zfs F es bs) (hb:btD F v b) (h0:0≤id) (h1:id<4294967296)
  (k:∀ es',zfs F es' (zhz bs id b) -> K undef ⟨F,upd M mb (some (.obj (.map es' (zhz bs id b).length))),N⟩) :
  mup Tryz.prog 56 (.map (some mb)) (.int .u32 id) v K ⟨F,M,N⟩:=by
 refine yxx yad Tryz.underlying38 (d:=.int .u32) rfl hd.isKey hM (λhmiss=>?_) (λj x hj hx=>?_)
 ·have hno:¬ zpm bs id=true:=λh=>by
   obtain ⟨y,hy,e⟩:=zev.1 h;obtain ⟨j,hj⟩:=List.mem_iff_getElem?.1 hy;have hl:j<es.toList.length:=by rw [Array.length_toList,hd.len]; exact (List.getElem?_eq_some_iff.1 hj).1
   have h2:=(hd.ea j _ y (List.getElem?_eq_getElem hl) hj).1;exact hmiss _ (List.getElem_mem hl) (by rw [h2,e])
  have e:zhz bs id b=bs++[(id,b)]:=by unfold zhz; rw [if_neg hno]
  have hl:(zhz bs id b).length=bs.length+1:=by rw [e]; simp
  have hel:es.toList.length=bs.length:=by rw [Array.length_toList,hd.len]
  have := k (es.push ⟨.int .u32 id,v,bs.length⟩) ⟨?_,λi e' x h3 h4=>?_,zu7 hd.nd,λx hx=>?_⟩
  ·rw [hl] at this; exact this
  ·rw [Array.size_push,hl,hd.len]
  ·rw [e] at h4;rw [Array.toList_push] at h3
   rcases Nat.lt_or_ge i bs.length with hi | hi
   ·rw [List.getElem?_append_left (by rw [Array.length_toList,hd.len]; exact hi)] at h3;rw [List.getElem?_append_left hi] at h4;exact hd.ea i e' x h3 h4
   ·rw [List.getElem?_append_right (by rw [hel]; exact hi),hel] at h3;rw [List.getElem?_append_right hi] at h4;obtain ⟨hi2,h5⟩:=List.getElem?_eq_some_iff.1 h4;have hz:i - bs.length=0:=by simp at hi2; omega
    rw [hz] at h3 h4
    simp at h3 h4
    subst h3; subst h4;exact ⟨rfl,hb,by simp only; omega⟩
  ·rcases yco hx with rfl | ⟨h3,_⟩
   ·exact ⟨h0,h1⟩
   ·exact hd.rg x h3
 ·obtain ⟨y,hy,h2,h3,h4⟩:=hd.get hj;have e:y.1=id:=by rw [h2] at hx; simpa using hx
  have hyes:zpm bs id=true:=zev.2 ⟨y,List.mem_of_getElem? hy,e⟩;have es1:zhz bs id b=bs.map (λx=>if x.1=id then (id,b) else x):=by unfold zhz; rw [if_pos hyes]
  have hl:(zhz bs id b).length=bs.length:=by rw [es1]; simp
  have hjl:=(List.getElem?_eq_some_iff.1 hy).1;have := k (es.modify j (λe'=>{ e' with key:=.int .u32 id,val:=v })) ⟨by rw [Array.size_modify,hl,hd.len],λi e' x h5 h6=>?_,zu7 hd.nd,λx hx=>?_⟩
  ·rw [hl] at this; exact this
  ·rw [es1,List.getElem?_map] at h6;rw [Array.getElem?_toList,Array.getElem?_modify] at h5;cases hbi:bs[i]? with
   | none=>rw [hbi] at h6; simp at h6
   | some z=>
    rw [hbi] at h6;simp only [Option.map_some,Option.some.injEq] at h6;have hil:=(List.getElem?_eq_some_iff.1 hbi).1;have hei:es.toList[i]?=some (es.toList[i]'(by rw [Array.length_toList,hd.len]; exact hil)):=List.getElem?_eq_getElem _;obtain ⟨z1,z2,z3⟩:=hd.ea i _ z hei hbi
    by_cases hij:j=i
    ·subst hij;rw [if_pos rfl] at h5;rw [← Array.getElem?_toList,hei] at h5;simp only [Option.map_some,Option.some.injEq] at h5;have hz:z=y:=by rw [hbi] at hy; simpa using hy
     rw [hz,if_pos e] at h6;subst h5; subst h6;exact ⟨rfl,hb,z3⟩
    ·rw [if_neg hij,← Array.getElem?_toList,hei] at h5;simp only [Option.some.injEq] at h5
     have hz:z.1≠id:=λe2=>by
      have hne:i≠j:=λe3=>hij e3.symm;have hp:=hd.nd
      rcases Nat.lt_or_gt_of_ne hne with h | h
      ·have := List.pairwise_iff_getElem.1 hp i j (by simpa using hil) (by simpa using hjl) h;rw [List.getElem_map,List.getElem_map,(List.getElem?_eq_some_iff.1 hbi).2,(List.getElem?_eq_some_iff.1 hy).2] at this;exact this (by rw [e2,e])
      ·have := List.pairwise_iff_getElem.1 hp j i (by simpa using hjl) (by simpa using hil) h;rw [List.getElem_map,List.getElem_map,(List.getElem?_eq_some_iff.1 hbi).2,(List.getElem?_eq_some_iff.1 hy).2] at this;exact this (by rw [e2,e])
     rw [if_neg hz] at h6;subst h5; subst h6;exact ⟨z1,z2,z3⟩
  ·rcases yco hx with rfl | ⟨h7,_⟩
   ·exact ⟨h0,h1⟩
   ·exact hd.rg x h7
theorem yk1 {l:List Dm} (hs:∀ d∈l,0<d.1∧d.1≤1000000) (c:List Int):inF l (keyOf l c)=true:=by
 have hkl:=zfw l c;unfold inF;rw [decide_eq_true hkl,Bool.true_and,List.all_eq_true];intro i hi;have hi':i<l.length:=List.mem_range.1 hi;have := ztl (c:=c) hs (by omega:i<(keyOf l c).length) hi';unfold inP;rw [zdq (by omega:i<(keyOf l c).length),zdq hi'];exact decide_eq_true this
theorem zrn {l:List Dm} (h:zfm l):∀ d∈l,0<d.1∧d.1≤1000000:=λd hd=>by have := h.2.2 d hd; omega
theorem yh2 {l:List Dm} (hl:zfm l) (ks:List (List Int)) (v:List Int):zd1 l (zdr l ks v)=true:=by
 refine yl8 (by rw [zkf]; omega) λf hf=>?_;obtain ⟨c,hc⟩:=(zkb hf).1;rw [hc]; exact yk1 (zrn hl) c
theorem zi5 {b:Nat} {h:Hp} (k:K (.bool false) h):pv (za1 .ptr .eql (.pointer (some ⟨b,0,none⟩)) (.pointer none)) K h:=⟨_,rfl,k⟩
theorem yhv {b:Nat} {u v:Value} {s t:List Fc} (hF:F b=some [u,v]) (hu:zbp F u s) (hv:zbp F v t) (hs:s.length≤1000000) (ht:t.length≤1000000):zna F (.slice (some ⟨b,0,none⟩) 2 2) [s,t]:=by
 obtain ⟨a1,c1,e1⟩:=hu.form;obtain ⟨a2,c2,e2⟩:=hv.form;have o1:[u].length=1∧∀ c∈[u],c.oneCell'=true:=⟨rfl,λc hc=>by rw [List.mem_singleton.1 hc,e1]; rfl⟩;have o2:[v].length=1∧∀ c∈[v],c.oneCell'=true:=⟨rfl,λc hc=>by rw [List.mem_singleton.1 hc,e2]; rfl⟩;exact ⟨[[u],[v]],znd hF rfl (by decide),zcq (zcq (zaf.nil _ 1) o1 ⟨u,rfl,hu,by omega⟩) o2 ⟨v,rfl,hv,by omega⟩⟩
theorem yjm {B:Nat} {v fv:Value} {rows:List (List Value)} {h:List En} {t:Int} {fs:List Fc} (hv:own M B 143 2 v h.length rows.flatten) (hB:B≤N) (hr:zaf (ze6 F) 2 rows h) (hs:zc8 h) (hl:h.length≤10000000000) (hm':∀ e∈h,e.2.length≤1000000) (hf:zbp F fv fs) (hfl:fs.length≤1000000) (hk:∀ f∈fs,f.1.length≤10000000000)
  (k:∀ v' F' M' N' rows',za9 F F' -> own M' B 143 2 v' (withR h t fs).length rows'.flatten -> zaf (ze6 F') 2 rows' (withR h t fs) -> (∀ q,v.ownBlock≠some q -> q<N -> M' q=M q∧v'.ownBlock≠some q) -> N≤N' -> za6 M' N' -> (Hp.mk F' M' N').wf -> K v' ⟨F',M',N'⟩) :
  cF 186 #[v,.int .u32 t,fv] K E ⟨F,M,N⟩:=by
 cases ht:zdg h t
 ·refine ye5 hv hB hr hs hl ht hf hfl hk ?_;rw [← zqo ht,zm5];exact k
 have hi:=yjx ht;rw [← zm5,yhk ht hi] at k;refine za5 mixed Tryz.func186 (by kernel_rfl) (yrm _ E _ _ _) (λhw=>?_);have hm:za6 M N:=hw.m;refine ycr hv hr hs (by omega) (λN1 hN1 hw1=>?_);rw [ht];try simp only [sS]
 refine yqs (off:=1) hv hr (by decide) hi λb c r x hvf hcell hri hR hrl hx=>?_;obtain ⟨ov,rfl,hov,hovl⟩:=hR;have hx':x=ov:=by simpa using hx.symm
 subst hx';have het:h[zbr h t].1=t:=by rw [ztq hi] at ht; exact of_decide_eq_true ht
 have hom:=hm' _ (List.getElem_mem hi);refine yam hf (by omega) hk (λv2 F2 N2 hw2 hF2 hN2 hf2=>?_);obtain ⟨cs,tot,hMb,hcs⟩:=hcell;refine ⟨⟨cs,.inr ⟨_,_,hMb⟩,by rw [Nat.zero_add]; exact hcs⟩,?_⟩;have hov2:=hov.mono hF2;obtain ⟨a1,c1,e1⟩:=hov2.form;obtain ⟨a2,c2,e2⟩:=hf2.form;have hm2:za6 M N2:=hw2.m;refine zd7 (cs:=[x,v2]) (by rw [e1,e2]; kernel_rfl) (λb9 hb9=>?_);refine ziq (λhc=>⟨_,zxn (p:=λq=>q=b9) hc,?_⟩);have hs3:=zeh (p:=λq=>q=b9) hc;have f9:=ynu (F:=F2) (p:=λq=>q=b9) rfl (za2 M b9 (some (.cells 39 [x,v2] [x,v2].length)));have hMK:∀ q,q<N2 -> zh3 (upd M b9 (some (.cells 39 [x,v2] [x,v2].length))) (λq=>¬ q=b9) q=M q:=λq hq=>(zfi (by omega)).trans (za4 _ _ (by omega));have hmK:za6 (zh3 (upd M b9 (some (.cells 39 [x,v2] [x,v2].length))) (λq=>¬ q=b9)) (b9+1):=zgx (hm2.new hb9 _);generalize frzP F2 _ _=F3 at *;generalize zh3 _ _=M3 at *;clear hc;refine yi1 (ts:=[h[zbr h t].2,fs]) (yhv f9 (hov2.mono hs3) (hf2.mono hs3) hom hfl) (by simp; omega) (by simp) (λv10 F4 N4 hw4 hF4 hN4 h10=>?_);have ef:[h[zbr h t].2,fs].flatten=h[zbr h t].2++fs:=by simp
 rw [ef] at h10;obtain ⟨a10,c10,e10⟩:=h10.form;have hv4:own M3 B 143 2 v h.length rows.flatten:=hv.keep (λq hq=>hMK q (by have := hv.lt hm q hq; omega)) (Nat.le_refl _);have F04:=(hF2.trans hs3).trans hF4;refine yrr (y:=(t,h[zbr h t].2++fs)) hv4 (hr.mono λ_ _ h=>h.mono F04) (by decide) hi (by rw [e10]; rfl) (by rw [e10]; rfl) (λr' hr'=>?_) (λp q M5 rows' g1 g2 g3 g4=>?_)
 ·rw [hri] at hr';cases hr';refine ⟨v10,by simp [het],h10,by simp only [List.length_append]; omega⟩
 exact λhc=>⟨_,za0 hc,λhw'=>k v F4 M5 N4 rows' F04 g1 g2 (λq hq hqN=>⟨(g3 q hq).trans (hMK q (by omega)),hq⟩) (by omega) (g4 _ hw4.m) hw'⟩
theorem ynw {h:List En} {i:Nat} (hi:i<h.length) (h0:200<h[i].2.length):zme h=true:=List.any_eq_true.2 ⟨_,List.getElem_mem hi,decide_eq_true h0⟩
theorem ynz {cs:List Value} {e:En} (he:ze6 F cs e) (k:∀ N',N≤N' -> (Hp.mk F M N').wf -> K (.bool (decide (200<e.2.length))) ⟨F,M,N'⟩) :
  cF 188 #[.agg cs.toArray] K E ⟨F,M,N⟩:=by
 refine za5 mixed Tryz.func188 (by kernel_rfl) (yyi _ E _) (λhw=>?_);have hm:za6 M N:=hw.m;obtain ⟨v,rfl,hv,hvl⟩:=he;refine zar (cs:=[.int .u32 e.1,v]) (λb hb=>?_);try simp only [sS]
 refine ldM (v:=v) ?_;obtain ⟨frows,h1,h2⟩:=hv;refine zb1 h1 ?_;refine zby (λh0=>?_) (λh0=>?_)
 ·rw [decide_eq_true (by omega)] at k;exact λhc=>⟨⟨F,M,b+1⟩,zbm hc (zb4 (zbc _) (hm _ hb)),λhw'=>k _ (by omega) hw'⟩
 ·rw [decide_eq_false (by omega)] at k;exact λhc=>⟨⟨F,M,b+1⟩,zbm hc (zb4 (zbc _) (hm _ hb)),λhw'=>k _ (by omega) hw'⟩
theorem yq5 {B:Nat} {v:Value} {rows:List (List Value)} {h:List En} (hv:own M B 143 2 v h.length rows.flatten) (hr:zaf (ze6 F) 2 rows h) (hl:h.length≤10000000000) (k:∀ N',N≤N' -> (Hp.mk F M N').wf -> K (.bool (zme h)) ⟨F,M,N'⟩) :
  cF 189 #[v,.func (.func 188) #[] #[]] K E ⟨F,M,N⟩:=by
 refine za5 mixed Tryz.func189 (by kernel_rfl) (yx2 _ E _ _) (λhw=>?_);refine za5 mixed Tryz.func249 (by kernel_rfl) (yyu _ E _ _) (λhw=>?_);have hlv:zac v=some (.int .i64 (h.length:Nat)):=by obtain ⟨a,c,e,_⟩:=hv.form; rw [e]; rfl
 refine zab hlv ?_
 refine zxt (σ:=Nat) (λi=>.int .i64 (i:Nat)) (λi h'=>∃ N',h'=⟨F,M,N'⟩∧N≤N'∧i≤h.length∧zme h=zme (h.drop i)) (λi=>h.length - i) 0 rfl
  (λhw1=>⟨_,za0 hw1,N,rfl,Nat.le_refl _,Nat.zero_le _,rfl⟩) (λkk i j h1 hI hw1 next=>?_)
 rw [zxk];obtain ⟨N1,rfl,hN1,hi,he⟩:=hI;refine zau (λhlt=>?_) (λhge=>?_)
 ·have i1:i<h.length:=by omega
  try simp only [sS]
  refine zkm hv hr (by decide) i1 λq r _ hR _ _=>ynz hR (λN2 hN2 hw2=>?_)
  by_cases h0:200<h[i].2.length
  ·rw [decide_eq_true h0];refine zav ?_;refine λhc=>⟨_,za0 hc,λhw'=>yem (by omega) λhc=>⟨_,za0 hc,λhw'=>?_⟩⟩;have := k N2 (by omega) hw';rw [ynw i1 h0] at this;exact this
  ·rw [decide_eq_false h0];refine zan ?_;refine zaq (by omega) ?_;refine next (i+1) _ _ (by omega) (λhw3=>⟨_,za0 hw3,N2,rfl,by omega,i1,?_⟩);rw [he,List.drop_eq_getElem_cons i1];unfold zme;rw [List.any_cons,decide_eq_false h0,Bool.false_or]
 ·try simp only [sS]
  refine λhc=>⟨_,za0 hc,λhw'=>zrb (by omega) λhc=>⟨_,za0 hc,λhw'=>?_⟩⟩;have := k N1 hN1 hw';rw [he,List.drop_eq_nil_of_le (by omega)] at this;exact this
end Go.Proofs.YtlhlhpgjnjjhnaaGreatDoor.A
