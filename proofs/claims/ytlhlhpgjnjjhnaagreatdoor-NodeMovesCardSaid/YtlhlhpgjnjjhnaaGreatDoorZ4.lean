import Derived.Test.YtlhlhpgjnjjhnaaGreatDoorZ3
import Derived.Test.YtlhlhpgjnjjhnaaGreatDoorZ2
import Derived.Test.YtlhlhpgjnjjhnaaGreatDoorZ1
set_option maxHeartbeats 16000000
set_option maxRecDepth 20000
open Go Go.RowKit Go.Proofs.YtlhlhpgjnjjhnaaGreatDoor.K Go.Proofs.YtlhlhpgjnjjhnaaGreatDoor.T
set_option linter.unusedVariables false
set_option linter.unusedSimpArgs false
namespace Go.Proofs.YtlhlhpgjnjjhnaaGreatDoor.A
variable {F F':Nat -> Option (List Value)} {M M':Nat -> Option zak} {N N':Nat} {K:zae} {E:zb2}
def inR (a b:Int) (f:Fc):Bool:=decide (0<f.1.length∧a≤f.1.getD 0 0∧f.1.getD 0 0<b)
def atT:List En -> Int -> List Fc
 | [],_=>[]
 | e::h,t=>if e.1=t then e.2 else atT h t
theorem zl8:∀ {h:List En} {t:Int},(∀ e∈h,e.1≠t) -> atT h t=[]
 | [],_,_=>rfl
 | e::h,t,hn=>by
  unfold atT;rw [if_neg (hn e List.mem_cons_self)];exact zl8 λx hx=>hn x (List.mem_cons_of_mem _ hx)
theorem zm8:zbx []:=List.Pairwise.nil
theorem zcj {e:En} {h:List En}:zbx (e::h)↔(∀ x∈h,e.1<x.1)∧zbx h:=List.pairwise_cons
def zdt:List En -> Int -> List Fc -> List En
 | [],t,fs=>[(t,fs)]
 | e::h,t,fs=>if e.1<t then e::zdt h t fs else if e.1=t then (t,e.2++fs)::h else (t,fs)::e::h
theorem zxx:∀ {h:List En} {t:Int} {fs:List Fc} {x:En},x∈zdt h t fs -> x.1=t∨x∈h
 | [],t,fs,x,hx=>by simp [zdt] at hx; exact .inl (by rw [hx])
 | e::h,t,fs,x,hx=>by
  unfold zdt at hx
  split at hx
  ·rcases List.mem_cons.1 hx with rfl | hx
   ·exact .inr List.mem_cons_self
   ·exact (zxx hx).imp id (List.mem_cons_of_mem _)
  ·split at hx
   ·rcases List.mem_cons.1 hx with rfl | hx
    ·exact .inl rfl
    ·exact .inr (List.mem_cons_of_mem _ hx)
   ·rcases List.mem_cons.1 hx with rfl | hx
    ·exact .inl rfl
    ·exact .inr hx
theorem zs1:∀ {h:List En} {t:Int} {fs:List Fc},zbx h -> zbx (zdt h t fs)
 | [],t,fs,_=>zcj.2 ⟨by simp,zm8⟩
 | e::h,t,fs,hs=>by
  obtain ⟨h1,h2⟩:=zcj.1 hs;unfold zdt
  split
  ·refine zcj.2 ⟨λx hx=>?_,zs1 h2⟩
   rcases zxx hx with hx | hx
   ·omega
   ·exact h1 x hx
  ·split
   ·rename_i he
    exact zcj.2 ⟨λx hx=>by have := h1 x hx; simp only; omega,h2⟩
   ·refine zcj.2 ⟨λx hx=>?_,hs⟩
    rcases List.mem_cons.1 hx with rfl | hx
    ·simp only; omega
    ·have := h1 x hx; simp only; omega
theorem ybc:∀ {h:List En} {t:Int} {fs:List Fc} (s:Int),zbx h -> atT (zdt h t fs) s=if s=t then atT h t++fs else atT h s
 | [],t,fs,s,_=>by
  simp only [zdt,atT]
  by_cases h:s=t
  ·rw [if_pos h.symm,if_pos h]; rfl
  ·rw [if_neg (λe=>h e.symm),if_neg h]
 | e::h,t,fs,s,hs=>by
  obtain ⟨h1,h2⟩:=zcj.1 hs;unfold zdt
  split
  ·rename_i hlt
   simp only [atT];rw [ybc s h2,if_neg (by omega:¬ e.1=t)]
   by_cases hes:e.1=s
   ·rw [if_pos hes,if_neg (by omega),if_pos hes]
   ·rw [if_neg hes]
    by_cases hst:s=t
    ·rw [if_pos hst,if_pos hst]
    ·rw [if_neg hst,if_neg hst,if_neg hes]
  ·split
   ·rename_i he
    simp only [atT]
    by_cases hst:s=t
    ·rw [if_pos hst.symm,if_pos hst,if_pos he]
    ·rw [if_neg (λq=>hst q.symm),if_neg hst,if_neg (by omega)]
   ·rename_i h3 h4
    have ho:atT (e::h) t=[]:=zl8 λx hx=>by
     rcases List.mem_cons.1 hx with rfl | hx
     ·exact h4
     ·have := h1 x hx; omega
    rw [ho]
    by_cases hst:s=t
    ·subst hst; simp [atT]
    ·rw [if_neg hst];show (if t=s then fs else atT (e::h) s)=_
     rw [if_neg (λq=>hst q.symm)]
theorem zxr:∀ (h:List En) (t:Int) (fs:List Fc),(zdt h t fs).length≤h.length+1
 | [],t,fs=>by simp [zdt]
 | e::h,t,fs=>by
  unfold zdt
  split
  ·have := zxr h t fs; simp only [List.length_cons]; omega
  ·split<;>simp
def zup (h:List En) (t:Int):List Fc:=if zdu h t=true then (h.getD (zbk h t) (0,[])).2 else []
def zos (h:List En) (t:Int) (fs:List Fc):List En:=h.take (zbk h t)++(t,zup h t++fs)::h.drop (zo1 h t)
theorem zo0 (e:En) (h:List En) (t:Int):zbk (e::h) t=if e.1<t then zbk h t+1 else 0:=rfl
theorem zul (e:En) (h:List En) (t:Int):zdu (e::h) t=if e.1<t then zdu h t else decide (e.1=t):=by
 unfold zdu;rw [zo0]
 by_cases h1:e.1<t
 ·rw [if_pos h1,if_pos h1,List.getElem?_cons_succ]
 ·rw [if_neg h1,if_neg h1]; rfl
theorem yh1 (e:En) (h:List En) (t:Int):zo1 (e::h) t=if e.1<t then zo1 h t+1 else if e.1=t then 1 else 0:=by
 unfold zo1;rw [zo0,zul]
 split
 ·omega
 ·by_cases h:e.1=t<;>simp [h]
theorem zs3:∀ (h:List En) (t:Int) (fs:List Fc),zos h t fs=zdt h t fs
 | [],t,fs=>by simp [zos,zdt,zbk,zup,zdu,zo1]
 | e::h,t,fs=>by
  have ih:=zs3 h t fs;unfold zos zup at ih ⊢;unfold zdt;rw [zo0,zul,yh1]
  by_cases h1:e.1<t
  ·rw [if_pos h1,if_pos h1,if_pos h1,if_pos h1,← ih]
   simp
  ·rw [if_neg h1,if_neg h1,if_neg h1,if_neg h1]
   by_cases h2:e.1=t
   ·simp [h2]
   ·simp [h2]
theorem yh3 {h:List En} {t:Int} {fs:List Fc} (ht:zdu h t=false):zos h t fs=zmf h t fs:=by
 unfold zos zup zo1 zmf;rw [ht]; simp
theorem yg3 {h:List En} {t:Int} {fs:List Fc} (ht:zdu h t=true) (hi:zbk h t<h.length):zos h t fs=h.set (zbk h t) (t,h[zbk h t].2++fs):=by
 unfold zos zup zo1;rw [ht,if_pos rfl,if_pos rfl,zfr hi,List.set_eq_take_append_cons_drop,if_pos hi]
theorem yif {h:List En} {t:Int} (ht:zdu h t=true):zbk h t<h.length:=by
 rcases Nat.lt_or_ge (zbk h t) h.length with h1 | h1
 ·exact h1
 ·rw [zxy (by omega)] at ht; cases ht
theorem zz7 {f:En -> Option En} (hf:∀ e x,f e=some x -> x.1=e.1) {h:List En} (hs:zbx h):zbx (h.filterMap f) :=
 List.Pairwise.filterMap f (λa a' hr b hb b' hb'=>by rw [hf a b hb,hf a' b' hb']; exact hr) hs
theorem yam {f:En -> Option En} {h:List En} {x:En} (hx:x∈h.filterMap f):∃ e∈h,f e=some x:=List.mem_filterMap.1 hx
theorem yfv {f:En -> Option En} {g:List Fc -> List Fc} (hg:g []=[]) (hf:∀ e,(f e=none∧g e.2=[])∨f e=some (e.1,g e.2)):∀ {h:List En} (s:Int),zbx h -> atT (h.filterMap f) s=g (atT h s)
 | [],s,_=>hg.symm
 | e::h,s,hs=>by
  obtain ⟨h1,h2⟩:=zcj.1 hs;have ih:=yfv hg hf (h:=h) s h2
  have ht:∀ e x,f e=some x -> x.1=e.1:=λe x hx=>by
   rcases hf e with ⟨h,_⟩ | h
   ·rw [h] at hx; cases hx
   ·rw [h] at hx; cases hx; rfl
  have ho:e.1=s -> atT (h.filterMap f) s=[]:=λhe=>zl8 λx hx=>by
   obtain ⟨y,hy,hfy⟩:=yam hx;rw [ht y x hfy];have := h1 y hy; omega
  rcases hf e with ⟨h3,h4⟩ | h3
  ·rw [List.filterMap_cons_none h3];simp only [atT]
   split
   ·rename_i he; rw [ho he,h4]
   ·exact ih
  ·rw [List.filterMap_cons_some h3];simp only [atT]
   split
   ·rfl
   ·exact ih
def zm4 (a b:Int) (e:En):Option En:=if 0<(e.2.filter (inR a b)).length then some (e.1,e.2.filter (inR a b)) else none
def zce (a b:Int) (h:List En):List En:=h.filterMap (zm4 a b)
def zfq (a b:Int) (f:Fc):Bool:=!inR a b f
def zl3 (a b:Int) (e:En):Option En:=if 0<(e.2.filter (zfq a b)).length∨e.2.length=0 then some (e.1,e.2.filter (zfq a b)) else none
def zcd (a b:Int) (h:List En):List En:=h.filterMap (zl3 a b)
theorem zvw (a b:Int) (e:En):(zm4 a b e=none∧e.2.filter (inR a b)=[])∨zm4 a b e=some (e.1,e.2.filter (inR a b)):=by
 unfold zm4
 by_cases h:0<(e.2.filter (inR a b)).length
 ·rw [if_pos h]; exact .inr rfl
 ·rw [if_neg h]; exact .inl ⟨rfl,List.eq_nil_of_length_eq_zero (by omega)⟩
theorem zti (a b:Int) (e:En):(zl3 a b e=none∧e.2.filter (zfq a b)=[])∨zl3 a b e=some (e.1,e.2.filter (zfq a b)):=by
 unfold zl3
 by_cases h:0<(e.2.filter (zfq a b)).length∨e.2.length=0
 ·rw [if_pos h]; exact .inr rfl
 ·rw [if_neg h]; exact .inl ⟨rfl,List.eq_nil_of_length_eq_zero (by omega)⟩
theorem zqv {f:En -> Option En} {g:List Fc -> List Fc} (hf:∀ e,(f e=none∧g e.2=[])∨f e=some (e.1,g e.2)) (e x:En) (h:f e=some x):x=(e.1,g e.2):=by
 rcases hf e with ⟨h1,_⟩ | h1
 ·rw [h1] at h; cases h
 ·rw [h1] at h; cases h; rfl
theorem znk {a b:Int} {h:List En} (hs:zbx h):zbx (zce a b h):=zz7 (λe x hx=>by rw [zqv (zvw a b) e x hx]) hs
theorem zia {a b:Int} {h:List En} (hs:zbx h):zbx (zcd a b h):=zz7 (λe x hx=>by rw [zqv (zti a b) e x hx]) hs
theorem ydv {a b:Int} {h:List En} (s:Int) (hs:zbx h):atT (zce a b h) s=(atT h s).filter (inR a b):=yfv (g:=λl=>l.filter (inR a b)) rfl (zvw a b) s hs
theorem zza {a b:Int} {h:List En} (s:Int) (hs:zbx h):atT (zcd a b h) s=(atT h s).filter (zfq a b):=yfv (g:=λl=>l.filter (zfq a b)) rfl (zti a b) s hs
theorem zk4 {a b:Int} {h:List En} {x:En} (hx:x∈zce a b h):∃ e∈h,x=(e.1,e.2.filter (inR a b))∧x.2≠[]:=by
 obtain ⟨e,he,hf⟩:=yam hx;refine ⟨e,he,zqv (zvw a b) e x hf,λh0=>?_⟩;unfold zm4 at hf
 split at hf
 ·cases hf; simp only at h0; rename_i h1; rw [h0] at h1; simp at h1
 ·cases hf
theorem zpu {a b:Int} {h:List En} {x:En} (hx:x∈zcd a b h):∃ e∈h,x=(e.1,e.2.filter (zfq a b)):=by
 obtain ⟨e,he,hf⟩:=yam hx;exact ⟨e,he,zqv (zti a b) e x hf⟩
theorem yb0:∀ {h k:List En},zbx h -> zbx k -> (∀ e∈h,e.2≠[]) -> (∀ e∈k,e.2≠[]) -> (∀ s,atT h s=atT k s) -> h=k
 | [],[],_,_,_,_,_=>rfl
 | [],e::k,_,_,_,hk,he=>by
  have := he e.1
  simp [atT] at this
  exact absurd this (hk e List.mem_cons_self)
 | e::h,[],_,_,hh,_,he=>by
  have := he e.1
  simp [atT] at this
  exact absurd this (hh e List.mem_cons_self)
 | e::h,d::k,hs,ks,hh,hk,he=>by
  obtain ⟨h1,h2⟩:=zcj.1 hs;obtain ⟨k1,k2⟩:=zcj.1 ks;have out1:∀ s,s≤e.1 -> atT h s=[]:=λs hle=>zl8 λx hx=>by have := h1 x hx; omega
  have out2:∀ s,s≤d.1 -> atT k s=[]:=λs hle=>zl8 λx hx=>by have := k1 x hx; omega
  have ht:e.1=d.1:=by
   rcases Int.lt_trichotomy e.1 d.1 with hl | hl | hl
   ·have := he e.1;simp only [atT,if_true] at this;rw [if_neg (by omega),out2 _ (by omega)] at this;exact absurd this (hh e List.mem_cons_self)
   ·exact hl
   ·have := he d.1;simp only [atT,if_true] at this;rw [if_neg (by omega),out1 _ (by omega)] at this;exact absurd this.symm (hk d List.mem_cons_self)
  have hf:e.2=d.2:=by
   have := he e.1;simp only [atT,if_true] at this;rw [if_pos ht.symm] at this;exact this
  have hed:e=d:=Prod.ext ht hf;subst hed;refine congrArg (e :: ·) (yb0 h2 k2 (λx hx=>hh x (List.mem_cons_of_mem _ hx)) (λx hx=>hk x (List.mem_cons_of_mem _ hx)) λs=>?_)
  by_cases hes:e.1=s
  ·rw [out1 s (by omega),out2 s (by omega)]
  ·have := he s;simp only [atT] at this;rw [if_neg hes,if_neg hes] at this;exact this
def zit (h:List En) (e:En):List En:=if 0<e.2.length then zdt h e.1 e.2 else h
def zci (h es:List En):List En:=es.foldl zit h
theorem ynh {h:List En} {e:En} (hs:zbx h) (s:Int):atT (zit h e) s=if s=e.1 then atT h s++e.2 else atT h s:=by
 unfold zit
 split
 ·rw [ybc s hs]
  by_cases hse:s=e.1
  ·rw [if_pos hse,if_pos hse,hse]
  ·rw [if_neg hse,if_neg hse]
 ·rename_i h0
  rw [List.eq_nil_of_length_eq_zero (by omega:e.2.length=0)]
  split<;>simp
theorem ztv {h:List En} {e:En} (hs:zbx h):zbx (zit h e):=by
 unfold zit; split
 ·exact zs1 hs
 ·exact hs
theorem zga:∀ {es h:List En},zbx h -> zbx (zci h es)
 | [],h,hs=>hs
 | e::es,h,hs=>zga (es:=es) (ztv hs)
theorem zm6:∀ {es h:List En} (s:Int),zbx h -> zbx es -> atT (zci h es) s=atT h s++atT es s
 | [],h,s,_,_=>by simp [zci,atT]
 | e::es,h,s,hs,he=>by
  obtain ⟨h1,h2⟩:=zcj.1 he;have := zm6 (es:=es) s (ztv (e:=e) hs) h2;show atT (zci (zit h e) es) s=_;rw [this,ynh hs];simp only [atT]
  by_cases hse:s=e.1
  ·rw [if_pos hse,if_pos hse.symm,zl8 (h:=es) λx hx=>by have := h1 x hx; omega,List.append_nil]
  ·rw [if_neg hse,if_neg (λq=>hse q.symm)]
theorem znx:∀ (es h:List En),(zci h es).length≤h.length+es.length
 | [],h=>by simp [zci]
 | e::es,h=>by
  have h1:=znx es (zit h e)
  have h2:(zit h e).length≤h.length+1:=by
   unfold zit; split
   ·exact zxr _ _ _
   ·omega
  show (zci (zit h e) es).length≤_;simp only [List.length_cons]; omega
def zdx (l:List Dm) (a b:Int):Int -> List En -> Bool
 | _,[]=>true
 | last,e::es=>decide (last<e.1)&&zcc l e.2&&(e.2.all (inR a b)&&zdx l a b e.1 es)
def zgy (a b:Int) (h es:List En):List En:=zci (zcd a b h) es
def zl4 (h:List En):Bool:=h.any λe=>decide (200<e.2.length)
def zfl (l:List Dm) (a b:Int) (h es:List En):Nat:=if zdx l a b 0 es=false then 1 else if 5000<(zgy a b h es).length∨zl4 (zgy a b h es)=true then 3 else 0
def zkg (l:List Dm) (a b:Int) (h es:List En):List En:=if zfl l a b h es=0 then zgy a b h es else h
theorem zro {l:List Dm} {a b last:Int} {e:En} {es:List En} (h:zdx l a b last (e::es)=true):last<e.1∧zcc l e.2=true∧(∀ f∈e.2,inR a b f=true)∧zdx l a b e.1 es=true:=by
 unfold zdx at h;rw [Bool.and_eq_true,Bool.and_eq_true,Bool.and_eq_true] at h;exact ⟨of_decide_eq_true h.1.1,h.1.2,List.all_eq_true.1 h.2.1,h.2.2⟩
theorem zoo {l:List Dm} {a b:Int}:∀ {es:List En} {last:Int},zdx l a b last es=true -> zbx es∧∀ e∈es,last<e.1∧zcc l e.2=true∧∀ f∈e.2,inR a b f=true
 | [],_,_=>⟨zm8,by simp⟩
 | e::es,last,h=>by
  obtain ⟨h1,h2,h3,h4⟩:=zro h;obtain ⟨g1,g2⟩:=zoo h4;refine ⟨zcj.2 ⟨λx hx=>(g2 x hx).1,g1⟩,λx hx=>?_⟩
  rcases List.mem_cons.1 hx with rfl | hx
  ·exact ⟨h1,h2,h3⟩
  ·obtain ⟨a1,a2,a3⟩:=g2 x hx;exact ⟨by omega,a2,a3⟩
theorem zyb {l:List Dm} {a b:Int}:∀ {es:List En} {last:Int},zbx es -> (∀ e∈es,last<e.1∧zcc l e.2=true∧∀ f∈e.2,inR a b f=true) -> zdx l a b last es=true
 | [],_,_,_=>rfl
 | e::es,last,hs,h=>by
  obtain ⟨h1,h2⟩:=zcj.1 hs;obtain ⟨a1,a2,a3⟩:=h e List.mem_cons_self;unfold zdx;rw [decide_eq_true a1,a2,List.all_eq_true.2 a3,zyb h2 λx hx=>⟨h1 x hx,(h x (List.mem_cons_of_mem _ hx)).2⟩]
  rfl
structure okH (l:List Dm) (n m:Nat) (h:List En):Prop where
 rs:zbx h
 ti:∀ e∈h,0<e.1
 fi:∀ e∈h,∀ f∈e.2,inF l f.1=true
 le:h.length≤n
 fl:∀ e∈h,e.2.length≤m
theorem okH.nil (l:List Dm) (n m:Nat):okH l n m []:=⟨zm8,by simp,by simp,Nat.zero_le _,by simp⟩
theorem zy1 {P:En -> Prop} {t:Int} {fs:List Fc} (h0:P (t,fs)) (ha:∀ e:En,e.1=t -> P e -> P (t,e.2++fs)):∀ {h:List En},(∀ e∈h,P e) -> ∀ e∈zdt h t fs,P e
 | [],_,e,he=>by simp [zdt] at he; rw [he]; exact h0
 | d::h,hp,e,he=>by
  unfold zdt at he
  split at he
  ·rcases List.mem_cons.1 he with rfl | he
   ·exact hp _ List.mem_cons_self
   ·exact zy1 h0 ha (λx hx=>hp x (List.mem_cons_of_mem _ hx)) e he
  ·split at he
   ·rename_i hd
    rcases List.mem_cons.1 he with rfl | he
    ·exact ha d hd (hp d List.mem_cons_self)
    ·exact hp e (List.mem_cons_of_mem _ he)
   ·rcases List.mem_cons.1 he with rfl | he
    ·exact h0
    ·exact hp e he
theorem okH.rest {l:List Dm} {n m:Nat} {h:List En} (o:okH l n m h) (a b:Int):okH l n m (zcd a b h):=by
 refine ⟨zia o.rs,λx hx=>?_,λx hx=>?_,?_,λx hx=>?_⟩
 ·obtain ⟨e,he,rfl⟩:=zpu hx; exact o.ti e he
 ·obtain ⟨e,he,rfl⟩:=zpu hx; exact λf hf=>o.fi e he f (List.mem_filter.1 hf).1
 ·have := List.length_filterMap_le (zl3 a b) h; have := o.le; unfold zcd; omega
 ·obtain ⟨e,he,rfl⟩:=zpu hx;have := o.fl e he;have := List.length_filter_le (zfq a b) e.2;simp only; omega
theorem okH.ent {l:List Dm} {n m:Nat} {h:List En} (o:okH l n m h) (a b:Int):okH l n m (zce a b h):=by
 refine ⟨znk o.rs,λx hx=>?_,λx hx=>?_,?_,λx hx=>?_⟩
 ·obtain ⟨e,he,rfl,_⟩:=zk4 hx; exact o.ti e he
 ·obtain ⟨e,he,rfl,_⟩:=zk4 hx; exact λf hf=>o.fi e he f (List.mem_filter.1 hf).1
 ·have := List.length_filterMap_le (zm4 a b) h; have := o.le; unfold zce; omega
 ·obtain ⟨e,he,rfl,_⟩:=zk4 hx;have := o.fl e he;have := List.length_filter_le (inR a b) e.2;simp only; omega
theorem zxp {l:List Dm}:∀ {es h:List En},(∀ e∈h,0<e.1∧∀ f∈e.2,inF l f.1=true) -> (∀ e∈es,0<e.1∧∀ f∈e.2,inF l f.1=true) -> ∀ e∈zci h es,0<e.1∧∀ f∈e.2,inF l f.1=true
 | [],h,h1,_=>h1
 | d::es,h,h1,h2=>by
  obtain ⟨d1,d2⟩:=h2 d List.mem_cons_self;refine zxp (es:=es) (h:=zit h d) ?_ λx hx=>h2 x (List.mem_cons_of_mem _ hx);unfold zit
  split
  ·refine zy1 (P:=λe=>0<e.1∧∀ f∈e.2,inF l f.1=true) ⟨d1,d2⟩ (λe _ he=>⟨d1,λf hx=>?_⟩) h1
   rcases List.mem_append.1 hx with hx | hx
   ·exact he.2 f hx
   ·exact d2 f hx
  ·exact h1
theorem yez {l:List Dm} {a b:Int} {h es:List En} (e:zfl l a b h es=0):zdx l a b 0 es=true∧(zgy a b h es).length≤5000∧∀ x∈zgy a b h es,x.2.length≤200:=by
 unfold zfl at e
 split at e
 ·omega
 ·rename_i h1
  split at e
  ·omega
  ·rename_i h2
   refine ⟨by simpa using h1,by omega,λx hx=>?_⟩
   rcases Nat.lt_or_ge 200 x.2.length with h3 | h3
   ·exact absurd (.inr (List.any_eq_true.2 ⟨x,hx,decide_eq_true h3⟩)) h2
   ·exact h3
theorem okH.repl {l:List Dm} {h:List En} (o:okH l 5000 200 h) (a b:Int) (es:List En):okH l 5000 200 (zkg l a b h es):=by
 unfold zkg
 by_cases e:zfl l a b h es=0
 ·rw [if_pos e];obtain ⟨h1,h2,h3⟩:=yez e;obtain ⟨g1,g2⟩:=zoo h1;have hr:=o.rest a b;have hf:=zxp (l:=l) (h:=zcd a b h) (es:=es) (λe he=>⟨hr.ti e he,hr.fi e he⟩) (λe he=>⟨(g2 e he).1,(zfw (g2 e he).2.1).2⟩);exact ⟨zga hr.rs,λe he=>(hf e he).1,λe he=>(hf e he).2,h2,h3⟩
 ·rw [if_neg e]; exact o
theorem yd3:∀ {h:List En} {s:Int} {f:Fc},f∈atT h s -> ∃ e∈h,f∈e.2
 | [],s,f,hf=>by simp [atT] at hf
 | e::h,s,f,hf=>by
  unfold atT at hf
  split at hf
  ·exact ⟨e,List.mem_cons_self,hf⟩
  ·obtain ⟨x,hx,h⟩:=yd3 hf;exact ⟨x,List.mem_cons_of_mem _ hx,h⟩
def yvy (h:List En):List Fc:=(h.map (·.2)).flatten
def yxu (h:List En) (t:Int):List Fc:=yvy (h.filter λe=>decide (e.1≤t))
theorem yav:∀ {h:List En} {e:En},zbx h -> e∈h -> atT h e.1=e.2
 | [],_,_,he=>by simp at he
 | d::h,e,hs,he=>by
  obtain ⟨h1,h2⟩:=zcj.1 hs;unfold atT
  rcases List.mem_cons.1 he with rfl | he
  ·rw [if_pos rfl]
  ·have := h1 e he;rw [if_neg (by omega)]; exact yav h2 he
theorem zwi {m:Nat}:∀ {h:List En} (s:Int),(∀ e∈h,e.2.length≤m) -> (atT h s).length≤m
 | [],s,_=>by simp [atT]
 | d::h,s,hp=>by
  unfold atT
  split
  ·exact hp d List.mem_cons_self
  ·exact zwi s λx hx=>hp x (List.mem_cons_of_mem _ hx)
theorem yg9 {n k:Nat} {es h:List En} (hs:zbx h) (he:zbx es) (h1:∀ e∈h,e.2.length≤n) (h2:∀ e∈es,e.2.length≤k):∀ e∈zci h es,e.2.length≤n+k:=λe hx=>by
 have h3:=yav (zga (es:=es) hs) hx;rw [zm6 _ hs he] at h3;have h4:=congrArg List.length h3;rw [List.length_append] at h4;have h5:=zwi e.1 h1;have h6:=zwi e.1 h2;omega
theorem zv1 {l:List Dm} {a b T:Int}:∀ {es:List En} {last:Int},zdx l a b last es=true -> last<T -> (∀ e∈es,e.1<T) -> (es.length:Int)+last<T
 | [],last,_,h1,_=>by simp; exact h1
 | e::es,last,h,h1,h2=>by
  obtain ⟨g1,_,_,g4⟩:=zro h;have := zv1 g4 (h2 e List.mem_cons_self) λx hx=>h2 x (List.mem_cons_of_mem _ hx);rw [List.length_cons]; omega
section
variable {h:Hp}
theorem yq6 {b o off:Nat} (k:K (.pointer (some ⟨b,o+off,none⟩)) h):pv (faV off (.pointer (some ⟨b,o,none⟩))) K h:=⟨_,rfl,k⟩
end
theorem zjl {α:Type} (l:List (List α)) {i:Nat} (h:i<l.length):(l.take (i+1)).flatten=(l.take i).flatten++l[i]:=by
 rw [List.take_add_one,List.getElem?_eq_getElem h,Option.toList_some,List.flatten_append]; simp
theorem ynu {n:Nat} (hm:za5 M N) (hn:n≤1000000000000) (k:∀ v' M' N',own M' N 110 2 v' 0 [] -> (∀ q,q<N -> M' q=M q) -> N≤N' -> za5 M' N' -> (Hp.mk F M' N').wf -> K v' ⟨F,M',N'⟩) :
  cF 296 #[.slice none 0 0,.int .i64 (n:Nat)] K E ⟨F,M,N⟩:=by
 refine za4 za8 Tryz.func296 (by kernel_rfl) (yv2 _ E _ _) (λhw=>?_);refine zke (by omega) ?_;try simp only [sS]
 rw [ykt];try simp only [sS]
 refine zky (a:=0) (b:=0) (by omega) (by omega) ?_;refine zky (a:=n) (b:=0) (by omega) (by omega) ?_;rw [Nat.sub_zero];refine zbw (λh0=>?_) (λh0=>?_)
 ·try simp only [sS]
  refine zor 0 0 0 (Nat.le_refl _) (Nat.le_refl _) (Nat.le_refl _) ?_;refine ⟨none,0,0,[],n,.i64,rfl,rfl,⟨by simp,.inl ⟨_,_,rfl,rfl⟩⟩,Nat.le_refl _,by omega,by omega,by simp [maxLen]; omega,λb c hb0 hc hcm=>?_⟩;have hb:N≤b:=hb0;try simp only [sS]
  refine zhj 0 (Nat.zero_le _) ?_;try simp only [sS]
  rw [zuj];refine λhc'=>⟨_,za1 hc',λhw'=>k _ _ _ ⟨by simp,.inr ⟨b,c,_,rfl,Nat.zero_le _,hcm,hb,za0 _ _ _⟩⟩ (λq hq=>za3 _ _ (by omega)) (Nat.le_succ_of_le hb) (hm.new hb _) hw'⟩
 ·try simp only [sS]
  rw [zuj];exact λhc'=>⟨_,za1 hc',λhw'=>k _ _ _ own.nil (λ_ _=>rfl) (Nat.le_refl _) hm hw'⟩
def yc3 (F:Nat -> Option (List Value)) (v:Value) (ts:List (List Fc)):Prop:=∃ rows,sF F 1 v ts.length rows.flatten∧zag (λr t=>∃ u,r=[u]∧zbo F u t∧t.length≤140737488351232) 1 rows ts
theorem ydt {v:Value} {ts:List (List Fc)} {K:Value -> zae} (hv:yc3 F v ts) {i:Nat} (hi:i<ts.length) (k:∀ p u,zbo F u ts[i] -> ts[i].length≤140737488351232 -> K p u ⟨F,M,N⟩):pv (iaV none 1 v (.int .i64 (i:Nat))) (λp=>ld false 1 p (K p)) ⟨F,M,N⟩:=by
 obtain ⟨rows,h1,h2⟩:=hv;obtain ⟨b,o,c,cs,r,rfl,hF,_,⟨u,rfl,hu,hul⟩,hl,_,hle,ht,hj⟩:=zuh h1 h2 (by decide) hi;exact zct hi (zfo (zaz (zh9 hF) (hj 0 (by decide))) (k _ _ hu hul))
theorem yhg {v:Value} {ts:List (List Fc)} (hv:yc3 F v ts) (hl:ts.flatten.length≤1000000000) (htl:ts.length≤1000000000) (k:∀ v' F' N',(Hp.mk F' M N').wf -> za7 F F' -> N≤N' -> zbo F' v' ts.flatten -> K v' ⟨F',M,N'⟩) :
  cF 247 #[v] K E ⟨F,M,N⟩:=by
 refine za4 za8 Tryz.func247 (by kernel_rfl) (ytd _ E _) (λhw=>?_);have hm:za5 M N:=hw.m;have hlv:zab v=some (.int .i64 (ts.length:Nat)):=by obtain ⟨rows,h1,_⟩:=hv; obtain ⟨a,c,rfl,_⟩:=h1.form; rfl
 have hfl:∀ i,i≤ts.length -> (ts.take i).flatten.length≤ts.flatten.length:=λi hi=>by
  have h:=congrArg List.flatten (List.take_append_drop i ts);rw [List.flatten_append] at h;have := congrArg List.length h;rw [List.length_append] at this;omega
 try simp only [hlv]
 try simp only [sS]
 refine zss (σ:=Nat) (λi=>.int .i64 ((ts.take i).flatten.length:Nat)) (λi=>.int .i64 (i:Nat)) (λi h=>h=⟨F,M,N⟩∧i≤ts.length) (λi=>ts.length - i) 0 rfl rfl
  (λhw1=>⟨_,za1 hw1,rfl,Nat.zero_le _⟩) (λk1 i j h1 hI hw1 next=>?_)
 rw [ztg];obtain ⟨rfl,hi⟩:=hI;refine zat (λhlt=>?_) (λhge=>?_)
 ·have h1:i<ts.length:=by omega
  try simp only [sS]
  refine ydt hv h1 λp u hu hul=>?_;obtain ⟨a,c,rfl⟩:=hu.form;have h2:=hfl (i+1) h1;have e:=zjl ts h1;rw [e,List.length_append] at h2;try simp only [sS]
  refine zji (by omega) (zke (by omega) ?_);try simp only [sS]
  rw [zmk];refine zas (by omega) ?_;rw [← List.length_append,← e];exact next (i+1) _ _ (by omega) (λhw2=>⟨_,za1 hw2,rfl,h1⟩)
 ·try simp only [sS]
  rw [List.take_of_length_le (by omega)];refine ynu hm (by omega) (λu M1 N1 ho hM1 hN1 hm1 hw1=>?_);try simp only [hlv]
  try simp only [sS]
  refine zo6 (σ:=Nat×Value) (λs=>s.2) (λs=>.int .i64 (s.1:Nat))
   (λs h=>∃ M' N' rows,h=⟨F,M',N'⟩∧N≤N'∧(∀ q,q<N -> M' q=M q)∧za5 M' N'∧s.1≤ts.length∧own M' N 110 2 s.2 (ts.take s.1).flatten.length rows.flatten∧zag (zcl F) 2 rows (ts.take s.1).flatten) (λs=>ts.length - s.1) (0,u) rfl rfl
   (λhw2=>⟨_,za1 hw2,M1,N1,[],rfl,hN1,hM1,hm1,Nat.zero_le _,ho,zag.nil _ _⟩) (λk1 s j h1 hI hw2 next=>?_)
  rw [znl];obtain ⟨M2,N2,rows,rfl,hN2,hM2,hm2,hi,ho2,hr2⟩:=hI;refine zat (λhlt=>?_) (λhge=>?_)
  ·have h1:s.1<ts.length:=by omega
   try simp only [sS]
   refine ydt hv h1 λp w hwt hwl=>?_;obtain ⟨rows3,hw3,hr3⟩:=hwt;have h2:=hfl (s.1+1) h1;have e:=zjl ts h1;rw [e,List.length_append] at h2;refine ho2.app hm2 hN2 hw3.sR hr3.f1 (by omega) (by unfold maxLen; omega) (λw' M3 N3 h4 h5 h6 h7=>?_);refine zas (by omega) ?_;refine next (s.1+1,w') _ _ (by simp only; omega) (λhw4=>⟨_,za1 hw4,M3,N3,rows++rows3,rfl,by omega,λq hq=>?_,h7,h1,?_,?_⟩)
   ·have q1:s.2.ownBlock≠some q:=λe=>by have := (ho2.ge q e).1; omega
    exact ((h5 q q1 (by omega)).1).trans (hM2 q hq)
   ·simp only;rw [e,List.length_append,List.flatten_append]; exact h4
   ·simp only;rw [e]; exact zol hr2 hr3
  ·try simp only [sS]
   rw [List.take_of_length_le (by omega)] at ho2 hr2;exact λhc=>⟨_,zdw hm hM2 hc,λhw'=>k _ _ _ hw' (zb9 hc) hN2 (zpq hc ho2 hr2)⟩
theorem yqd {α:Type} {R:List Value -> α -> Prop} {B sz off:Nat} {e:TypeId} {v:Value} {l:List α} {rows:List (List Value)} {K:Value -> Value -> zae} (hv:own M B e sz v l.length rows.flatten) (hr:zag R sz rows l) (ho:off<sz) {i:Nat} (hi:i<l.length)
  (k:∀ b c r x,v=.slice (some ⟨b,0,none⟩) l.length c -> (∃ cs tot,M b=some (.cells e cs tot)∧cs[i*sz+off]?=some x) -> rows[i]?=some r -> R r l[i] -> r.length=sz -> r[off]?=some x -> K (.pointer (some ⟨b,0+i*sz,none⟩)) (.pointer (some ⟨b,0+i*sz+off,none⟩)) x ⟨F,M,N⟩):pv (iaV none sz v (.int .i64 (i:Nat))) (λp=>pv (faV off p) λq=>ld false 1 q (K p q)) ⟨F,M,N⟩:=by
 rcases hv.2 with ⟨rfl,h0⟩ | ⟨b,c,rest,rfl,h1,h2,h3,h4⟩
 ·omega
 obtain ⟨r,hri,hR,hdt,hle,hrl⟩:=hr.get (List.getElem?_eq_getElem hi);have hx:r[off]?=some (r[off]'(by omega)):=List.getElem?_eq_getElem _
 have hcx:(rows.flatten++rest)[i*sz+off]?=some (r[off]'(by omega)):=by
  rw [List.getElem?_append_left (by omega),← hx,← hdt,List.getElem?_take,if_pos ho,List.getElem?_drop]
 refine zct hi (yq6 (zfo (zaz (zb4 h4) (by rw [Nat.zero_add]; exact hcx)) ?_));exact k b c r _ rfl ⟨_,_,h4,hcx⟩ hri hR hrl hx
theorem zrw {sz:Nat}:∀ (rows:List (List Value)) (i off:Nat) (x:Value),(∀ r∈rows,r.length=sz) -> off<sz -> (hi:i<rows.length) -> rows.flatten.set (i*sz+off) x=(rows.set i (rows[i].set off x)).flatten
 | [],i,off,x,_,_,hi=>by simp at hi
 | r::rows,0,off,x,hl,ho,_=>by
  have := hl r List.mem_cons_self;simp only [List.flatten_cons,Nat.zero_mul,Nat.zero_add,List.set_cons_zero,List.getElem_cons_zero];rw [List.set_append_left _ _ (by omega)]
 | r::rows,i+1,off,x,hl,ho,hi=>by
  have h1:=hl r List.mem_cons_self;have ih:=zrw rows i off x (λq hq=>hl q (List.mem_cons_of_mem _ hq)) ho (by simpa using hi);simp only [List.flatten_cons,List.set_cons_succ,List.getElem_cons_succ];rw [List.set_append_right _ _ (by rw [Nat.succ_mul]; omega),← ih,h1]
  congr 2
  rw [Nat.succ_mul]; omega
theorem zxt {α:Type} {R:List Value -> α -> Prop} {sz:Nat} {rows:List (List Value)} {l:List α} (h:zag R sz rows l) {r:List Value} {x:α} (h1:r.length=sz∧∀ c∈r,c.oneCell'=true) (hR:R r x) (i:Nat):zag R sz (rows.set i r) (l.set i x):=by
 refine ⟨λq hq=>?_,λq hq=>?_,by rw [List.length_set,List.length_set]; exact h.all.1,λj a b ha hb=>?_⟩
 ·rcases List.mem_or_eq_of_mem_set hq with hq | rfl
  ·exact h.len q hq
  ·exact h1.1
 ·rcases List.mem_or_eq_of_mem_set hq with hq | rfl
  ·exact h.one q hq
  ·exact h1.2
 ·rw [List.getElem?_set] at ha hb
  by_cases hij:i=j
  ·rw [if_pos hij] at ha hb
   split at ha
   ·split at hb
    ·cases ha; cases hb; exact hR
    ·cases hb
   ·cases ha
  ·rw [if_neg hij] at ha hb;exact h.all.2 j a b ha hb
theorem yq3 {α:Type} {R:List Value -> α -> Prop} {B sz off:Nat} {e:TypeId} {v:Value} {l:List α} {rows:List (List Value)} {K:Value -> Value -> zae} {u:Value} {y:α} (hv:own M B e sz v l.length rows.flatten) (hr:zag R sz rows l) (ho:off<sz) {i:Nat} (hi:i<l.length) (hu:u.cells = #[u]) (hu1:u.oneCell'=true) (hR:∀ r,rows[i]?=some r -> R (r.set off u) y)
  (k:∀ p q M' rows',own M' B e sz v (l.set i y).length rows'.flatten -> zag R sz rows' (l.set i y) -> (∀ q,v.ownBlock≠some q -> M' q=M q) -> (∀ n,za5 M n -> za5 M' n) -> K p q undef ⟨F,M',N⟩):pv (iaV none sz v (.int .i64 (i:Nat))) (λp=>pv (faV off p) λq=>st 1 q u (K p q)) ⟨F,M,N⟩:=by
 rcases hv.2 with ⟨rfl,h0⟩ | ⟨b,c,rest,rfl,h1,h2,h3,h4⟩
 ·omega
 obtain ⟨r,hri,hRr,hdt,hle,hrl⟩:=hr.get (List.getElem?_eq_getElem hi);have hri':=hri;obtain ⟨hil,hre⟩:=List.getElem?_eq_some_iff.1 hri;have hrl1:=hr.one r (List.mem_of_getElem? hri);refine zct hi (yq6 ?_);have hlen:0+i*sz+off<(rows.flatten++rest).length:=by rw [List.length_append]; omega
 have hsp:zb3 (rows.flatten++rest) (0+i*sz+off) u.cells.toList=(rows.set i (r.set off u)).flatten++rest:=by
  rw [hu,show (#[u]:Array Value).toList=[u] from rfl,zue hlen,List.set_append_left _ _ (by omega),Nat.zero_add,zrw rows i off u hr.len ho hil,hre]
 refine yfn h4 (by rw [hu]; rfl) (by rw [hu]; intro x hx; rw [List.mem_singleton.1 hx]; exact hu1) (by omega) hsp ?_;refine k _ _ _ (rows.set i (r.set off u)) ⟨?_,.inr ⟨b,c,rest,by rw [List.length_set],by rw [List.length_set]; exact h1,h2,h3,za0 _ _ _⟩⟩ (zxt hr ⟨by rw [List.length_set]; exact hrl,λx hx=>?_⟩ (hR r hri) i) (λq hq=>za3 _ _ (λe=>hq (by rw [e]; rfl))) (λn hn=>hn.set (hn.lt h4) _)
 ·rw [List.length_set,zed _ (λq hq=>?_),List.length_set,hr.all.1]
  rcases List.mem_or_eq_of_mem_set hq with hq | rfl
  ·exact hr.len q hq
  ·rw [List.length_set]; exact hrl
 ·rcases List.mem_or_eq_of_mem_set hx with hx | rfl
  ·exact hrl1 x hx
  ·exact hu1
def isW (F:Nat -> Option (List Value)) (w:Value) (a b:Int):Prop:=∃ c1 c2,w=.func (.func 105) #[] #[.pointer (some ⟨c1,0,none⟩),.pointer (some ⟨c2,0,none⟩)]∧F c1=some [.int .i64 a]∧F c2=some [.int .i64 b]
theorem isW.mono {w:Value} {a b:Int} (h:isW F w a b) (hF:za7 F F'):isW F' w a b:=let ⟨c1,c2,h1,h2,h3⟩:=h; ⟨c1,c2,h1,hF _ _ h2,hF _ _ h3⟩
theorem zoy {a b:Int} (k:∀ w F' N',(Hp.mk F' M N').wf -> za7 F F' -> N≤N' -> isW F' w a b -> K w ⟨F',M,N'⟩) :
  cF 52 #[.int .i64 a,.int .i64 b] K E ⟨F,M,N⟩:=by
 refine za4 za8 Tryz.func52 (by kernel_rfl) (t52 _ E _ _) (λhw=>?_);have hm:za5 M N:=hw.m;refine zap (cs:=[.int .i64 a]) (λb1 hb1=>?_);refine zap (cs:=[.int .i64 b]) (λb2 hb2=>?_);refine λhc=>⟨_,zdw hm (λq hq=>(za3 _ _ (by omega)).trans (za3 _ _ (by omega))) hc,λhw'=>k _ _ _ hw' (zb9 hc) (by omega) ⟨b1,b2,rfl,?_,?_⟩⟩
 ·exact zhq (by omega) ((za3 _ _ (by omega)).trans (za0 _ _ _))
 ·exact zhq (by omega) (za0 _ _ _)
theorem ldF {sz b o:Nat} {cs:List Value} {v:Value} (k:K v ⟨F,M,N⟩) (hF:F b=some cs) (hv:cs[o]?=some v:=by rfl):ld false sz (.pointer (some ⟨b,o,none⟩)) K ⟨F,M,N⟩:=zfo (zaz (zh9 hF) hv) k
theorem yrt {w:Value} {a b:Int} {cs:List Value} {f:Fc} (hW:isW F w a b) (hf:zcl F cs f) (k:∀ N',N≤N' -> (Hp.mk F M N').wf -> K (.bool (inR a b f)) ⟨F,M,N'⟩) :
  zbs Tryz.prog w #[.agg cs.toArray] K E ⟨F,M,N⟩:=by
 obtain ⟨c1,c2,rfl,hc1,hc2⟩:=hW;obtain ⟨kv,rfl,hkv,hkl⟩:=hf;refine za4 za8 Tryz.func105 (by kernel_rfl) (znw _ E _ _ _) (λhw=>?_);have hm:za5 M N:=hw.m
 have fin:∀ b1,N≤b1 -> ∀ r:Bool,r=inR a b f -> ∀ h',h'=(⟨F,upd M b1 (some (.cells 110 [kv,.int .i64 f.2] 2)),b1+1⟩:Hp) -> h'.wf -> ∃ h'',h'.wk h''∧(h''.wf -> K (.bool r) h''):=λb1 hb1 r e h' e' hc=>by
  subst e';refine ⟨⟨F,M,b1+1⟩,zbl hc (zb5 (zbb _) (hm _ hb1)),λhw'=>?_⟩;rw [e]; exact k _ (by omega) hw'
 refine zap (cs:=[kv,.int .i64 f.2]) (λb1 hb1=>?_);have hb:=za0 M b1 (some (.cells 110 [kv,.int .i64 f.2] 2));try simp only [sS]
 refine ldM (v:=kv) ?_ hb;refine zb7 hkv ?_;refine zbw (λh0=>?_) (λh0=>?_)
 ·have hl:0<f.1.length:=by omega
  try simp only [sS]
  refine ldM (v:=kv) ?_ hb;try simp only [sS]
  refine zfm (i:=0) hkv hl λp=>?_;try simp only [sS]
  refine ldF (v:=.int .i64 a) ?_ hc1;try simp only [sS]
  have e0:f.1.getD 0 0=f.1[0]:=zfr hl 0;refine zg8 (λh1=>?_) (λh1=>?_)
  ·try simp only [sS]
   refine ldM (v:=kv) ?_ hb;try simp only [sS]
   refine zfm (i:=0) hkv hl λp=>?_;try simp only [sS]
   refine ldF (v:=.int .i64 b) ?_ hc2;try simp only [sS]
   refine zat (λh2=>?_) (λh2=>?_)
   ·try simp only [sS]
    exact fin b1 hb1 true (by unfold inR; rw [decide_eq_true ⟨hl,by omega,by omega⟩]) _ rfl
   ·try simp only [sS]
    exact fin b1 hb1 false (by unfold inR; rw [decide_eq_false (by omega)]) _ rfl
  ·try simp only [sS]
   exact fin b1 hb1 false (by unfold inR; rw [decide_eq_false (by omega)]) _ rfl
 ·try simp only [sS]
  exact fin b1 hb1 false (by unfold inR; rw [decide_eq_false (by omega)]) _ rfl
def ofK (a b:Int) (want:Bool) (f:Fc):Bool:=inR a b f == want
theorem ywi {x y:Bool}:za2 .bool .neq (.bool x) (.bool y)=some (.bool !(x == y)):=rfl
theorem yhr {b1 b2:Nat} {w:Value} {a b:Int} {want:Bool} {cs:List Value} {f:Fc} (h1:F b1=some [w]) (h2:F b2=some [.bool want]) (hW:isW F w a b) (hf:zcl F cs f) (k:∀ N',N≤N' -> (Hp.mk F M N').wf -> K (.bool (!ofK a b want f)) ⟨F,M,N'⟩) :
  zbs Tryz.prog (.func (.func 104) #[] #[.pointer (some ⟨b1,0,none⟩),.pointer (some ⟨b2,0,none⟩)]) #[.agg cs.toArray] K E ⟨F,M,N⟩:=by
 have hf':=hf;obtain ⟨kv,rfl,hkv,hkl⟩:=hf';refine za4 za8 Tryz.func104 (by kernel_rfl) (zoc _ E _ _ _) (λhw=>?_);have hm:za5 M N:=hw.m;refine zap (cs:=[kv,.int .i64 f.2]) (λb3 hb3=>?_);refine ldF (v:=w) ?_ h1;refine zb6 (vs:=[kv,.int .i64 f.2]) ?_;refine ldF (v:=.bool want) ?_ h2;refine yrt hW hf (λN2 hN2 hw2=>?_);refine ⟨zaz (zh9 h2) rfl,?_⟩;refine zaa ywi ?_;exact λhc=>⟨⟨F,M,N2⟩,zbl hc (zb5 (zbb _) (hm _ hb3)),λhw'=>k _ (by omega) hw'⟩
theorem zoz {sz:Nat}:∀ (rows:List (List Value)) (i:Nat),(∀ r∈rows,r.length=sz) -> rows.flatten.take (i*sz)=(rows.take i).flatten
 | [],i,_=>by simp
 | x::rows,0,_=>by simp
 | x::rows,i+1,h=>by
  have hx:=h x List.mem_cons_self;have ih:=zoz rows i λr hr=>h r (List.mem_cons_of_mem _ hr);rw [List.flatten_cons,List.take_succ_cons,List.flatten_cons,List.take_append,List.take_of_length_le (by rw [Nat.succ_mul]; omega),← ih]
  congr 2
  rw [Nat.succ_mul]; omega
theorem yf5 {sz:Nat} {rows:List (List Value)} {rest r:List Value} (hl:∀ q∈rows,q.length=sz) {i:Nat} (hi:i<rows.length) (hr:r.length=sz):zb3 (rows.flatten++rest) (i*sz) r=(rows.set i r).flatten++rest:=by
 have hA:(rows.take i).flatten.length=i*sz:=by rw [zed _ (λq hq=>hl q (List.mem_of_mem_take hq)),List.length_take,Nat.min_eq_left (by omega)]
 have e:rows=rows.take i++rows[i]::rows.drop (i+1):=by rw [← List.drop_eq_getElem_cons hi,List.take_append_drop]
 have h:=zfu (rows.take i).flatten rows[i] r ((rows.drop (i+1)).flatten++rest) (by rw [hl _ (List.getElem_mem hi),hr]);rw [hA] at h
 have e1:rows.flatten++rest=(rows.take i).flatten++rows[i]++((rows.drop (i+1)).flatten++rest):=by
  have e2:=congrArg List.flatten e;rw [List.flatten_append,List.flatten_cons] at e2;rw [e2]; simp [List.append_assoc]
 rw [e1,h,List.set_eq_take_append_cons_drop,if_pos hi]
 simp [List.flatten_append,List.append_assoc]
theorem yhc {α:Type} {R:List Value -> α -> Prop} {B sz:Nat} {e:TypeId} {v:Value} {l:List α} {rows:List (List Value)} {K:Value -> zae} {r:List Value} {y:α} (hv:own M B e sz v l.length rows.flatten) (hr:zag R sz rows l) {i:Nat} (hi:i<l.length) (hl:r.length=sz) (h1:∀ c∈r,c.oneCell'=true) (hR:R r y)
  (k:∀ p M',own M' B e sz v (l.set i y).length (rows.set i r).flatten -> zag R sz (rows.set i r) (l.set i y) -> (∀ q,v.ownBlock≠some q -> M' q=M q) -> (∀ n,za5 M n -> za5 M' n) -> K p undef ⟨F,M',N⟩):pv (iaV none sz v (.int .i64 (i:Nat))) (λp=>st sz p (.agg r.toArray) (K p)) ⟨F,M,N⟩:=by
 rcases hv.2 with ⟨rfl,h0⟩ | ⟨b,c,rest,rfl,g1,g2,g3,g4⟩
 ·omega
 have hlen:=hr.all.1;have hfl:=hr.flen;have hle:i*sz+sz≤l.length*sz:=by rw [← Nat.succ_mul]; exact Nat.mul_le_mul_right _ hi
 refine zct hi ?_
 have hsp:zb3 (rows.flatten++rest) (0+i*sz) (Value.agg r.toArray).cells.toList=(rows.set i r).flatten++rest:=by
  rw [Nat.zero_add];exact yf5 hr.len (by omega) hl
 refine yfn g4 (by simpa [Value.cells] using hl) (by simpa [Value.cells] using h1) (by rw [List.length_append]; omega) hsp ?_;have hrs:=zxt hr (r:=r) (x:=y) ⟨hl,h1⟩ hR i;refine k _ _ ⟨by rw [hrs.flen],.inr ⟨b,c,rest,by rw [List.length_set],by rw [List.length_set]; exact g1,g2,g3,za0 _ _ _⟩⟩ hrs (λq hq=>za3 _ _ (λe=>hq (by rw [e]; rfl))) (λn hn=>hn.set (hn.lt g4) _)
theorem yqp {B:Nat} {v d:Value} {l:List Fc} {rows:List (List Value)} {p:Fc -> Bool} (hv:own M B 110 2 v l.length rows.flatten) (hr:zag (zcl F) 2 rows l) (hl:l.length≤1000000000)
  (hd:∀ {K:zae} (M1:Nat -> Option zak) (N1:Nat) (cs:List Value) (f:Fc),zcl F cs f -> (∀ N',N1≤N' -> (Hp.mk F M1 N').wf -> K (.bool (!p f)) ⟨F,M1,N'⟩) -> zbs Tryz.prog d #[.agg cs.toArray] K E ⟨F,M1,N1⟩)
  (k1:∀ i (hi:i<l.length),(∀ f∈l.take i,p f=true) -> p l[i]=false -> ∀ N',N≤N' -> (Hp.mk F M N').wf -> K (.int .i64 (i:Nat)) ⟨F,M,N'⟩)
  (k2:(∀ f∈l,p f=true) -> ∀ N',N≤N' -> (Hp.mk F M N').wf -> K (.int .i64 (-1)) ⟨F,M,N'⟩) :
  cF 152 #[v,d] K E ⟨F,M,N⟩:=by
 refine za4 za8 Tryz.func152 (by kernel_rfl) (yj4 _ E _ _) (λhw=>?_);have hlv:zab v=some (.int .i64 (l.length:Nat)):=by obtain ⟨a,c,e,_⟩:=hv.form; rw [e]; rfl
 refine zaa hlv ?_
 refine zjx (σ:=Nat) (λi=>.int .i64 (i:Nat)) (λi h=>∃ N',h=⟨F,M,N'⟩∧N≤N'∧i≤l.length∧∀ f∈l.take i,p f=true) (λi=>l.length - i) 0 rfl
  (λhw1=>⟨_,za1 hw1,N,rfl,Nat.le_refl _,Nat.zero_le _,by simp⟩) (λkk i j h1 hI hw1 next=>?_)
 rw [zjw];obtain ⟨N1,rfl,hN1,hi,he⟩:=hI;refine zat (λhlt=>?_) (λhge=>?_)
 ·have i1:i<l.length:=by omega
  try simp only [sS]
  refine zkj hv hr (by decide) i1 λq r _ hR _ _=>hd _ _ _ _ hR (λN2 hN2 hw2=>?_);cases hp:p l[i]
  ·refine zax ?_;exact λhc=>⟨_,za1 hc,λhw'=>k1 i i1 he hp _ (by omega) hw'⟩
  ·refine zaq ?_;refine zas (by omega) ?_;refine next (i+1) _ _ (by omega) (λhw3=>⟨_,za1 hw3,N2,rfl,by omega,i1,λf hf=>?_⟩);rw [List.take_add_one,List.getElem?_eq_getElem i1,Option.toList_some] at hf
   rcases List.mem_append.1 hf with hf | hf
   ·exact he f hf
   ·rw [List.mem_singleton.1 hf]; exact hp
 ·try simp only [sS]
  refine λhc=>⟨_,za1 hc,λhw'=>k2 (λf hf=>he f ?_) _ hN1 hw'⟩;rw [List.take_of_length_le (by omega)]; exact hf
theorem zp0 {α:Type} (l:List α) (i:Nat) (x:α) (hi:i<l.length):(l.set i x).take (i+1)=l.take i++[x]:=by
 rw [List.take_add_one,List.getElem?_set_self hi,Option.toList_some,List.take_set_of_le (Nat.le_refl _)]
theorem yp3 {B:Nat} {v d:Value} {l:List Fc} {rows:List (List Value)} {p:Fc -> Bool} (hv:own M B 110 2 v l.length rows.flatten) (hr:zag (zcl F) 2 rows l) (hl:l.length≤1000000000) (hB:B≤N)
  (hd:∀ {K:zae} (M1:Nat -> Option zak) (N1:Nat) (cs:List Value) (f:Fc),zcl F cs f -> (∀ N',N1≤N' -> (Hp.mk F M1 N').wf -> K (.bool (!p f)) ⟨F,M1,N'⟩) -> zbs Tryz.prog d #[.agg cs.toArray] K E ⟨F,M1,N1⟩)
  (k:∀ v' M' N' rows',own M' B 110 2 v' (l.filter p).length rows'.flatten -> zag (zcl F) 2 rows' (l.filter p) -> (∀ x,v.ownBlock≠some x -> x<N -> M' x=M x∧v'.ownBlock≠some x) -> N≤N' -> za5 M' N' -> (Hp.mk F M' N').wf -> ∃ h',(Hp.mk F M' N').wk h'∧(h'.wf -> K v' h')) :
  cF 102 #[v,d] K E ⟨F,M,N⟩:=by
 refine za4 za8 Tryz.func102 (by kernel_rfl) (zje _ E _ _) (λhw=>?_);have hm:za5 M N:=hw.m;have hlv:zab v=some (.int .i64 (l.length:Nat)):=by obtain ⟨a,c,e,_⟩:=hv.form; rw [e]; rfl
 refine yqp hv hr hl hd (λi hi he hpi N1 hN1 hw1=>?_) (λhe N1 hN1 hw1=>?_)
 rotate_left
 ·refine zeg rfl ?_;try simp only [sS]
  have e:l.filter p=l:=List.filter_eq_self.2 he;rw [e] at k;exact λhc=>k v M N1 rows hv hr (λx hx _=>⟨rfl,hx⟩) hN1 (hm.up hN1) hc
 refine zbj (by omega) ?_;try simp only [sS]
 refine zas (by omega) ?_
 refine zqj (σ:=Nat×Nat) (λs=>.int .i64 (s.1:Nat)) (λs=>.int .i64 (s.2:Nat))
  (λs h=>∃ M' N' rows' l',h=⟨F,M',N'⟩∧N≤N'∧own M' B 110 2 v l'.length rows'.flatten∧zag (zcl F) 2 rows' l'∧l'.length=l.length∧s.1<s.2∧s.2≤l.length∧l'.take s.1=(l.take s.2).filter p∧l'.drop s.2=l.drop s.2∧(∀ x,v.ownBlock≠some x -> x<N -> M' x=M x)∧za5 M' N') (λs=>l.length - s.2) (i,i+1) rfl rfl
  (λhw2=>⟨_,za1 hw2,M,N1,rows,l,rfl,hN1,hv,hr,rfl,Nat.lt_succ_self _,hi,?_,rfl,λ_ _ _=>rfl,hm.up hN1⟩) (λkk s j h1 hI hw2 next=>?_)
 ·simp only;rw [List.take_add_one,List.getElem?_eq_getElem hi,Option.toList_some,List.filter_append,List.filter_eq_self.2 he]
  simp [hpi]
 rw [zq1];obtain ⟨M2,N2,rows2,l2,rfl,hN2,ho,hr2,hl2,hs,hs2,ht,hdr,hM2,hm2⟩:=hI;refine zaa hlv ?_;refine zat (λhlt=>?_) (λhge=>?_)
 ·have j1:s.2<l.length:=by omega
  have j2:s.2<l2.length:=by omega
  have ej:l2[s.2]=l[s.2]:=by
   have h:=congrArg (λx:List Fc=>x[0]?) hdr;simp only [List.getElem?_drop,Nat.add_zero,List.getElem?_eq_getElem j1,List.getElem?_eq_getElem j2] at h;exact Option.some.inj h
  have hdr':l2.drop (s.2+1)=l.drop (s.2+1):=by rw [← List.drop_drop,← List.drop_drop,hdr]
  try simp only [sS]
  refine zkj ho hr2 (by decide) j2 λq r _ hR hrl hr1=>?_;rw [ej] at hR;have hR':=hR;obtain ⟨kv,hre,hkv,hkl⟩:=hR;subst hre;refine zap (λb5 hb5=>?_);refine stM (cs':=[kv,.int .i64 l[s.2].2]) ?_ (za0 _ _ _) rfl rfl hr1;rw [zan];refine zb6 (vs:=[kv,.int .i64 l[s.2].2]) ?_;refine hd _ _ _ _ hR' (λN3 hN3 hw3=>?_);have hvb:∀ x,v.ownBlock=some x -> x≠b5:=λx hx e=>by have := ho.lt hm2 x hx; omega
  have hbox:=za0 M2 b5 (some (.cells 110 [kv,.int .i64 l[s.2].2] [Value.slice none 0 0,Value.int .i64 0].length));have ho3:=ho.box hm2 hb5 (some (.cells 110 [kv,.int .i64 l[s.2].2] [Value.slice none 0 0,Value.int .i64 0].length));have hm3:za5 (upd M2 b5 (some (.cells 110 [kv,.int .i64 l[s.2].2] [Value.slice none 0 0,Value.int .i64 0].length))) N3:=hw3.m;have hM3:∀ x,v.ownBlock≠some x -> x<N -> upd M2 b5 (some (.cells 110 [kv,.int .i64 l[s.2].2] [Value.slice none 0 0,Value.int .i64 0].length)) x=M x:=λx hx hxN=>(za3 _ _ (by omega)).trans (hM2 x hx hxN);generalize upd M2 b5 _=M3 at *;cases hp:p l[s.2]
  ·rw [Bool.not_false];try simp only [sS]
   rw [zie];refine zas (by omega) ?_;refine next (s.1,s.2+1) _ _ (by simp only; omega) (λhw4=>⟨_,za1 hw4,M3,N3,rows2,l2,rfl,by omega,ho3,hr2,hl2,by simp only; omega,j1,?_,hdr',hM3,hm3⟩);simp only;rw [ht,List.take_add_one,List.getElem?_eq_getElem j1,Option.toList_some,List.filter_append]
   simp [hp]
  ·rw [Bool.not_true];try simp only [sS]
   refine zb6 (vs:=[kv,.int .i64 l[s.2].2]) ?_ hbox;have i1:s.1<l2.length:=by omega
   refine yhc (y:=l[s.2]) ho3 hr2 i1 rfl hr1 hR' λq M4 g1 g2 g3 g4=>?_;refine zas (by omega) ?_;rw [zie];refine zas (by omega) ?_;refine next (s.1+1,s.2+1) _ _ (by simp only; omega) (λhw4=>⟨_,za1 hw4,M4,N3,_,_,rfl,by omega,g1,g2,by rw [List.length_set]; exact hl2,by simp only; omega,j1,?_,?_,λx hx hxN=>(g3 x hx).trans (hM3 x hx hxN),g4 _ hm3⟩)
   ·simp only;rw [zp0 _ _ _ i1,ht,List.take_add_one,List.getElem?_eq_getElem j1,Option.toList_some,List.filter_append]
    simp [hp]
   ·simp only;rw [List.drop_set_of_lt (by omega)];exact hdr'
 ·try simp only [sS]
  have es:s.2=l.length:=by omega
  rw [es,List.take_length] at ht;have i1:s.1<l.length:=by omega
  have hlen2:=hr2.all.1;have hfl2:=hr2.flen;have hn:(l.filter p).length=s.1:=by rw [← ht,List.length_take]; omega
  rcases ho.2 with ⟨hv0,h0⟩ | ⟨b,c,rest,hvf,g1,g2,g3,g4⟩
  ·omega
  rw [hvf,hl2];refine zfj s.1 (by omega) (by omega) ?_;rw [if_neg (by omega)];refine .inr ⟨b,0+s.1*2,l.length - s.1,c - s.1,_,_,_,rfl,by omega,g4,by exact List.all_eq_true.1 rfl,by rw [List.length_append,hfl2]; omega,?_⟩;refine zhj s.1 (by omega) ?_
  obtain ⟨Z,hcs⟩:∃ Z,zb3 (rows2.flatten++rest) (0+s.1*2) (List.replicate (l.length - s.1) [Value.slice none 0 0,Value.int .i64 0]).flatten=(rows2.take s.1).flatten++Z:=⟨_,by
   unfold zb3;rw [Nat.zero_add,List.take_append_of_le_length (by rw [hfl2]; omega),zoz rows2 s.1 hr2.len,List.append_assoc]⟩
  have hrt:=zye hr2 s.1;rw [ht] at hrt;refine λhc=>k _ _ N2 (rows2.take s.1) ⟨by rw [hrt.flen],.inr ⟨b,c,Z,by rw [hn],by omega,g2,g3,?_⟩⟩ hrt (λx hx hxN=>⟨?_,λe=>hx (by rw [hvf]; exact e)⟩) hN2 (hm2.set (hm2.lt g4) _) hc
  ·rw [← hcs]; exact za0 _ _ _
  ·have hxb:x≠b:=λe=>hx (by rw [hvf,e]; rfl);exact (za3 _ _ hxb).trans (hM2 x hx hxN)
theorem zs6 {v w:Value} {l:List Fc} {a b:Int} {want:Bool} (hv:zbo F v l) (hW:isW F w a b) (hl:l.length≤1000000000) (hk:∀ f∈l,f.1.length≤10000000000)
  (k:∀ v' F' N',(Hp.mk F' M N').wf -> za7 F F' -> N≤N' -> zbo F' v' (l.filter (ofK a b want)) -> K v' ⟨F',M,N'⟩) :
  cF 51 #[v,w,.bool want] K E ⟨F,M,N⟩:=by
 refine za4 za8 Tryz.func51 (by kernel_rfl) (t51 _ E _ _ _) (λhw=>?_);have hm:za5 M N:=hw.m;have hW':=hW;obtain ⟨c1,c2,hwf,_,_⟩:=hW';refine zap (cs:=[w]) (λb1 hb1=>?_) (by rw [hwf]; rfl);refine zap (cs:=[.bool want]) (λb2 hb2=>?_);generalize hM2:upd (upd M b1 _) b2 _=M2;have g1:∃ e,M2 b1=some (.cells e [w] 1):=⟨_,by rw [← hM2]; exact (za3 _ _ (by omega)).trans (za0 _ _ _)⟩;have g2:∃ e,M2 b2=some (.cells e [.bool want] 1):=⟨_,by rw [← hM2]; exact za0 _ _ _⟩;have hM2':∀ q,q<N -> M2 q=M q:=λq hq=>by rw [← hM2]; exact (za3 _ _ (by omega)).trans (za3 _ _ (by omega))
 clear hM2;obtain ⟨ty1,g1⟩:=g1;obtain ⟨ty2,g2⟩:=g2;refine ziz (λhc=>⟨_,zdw hm hM2' hc,?_⟩);have hs:=zb9 (N:=N) hc;have f1:=zhq (F:=F) (N:=N) (b:=b1) (by omega) g1;have f2:=zhq (F:=F) (N:=N) (b:=b2) (by omega) g2;generalize zd3 F M2 N=F1 at *;clear hc g1 g2 hM2' M2;refine yj3 (hv.mono hs) hl hk (λv2 F2 M2 N2 rows hF2 hN2 ho hr hM2 hm2 hw2=>?_);refine yp3 (p:=ofK a b want) ho hr hl (by omega) (λM1 N1 cs f hf kk=>yhr (hF2 _ _ f1) (hF2 _ _ f2) (hW.mono (hs.trans hF2)) hf kk) (λv3 M3 N3 rows3 ho3 hr3 hM3 hN3 hm3 hc3=>⟨_,za1 hc3,λhw3=>?_⟩);have hX:∀ q,q<N -> M3 q=M q:=λq hq=>((hM3 q (λe=>by have := (ho.ge q e).1; omega) (by omega)).1).trans (hM2 q (by omega));have ho3':own M3 N 110 2 v3 (l.filter (ofK a b want)).length rows3.flatten:=ho3.keep (λ_ _=>rfl) (by omega);exact λhc=>⟨_,zdw hm hX hc,λhw'=>k _ _ _ hw' ((hs.trans hF2).trans (zb9 hc)) (by omega) (zpq hc ho3' hr3)⟩
def zc6 (F:Nat -> Option (List Value)) (v:Value) (h:List En):Prop:=∃ rows,sF F 2 v h.length rows.flatten∧zag (ze2 F) 2 rows h
theorem zc6.mono {v:Value} {t:List En} (h:zc6 F v t) (hF:za7 F F'):zc6 F' v t:=let ⟨rows,h1,h2⟩:=h; ⟨rows,h1.mono hF,h2.mono λ_ _ hr=>hr.mono hF⟩
theorem zc6.form {v:Value} {t:List En} (h:zc6 F v t):∃ a c,v=.slice a t.length c:=let ⟨rows,h1,_⟩:=h; let ⟨a,c,h2,_⟩:=h1.form; ⟨a,c,h2⟩
theorem zc6.nil {c:Nat}:zc6 F (.slice none 0 c) []:=⟨[],sF.nil _ _ _,zag.nil _ _⟩
theorem ygz {v:Value} {t:List En} {rows:List (List Value)} (hc:(Hp.mk F M' N').wf) (ho:own M' N 143 2 v t.length rows.flatten) (hr:zag (ze2 F) 2 rows t):zc6 (zd3 F M' N) v t :=
 ⟨rows,ho.rd.frz hc (λb hb=>.inl (ho.ge b hb).1),hr.mono λ_ _ h=>h.mono (zb9 hc)⟩
theorem yl5 (a b:Int):ofK a b true=inR a b:=by funext f; unfold ofK; cases inR a b f<;>rfl
theorem zyc (a b:Int):ofK a b false=zfq a b:=by funext f; unfold ofK zfq; cases inR a b f<;>rfl
theorem ycr (f:En -> Option En) (h:List En) {i:Nat} (hi:i<h.length):(h.take (i+1)).filterMap f=(h.take i).filterMap f++(f h[i]).toList:=by
 rw [List.take_add_one,List.getElem?_eq_getElem hi,Option.toList_some,List.filterMap_append];cases hf:f h[i]<;>simp [hf]
theorem yg8 (f:En -> Option En) (h:List En) (i:Nat):((h.take i).filterMap f).length≤i:=by
 have := List.length_filterMap_le f (h.take i);rw [List.length_take] at this; omega
theorem okH.keys {l:List Dm} {n m:Nat} {h:List En} (o:okH l n m h) (hl:l.length≤1000) {e:En} (he:e∈h):∀ f∈e.2,f.1.length≤10000000000:=λf hf=>by
 have := zi0 (o.fi e he f hf); omega
theorem zjp {B g:Nat} {hv dv:Value} {rows:List (List Value)} {l:List Dm} {h:List En} {a b:Int} (hC:zgg F M B g hv dv rows l h) (o:okH l 5000 200 h) (hdl:l.length≤1000)
  (k:∀ v' F' N',(Hp.mk F' M N').wf -> za7 F F' -> N≤N' -> zc6 F' v' (zce a b h) -> K v' ⟨F',M,N'⟩) :
  cF 19 #[.pointer (some ⟨g,0,none⟩),.int .i64 a,.int .i64 b] K E ⟨F,M,N⟩:=by
 refine za4 za8 Tryz.func19 (by kernel_rfl) (t19 _ E _ _ _) (λhw=>?_);have hm:za5 M N:=hw.m;have hgN:=hm.lt hC.gg;have hol:=o.le;have hlv:zab hv=some (.int .i64 (h.length:Nat)):=by obtain ⟨x,c,e,_⟩:=hC.oo.form; rw [e]; rfl
 try simp only [sS]
 refine ldM (v:=hv) ?_ hC.gg;refine zaa hlv ?_
 refine zvs (σ:=Nat×Value) (λs=>s.2) (λs=>.int .i64 (s.1:Nat))
  (λs h'=>∃ F' M' N' rows',h'=⟨F',M',N'⟩∧za7 F F'∧N≤N'∧(∀ q,q<N -> M' q=M q)∧za5 M' N'∧s.1≤h.length∧own M' N 143 2 s.2 (zce a b (h.take s.1)).length rows'.flatten∧zag (ze2 F') 2 rows' (zce a b (h.take s.1))) (λs=>h.length - s.1) (0,.slice none 0 0) rfl rfl
  (λhw2=>⟨_,za1 hw2,F,M,N,[],rfl,za7.refl _,Nat.le_refl _,λ_ _=>rfl,hm,Nat.zero_le _,own.nil,zag.nil _ _⟩) (λkk s j h1 hI hw2 next=>?_)
 rw [zun];obtain ⟨F1,M1,N1,rows1,rfl,hF1,hN1,hM1,hm1,hi,ho,hr⟩:=hI;refine zat (λhlt=>?_) (λhge=>?_)
 ·have i1:s.1<h.length:=by omega
  have e1:=ycr (zm4 a b) h i1;have hle:(zce a b (h.take s.1)).length≤s.1:=yg8 (zm4 a b) h s.1;try simp only [sS]
  have hoo1:own M1 B 143 2 hv h.length rows.flatten:=hC.oo.keep (λq hq=>hM1 q (hC.oo.lt hm q hq)) (Nat.le_refl _);refine zkj hoo1 hC.rr (by decide) i1 λp r _ hR _ hr1=>?_;obtain ⟨fv,rfl,hfv,hfl⟩:=hR;have hfm:=o.fl _ (List.getElem_mem i1);refine zap (λb4 hb4=>?_);refine stM (cs':=[.int .u32 h[s.1].1,fv]) ?_ (za0 _ _ _) rfl rfl hr1;rw [zan];have hbox:=za0 M1 b4 (some (.cells 143 [.int .u32 h[s.1].1,fv] [Value.int .u32 0,Value.slice none 0 0].length));have ho2:=ho.box hm1 hb4 (some (.cells 143 [.int .u32 h[s.1].1,fv] [Value.int .u32 0,Value.slice none 0 0].length));have hm2:=hm1.new hb4 (some (.cells 143 [.int .u32 h[s.1].1,fv] [Value.int .u32 0,Value.slice none 0 0].length));have hM2:∀ q,q<N -> upd M1 b4 (some (.cells 143 [.int .u32 h[s.1].1,fv] [Value.int .u32 0,Value.slice none 0 0].length)) q=M q:=λq hq=>(za3 _ _ (by omega)).trans (hM1 q hq);generalize upd M1 b4 _=M2 at *;try simp only [sS]
  refine ldM (v:=fv) ?_ hbox;refine zoy (λw F3 N3 hw3 hF3 hN3 hW=>?_);refine ⟨zaz (zb4 hbox) rfl,?_⟩;refine zs6 (hfv.mono (hF1.trans hF3)) hW (by omega) (o.keys hdl (List.getElem_mem i1)) (λv4 F4 N4 hw4 hF4 hN4 hf4=>?_);rw [yl5] at hf4;obtain ⟨frows,hf4a,hf4b⟩:=hf4;refine zb7 hf4a ?_;have hF4':=(hF1.trans hF3).trans hF4;refine zbw (λh0=>?_) (λh0=>?_)
  ·try simp only [sS]
   refine ldM (v:=.int .u32 h[s.1].1) ?_ hbox;obtain ⟨a5,c5,e5,_⟩:=hf4a.form;have hflen:(h[s.1].2.filter (inR a b)).length≤200:=by have := List.length_filter_le (inR a b) h[s.1].2; omega
   have he4:ze2 F4 [.int .u32 h[s.1].1,v4] (h[s.1].1,h[s.1].2.filter (inR a b)):=⟨v4,rfl,⟨frows,hf4a,hf4b⟩,by simp only; omega⟩;refine zaa (v:=.agg #[.int .u32 h[s.1].1,v4]) (by rw [e5]; kernel_rfl) ?_;refine zhb (new:=[.int .u32 h[s.1].1,v4]) ho2 hw4.m (by omega) (by rw [e5]; kernel_rfl) rfl he4.one.2 (by omega) (by unfold maxLen; omega) (λp v' M5 N5 g1 g2 g3 g4=>?_);rw [zj8];refine zas (by omega) ?_
   have e2:zce a b (h.take (s.1+1))=zce a b (h.take s.1)++[(h[s.1].1,h[s.1].2.filter (inR a b))]:=by
    unfold zce;rw [e1];unfold zm4;rw [if_pos (by omega)]; rfl
   refine next (s.1+1,v') _ _ (by simp only; omega) (λhw5=>⟨_,za1 hw5,F4,M5,N5,rows1++[[.int .u32 h[s.1].1,v4]],rfl,hF4',by omega,λq hq=>?_,g4,i1,?_,?_⟩)
   ·exact ((g2 q (λe=>by have := (ho2.ge q e).1; omega) (by omega)).1).trans (hM2 q hq)
   ·simp only;rw [e2,List.length_append,List.length_singleton];exact (by simpa using g1:own M5 N 143 2 v' _ (rows1++[[.int .u32 h[s.1].1,v4]]).flatten)
   ·simp only;rw [e2];exact zca (hr.mono λ_ _ h=>h.mono (hF3.trans hF4)) he4.one he4
  ·try simp only [sS]
   rw [zj8];refine zas (by omega) ?_
   have e2:zce a b (h.take (s.1+1))=zce a b (h.take s.1):=by
    unfold zce;rw [e1];unfold zm4;rw [if_neg (by omega)]; simp
   refine next (s.1+1,s.2) _ _ (by simp only; omega) (λhw5=>⟨_,za1 hw5,F4,M2,N4,rows1,rfl,hF4',by omega,hM2,hw4.m,i1,?_,?_⟩)
   ·simp only;rw [e2]; exact ho2
   ·simp only;rw [e2]; exact hr.mono λ_ _ h=>h.mono (hF3.trans hF4)
 ·try simp only [sS]
  rw [List.take_of_length_le (by omega)] at ho hr;exact λhc=>⟨_,zdw hm hM1 hc,λhw'=>k _ _ _ hw' (hF1.trans (zb9 hc)) hN1 (ygz hc ho hr)⟩
theorem yia (l:List Dm) (a b last:Int) (e:En) (es:List En):zdx l a b last (e::es)=(decide (last<e.1)&&zcc l e.2&&(e.2.all (inR a b)&&zdx l a b e.1 es)):=rfl
theorem yeu (l:List Dm) (a b last:Int):zdx l a b last []=true:=rfl
theorem ydl {a b:Int} {l:List Fc}:(l.filter (zfq a b)).length=0↔l.all (inR a b)=true:=by
 rw [List.length_eq_zero_iff,List.filter_eq_nil_iff,List.all_eq_true]
 constructor
 ·intro h f hf;have := h f hf;unfold zfq at this;cases hi:inR a b f
  ·rw [hi] at this; simp at this
  ·rfl
 ·intro h f hf;unfold zfq;rw [h f hf]; decide
theorem ykg {B g:Nat} {hv dv ev w:Value} {rows:List (List Value)} {l:List Dm} {h es:List En} {a b:Int} (hC:zgg F M B g hv dv rows l h) (hdl:l.length≤1000) (hes:zc6 F ev es) (hel:es.length≤140737488351232) (hW:isW F w a b)
  (k:∀ F' N',(Hp.mk F' M N').wf -> za7 F F' -> N≤N' -> K (.bool (zdx l a b 0 es)) ⟨F',M,N'⟩) :
  cF 187 #[.pointer (some ⟨g,0,none⟩),w,ev] K E ⟨F,M,N⟩:=by
 refine za4 za8 Tryz.func187 (by kernel_rfl) (ywg _ E _ _ _) (λhw=>?_);have hm:za5 M N:=hw.m;have hgN:=hm.lt hC.gg;obtain ⟨erows,he1,he2⟩:=hes;refine zb7 he1 ?_
 refine zsl (σ:=Nat×Int) (λs=>.int .u32 s.2) (λs=>.int .i64 (s.1:Nat))
  (λs h'=>∃ F' N',h'=⟨F',M,N'⟩∧za7 F F'∧N≤N'∧s.1≤es.length∧zdx l a b 0 es=zdx l a b s.2 (es.drop s.1)) (λs=>es.length - s.1) (0,0) rfl rfl
  (λhw2=>⟨_,za1 hw2,F,N,rfl,za7.refl _,Nat.le_refl _,Nat.zero_le _,rfl⟩) (λkk s j h1 hI hw2 next=>?_)
 rw [zth];obtain ⟨F1,N1,rfl,hF1,hN1,hi,hrt⟩:=hI;refine zat (λhlt=>?_) (λhge=>?_)
 ·have i1:s.1<es.length:=by omega
  rw [List.drop_eq_getElem_cons i1,yia] at hrt;have hm1:za5 M N1:=hw2.m;try simp only [sS]
  refine zih (he1.mono hF1) (he2.mono λ_ _ h=>h.mono hF1) (by decide) i1 (λp r _ hR hrl hr1=>?_);obtain ⟨fv,hre,hfv,hfl⟩:=hR;subst hre;refine zap (λb4 hb4=>?_);refine stM (cs':=[.int .u32 es[s.1].1,fv]) ?_ (za0 _ _ _) rfl rfl hr1;rw [zan];have hbox:=za0 M b4 (some (.cells 143 [.int .u32 es[s.1].1,fv] [Value.int .u32 0,Value.slice none 0 0].length));have hg2:=(za3 M (b:=b4) (k:=g) (some (.cells 143 [.int .u32 es[s.1].1,fv] [Value.int .u32 0,Value.slice none 0 0].length)) (by omega)).trans hC.gg;have hsub:∀ {F':Nat -> Option (List Value)} {n:Nat},(Hp.mk F' (upd M b4 (some (.cells 143 [.int .u32 es[s.1].1,fv] [Value.int .u32 0,Value.slice none 0 0].length))) n).wf -> (Hp.mk F' (upd M b4 (some (.cells 143 [.int .u32 es[s.1].1,fv] [Value.int .u32 0,Value.slice none 0 0].length))) n).wk ⟨F',M,n⟩:=λhc=>zbl hc (zb5 (zbb _) (hm1 _ hb4));generalize upd M b4 _=M2 at *;try simp only [sS]
  refine ldM (v:=.int .u32 es[s.1].1) ?_ hbox;refine zds (λh2=>?_) (λh2=>?_)
  ·try simp only [sS]
   rw [decide_eq_false (by omega),Bool.false_and,Bool.false_and] at hrt;exact λhc=>⟨_,hsub hc,λhw'=>by have := k _ _ hw' hF1 (by omega); rw [hrt] at this; exact this⟩
  rw [decide_eq_true (by omega),Bool.true_and] at hrt;try simp only [sS]
  refine ldM (v:=fv) ?_ hbox;try simp only [sS]
  refine zvb hg2 (hC.dd.mono hF1) (by omega) hfv hfl (λN3 hN3 hw3=>?_);cases hfit:zcc l es[s.1].2
  ·rw [hfit,Bool.false_and] at hrt;try simp only [sS]
   exact λhc=>⟨_,hsub hc,λhw'=>by have := k _ _ hw' hF1 (by omega); rw [hrt] at this; exact this⟩
  rw [hfit,Bool.true_and] at hrt;obtain ⟨f1,f2⟩:=zfw hfit;try simp only [sS]
  refine ldM (v:=fv) ?_ hbox;try simp only [sS]
  refine zs6 hfv (hW.mono hF1) (by omega) (λf hf=>by have := zi0 (f2 f hf); omega) (λv4 F4 N4 hw4 hF4 hN4 hf4=>?_);rw [zyc] at hf4;obtain ⟨frows,hf4a,hf4b⟩:=hf4;try simp only [sS]
  refine zb7 hf4a ?_;refine zbw (λh0=>?_) (λh0=>?_)
  ·try simp only [sS]
   have hall:es[s.1].2.all (inR a b)=false:=by
    cases hc:es[s.1].2.all (inR a b)
    ·rfl
    ·have := ydl.2 hc; omega
   rw [hall,Bool.false_and] at hrt;exact λhc=>⟨_,hsub hc,λhw'=>by have := k _ _ hw' (hF1.trans hF4) (by omega); rw [hrt] at this; exact this⟩
  ·try simp only [sS]
   rw [ydl.1 (by omega),Bool.true_and] at hrt;refine ldM (v:=.int .u32 es[s.1].1) ?_ hbox;refine zas (by omega) ?_;exact next (s.1+1,es[s.1].1) _ _ (by simp only; omega) (λhw5=>⟨_,hsub hw5,F4,N4,rfl,hF1.trans hF4,by omega,i1,hrt⟩)
 ·try simp only [sS]
  rw [List.drop_eq_nil_of_le (by omega),yeu] at hrt;exact λhc=>⟨_,za1 hc,λhw'=>by have := k _ _ hw' hF1 hN1; rw [hrt] at this; exact this⟩
theorem zm5 {v:Value} {l:List Int} {h:Hp} (hv:zkf h 1 v l.length (bts l)) (k:K (.string ⟨(l.map (λn=>UInt8.ofNat (Int.toNat n))).toArray⟩) h):bs v K h:=⟨_,⟨_,l,hv,rfl⟩,k⟩
theorem yqu {e:EqK} {s:ByteArray} {h:Hp} (k:K (.bool true) h):pv (za2 e .eql (.string s) (.string s)) K h:=⟨.bool true,by simp [za2,zvy],k⟩
theorem ykp (l m:List Int):bts (l++m)=bts l++bts m:=by simp [bts]
def zja (x:Int) (k:Nat):Int:=IntKind.u8.wrap (x.fdiv (2 ^ (min (8*k) 64)))
def zgb (x:Int) (size i:Nat):List Int:=(List.range i).map λj=>zja x (size - 1 - j)
def zam (x:Int) (size:Nat):List Int:=zgb x size size
theorem zly (x:Int) (size i:Nat):(zgb x size i).length=i:=by simp [zgb]
theorem za9 (x:Int) (size:Nat):(zam x size).length=size:=zly _ _ _
theorem zko (x:Int) (size i:Nat):zgb x size (i+1)=zgb x size i++[zja x (size - 1 - i)]:=by simp [zgb,List.range_succ]
def ydz (F:Nat -> Option (List Value)) (M:Nat -> Option zak) (N B n:Nat) (v:Value) (cs:List Value) (out:List Int) (K:zae):Prop :=
 ∀ v' M' N',own M' B 5 1 v' (n+out.length) (cs++bts out) -> fr M M' N v v' -> N≤N' -> za5 M' N' -> (Hp.mk F M' N').wf -> K v' ⟨F,M',N'⟩
theorem yr5 {x:Int} {k:Nat} {h:Hp} (kk:K (.int .u64 (x.fdiv (2 ^ (min k 64)))) h):pv (za2 .none .shr (.int .u64 x) (.int .u64 (k:Nat))) K h :=
 ⟨_,by
  have e:za2 .none .shr (.int .u64 x) (.int .u64 (k:Nat))=zgf .shr .u64 x (k:Nat):=rfl;rw [e]; unfold zgf; rw [if_neg (by omega)]; simp only [Int.toNat_natCast]; rfl,kk⟩
theorem zil {B n size:Nat} {v:Value} {cs:List Value} {x:Int} (h:own M B 5 1 v n cs) (hB:B≤N) (hs:size≤8) (hn:n≤1000000000000) (k:ydz F M N B n v cs (zam x size) K) :
  cF 106 #[v,.int .u64 x,.int .i64 (size:Nat)] K E ⟨F,M,N⟩:=by
 refine za4 za8 Tryz.func106 (by kernel_rfl) (zgx _ E _ _ _) (λhw=>?_);have hm:za5 M N:=hw.m;refine zcr (by omega) (by omega) ?_
 refine zwl (σ:=Nat×Value) (λs=>s.2) (λs=>.int .i64 ((size:Int) - 1 - (s.1:Nat)))
  (λs h'=>∃ M' N',h'=⟨F,M',N'⟩∧N≤N'∧za5 M' N'∧s.1≤size∧own M' B 5 1 s.2 (n+s.1) (cs++bts (zgb x size s.1))∧fr M M' N v s.2) (λs=>size - s.1) (0,v) rfl (by simp)
  (λhw2=>⟨_,za1 hw2,M,N,rfl,Nat.le_refl _,hm,Nat.zero_le _,by simpa [zgb,bts] using h,fr.refl⟩) (λkk s j h1 hI hw2 next=>?_)
 rw [zw5];obtain ⟨M1,N1,rfl,hN1,hm1,hi,ho,hfr⟩:=hI;refine zg8 (λhlt=>?_) (λhge=>?_)
 ·have i1:s.1<size:=by omega
  have e7:(size:Int) - 1 - (s.1:Nat)=((size - 1 - s.1:Nat):Int):=by omega
  rw [e7];try simp only [sS]
  refine yh4 (by omega) (yvx (a:=8) (by omega) (yr5 ?_));refine zaa (v:=.int .u8 (zja x (size - 1 - s.1))) rfl ?_;refine zhb (new:=[.int .u8 (zja x (size - 1 - s.1))]) ho hm1 (by omega) (by kernel_rfl) rfl (List.all_eq_true.1 rfl) (by omega) (by unfold maxLen; omega) (λp v' M5 N5 g1 g2 g3 g4=>?_);refine zcr (by omega) (by omega) ?_;have e8:((size - 1 - s.1:Nat):Int) - 1=(size:Int) - 1 - ((s.1+1:Nat):Int):=by omega
  rw [e8];refine next (s.1+1,v') _ _ (by simp only; omega) (λhw5=>⟨_,za1 hw5,M5,N5,rfl,by omega,g4,i1,?_,hfr.trans g2 hN1⟩);simp only;rw [zko,ykp,← List.append_assoc,← Nat.add_assoc];exact g1
 ·try simp only [sS]
  have es:s.1=size:=by omega
  rw [es] at ho;refine λhc=>⟨_,za1 hc,λhw'=>k s.2 M1 N1 ?_ hfr hN1 hm1 hw'⟩;rw [za9]; exact ho
def zb0 (x:Int):Int:=IntKind.u64.wrap x
theorem zew {x:Int} {k:IntKind} {h:Hp} (kk:K (.int .u64 (zb0 x)) h):pv (cvV .u64 (.int k x)) K h:=⟨_,rfl,kk⟩
def zfx (l:List Int):List Int:=l.flatMap λx=>zam (zb0 x) 4
def zdk (f:Fc):List Int:=zam (zb0 (f.1.length:Nat)) 1++(zfx f.1++zam (zb0 f.2) 8)
def zc8 (l:List Fc):List Int:=zam (zb0 (l.length:Nat)) 4++l.flatMap zdk
def zdq (e:En):List Int:=zam (zb0 e.1) 4++zc8 e.2
def zc9 (l:List En):List Int:=zam (zb0 (l.length:Nat)) 4++l.flatMap zdq
theorem zm3 (l:List Int):(zfx l).length=l.length*4:=by
 induction l with
 | nil=>rfl
 | cons x l ih=>
  unfold zfx at ih ⊢;rw [List.flatMap_cons,List.length_append,ih,za9,List.length_cons]; omega
theorem zel {α:Type} (f:α -> List Int) (l:List α) {i:Nat} (hi:i<l.length):(l.take (i+1)).flatMap f=(l.take i).flatMap f++f l[i]:=by
 rw [List.take_add_one,List.getElem?_eq_getElem hi,Option.toList_some,List.flatMap_append]; simp
theorem zjt {α:Type} (f:α -> List Int) (l:List α) (i:Nat):((l.take i).flatMap f).length≤(l.flatMap f).length:=by
 conv=>rhs; rw [← List.take_append_drop i l]
 rw [List.flatMap_append,List.length_append]; omega
theorem zk1 {B n a:Nat} {v:Value} {cs:List Value} {x y:List Int} (h:own M B 5 1 v (n+x.length+a) (cs++bts x++bts y)) (ha:a=y.length):own M B 5 1 v (n+(x++y).length) (cs++bts (x++y)):=by
 rw [ykp,← List.append_assoc,List.length_append,← Nat.add_assoc,← ha]; exact h
theorem ydj {B n:Nat} {v fv:Value} {cs:List Value} {l:List Fc} (h:own M B 5 1 v n cs) (hB:B≤N) (hf:zbo F fv l) (hl:l.length≤1000000) (hn:n+(zc8 l).length≤1000000000000) (k:ydz F M N B n v cs (zc8 l) K) :
  cF 107 #[v,fv] K E ⟨F,M,N⟩:=by
 refine za4 za8 Tryz.func107 (by kernel_rfl) (zo9 _ E _ _) (λhw=>?_);have hm:za5 M N:=hw.m;obtain ⟨rows,hf1,hf2⟩:=hf;unfold zc8 at hn;rw [List.length_append,za9] at hn;refine zb7 hf1 (zew ?_);refine zil (size:=4) h hB (by omega) (by omega) (λv1 M1 N1 ho1 hfr1 hN1 hm1 hw1=>?_);rw [za9] at ho1
 refine zsw (σ:=Nat×Value) (λs=>s.2) (λs=>.int .i64 (s.1:Nat))
  (λs h'=>∃ M' N',h'=⟨F,M',N'⟩∧N≤N'∧za5 M' N'∧s.1≤l.length∧own M' B 5 1 s.2 (n+(zam (zb0 (l.length:Nat)) 4++(l.take s.1).flatMap zdk).length) (cs++bts (zam (zb0 (l.length:Nat)) 4++(l.take s.1).flatMap zdk))∧fr M M' N v s.2) (λs=>l.length - s.1) (0,v1) rfl rfl
  (λhw2=>⟨_,za1 hw2,M1,N1,rfl,hN1,hm1,Nat.zero_le _,by simpa [za9] using ho1,hfr1⟩) (λkk s j h1 hI hw2 next=>?_)
 rw [zs8];obtain ⟨M2,N2,rfl,hN2,hm2,hi,ho,hfr⟩:=hI;refine zb7 hf1 ?_;refine zat (λhlt=>?_) (λhge=>?_)
 ·have i1:s.1<l.length:=by omega
  have et:=zel zdk l i1;have hle:=zjt zdk l (s.1+1);rw [et,List.length_append] at hle;have hfl:(zdk l[s.1]).length=1+l[s.1].1.length*4+8:=by unfold zdk; rw [List.length_append,List.length_append,za9,za9,zm3]; omega
  obtain ⟨pre,hpre⟩:∃ p,p=zam (zb0 (l.length:Nat)) 4++(l.take s.1).flatMap zdk:=⟨_,rfl⟩;have hpl:pre.length+(zdk l[s.1]).length≤4+(l.flatMap zdk).length:=by rw [hpre,List.length_append,za9]; omega
  rw [← hpre] at ho;try simp only [sS]
  refine zeb hf1 hf2 (by decide) i1 (off:=0) (by decide) λp q r x hR _ hx=>?_;obtain ⟨kv,rfl,hkv,hkl⟩:=hR;have hx':x=kv:=by simpa using hx.symm
  subst hx';refine zb7 hkv (zew ?_);refine zil (size:=1) ho (by omega) (by omega) (by omega) (λv3 M3 N3 ho3 hfr3 hN3 hm3 hw3=>?_);rw [za9] at ho3
  refine zj1 (σ:=Nat×Value) (λt=>t.2) (λt=>.int .i64 (t.1:Nat))
   (λt h'=>∃ M' N',h'=⟨F,M',N'⟩∧N≤N'∧za5 M' N'∧t.1≤l[s.1].1.length∧own M' B 5 1 t.2 (n+(pre++(zam (zb0 (l[s.1].1.length:Nat)) 1++zfx (l[s.1].1.take t.1))).length) (cs++bts (pre++(zam (zb0 (l[s.1].1.length:Nat)) 1++zfx (l[s.1].1.take t.1))))∧fr M M' N v t.2) (λt=>l[s.1].1.length - t.1) (0,v3) rfl rfl
   (λhw4=>⟨_,za1 hw4,M3,N3,rfl,by omega,hm3,Nat.zero_le _,?_,hfr.trans hfr3 hN2⟩) (λkk2 t j2 h2 hI2 hw4 next2=>?_)
  ·have e0:zfx (l[s.1].1.take 0)=[]:=by simp [zfx]
   simp only;rw [e0,List.append_nil];exact zk1 ho3 (by rw [za9])
  rw [zis];obtain ⟨M4,N4,rfl,hN4,hm4,hi4,ho4,hfr4⟩:=hI2;have htl:(zfx (l[s.1].1.take t.1)).length≤l[s.1].1.length*4:=by rw [zm3,List.length_take]; exact Nat.mul_le_mul_right _ (by omega)
  have hqb:(pre++(zam (zb0 (l[s.1].1.length:Nat)) 1++zfx (l[s.1].1.take t.1))).length≤4+(l.flatMap zdk).length:=by
   rw [List.length_append,List.length_append,za9]; omega
  try simp only [sS]
  refine zeb hf1 hf2 (by decide) i1 (off:=0) (by decide) λp q r x hR _ hx=>?_;obtain ⟨kv,rfl,hkv,hkl⟩:=hR;have hx':x=kv:=by simpa using hx.symm
  subst hx';refine zb7 hkv ?_;refine zat (λhlt2=>?_) (λhge2=>?_)
  ·have k1:t.1<l[s.1].1.length:=by omega
   try simp only [sS]
   refine zeb hf1 hf2 (by decide) i1 (off:=0) (by decide) λp q r y hR _ hy=>?_;obtain ⟨kv,rfl,hkv,hkl⟩:=hR;have hy':y=kv:=by simpa using hy.symm
   subst hy';refine zfm hkv k1 λp=>zew ?_;refine zil (size:=4) ho4 (by omega) (by omega) (by omega) (λv5 M5 N5 ho5 hfr5 hN5 hm5 hw5=>?_);rw [za9] at ho5;refine zas (by omega) ?_;have ek:zfx (l[s.1].1.take (t.1+1))=zfx (l[s.1].1.take t.1)++zam (zb0 l[s.1].1[t.1]) 4:=zel _ _ k1;refine next2 (t.1+1,v5) _ _ (by simp only; omega) (λhw6=>⟨_,za1 hw6,M5,N5,rfl,by omega,hm5,k1,?_,hfr4.trans hfr5 hN4⟩);simp only;rw [ek,← List.append_assoc,← List.append_assoc,List.append_assoc pre];exact zk1 ho5 (by rw [za9])
  ·try simp only [sS]
   rw [List.take_of_length_le (by omega)] at ho4;refine zeb hf1 hf2 (by decide) i1 (off:=1) (by decide) λp q r y hR _ hy=>?_;obtain ⟨kv,rfl,hkv,hkl⟩:=hR;have hy':y=.int .i64 l[s.1].2:=by simpa using hy.symm
   subst hy';refine zew ?_;refine zil (size:=8) ho4 (by omega) (by omega) (by rw [List.length_append,List.length_append,za9,zm3]; omega) (λv5 M5 N5 ho5 hfr5 hN5 hm5 hw5=>?_);rw [za9] at ho5;refine zas (by omega) ?_;refine next (s.1+1,v5) _ _ (by simp only; omega) (λhw6=>⟨_,za1 hw6,M5,N5,rfl,by omega,hm5,i1,?_,hfr4.trans hfr5 hN4⟩);simp only;rw [et,← List.append_assoc,← hpre];have := zk1 ho5 (by rw [za9]);rw [List.append_assoc pre,List.append_assoc] at this;exact this
 ·try simp only [sS]
  rw [List.take_of_length_le (by omega)] at ho;exact λhc=>⟨_,za1 hc,λhw'=>k s.2 M2 N2 ho hfr hN2 hm2 hw'⟩
theorem zwd {B n:Nat} {v ev:Value} {cs:List Value} {l:List En} (h:own M B 5 1 v n cs) (hB:B≤N) (he:zc6 F ev l) (hl:l.length≤1000000) (hfl:∀ e∈l,e.2.length≤1000000) (hn:n+(zc9 l).length≤1000000000000) (k:ydz F M N B n v cs (zc9 l) K) :
  cF 53 #[v,ev] K E ⟨F,M,N⟩:=by
 refine za4 za8 Tryz.func53 (by kernel_rfl) (t53 _ E _ _) (λhw=>?_);have hm:za5 M N:=hw.m;obtain ⟨rows,hf1,hf2⟩:=he;unfold zc9 at hn;rw [List.length_append,za9] at hn;refine zb7 hf1 (zew ?_);refine zil (size:=4) h hB (by omega) (by omega) (λv1 M1 N1 ho1 hfr1 hN1 hm1 hw1=>?_);rw [za9] at ho1
 refine zu6 (σ:=Nat×Value) (λs=>s.2) (λs=>.int .i64 (s.1:Nat))
  (λs h'=>∃ M' N',h'=⟨F,M',N'⟩∧N≤N'∧za5 M' N'∧s.1≤l.length∧own M' B 5 1 s.2 (n+(zam (zb0 (l.length:Nat)) 4++(l.take s.1).flatMap zdq).length) (cs++bts (zam (zb0 (l.length:Nat)) 4++(l.take s.1).flatMap zdq))∧fr M M' N v s.2) (λs=>l.length - s.1) (0,v1) rfl rfl
  (λhw2=>⟨_,za1 hw2,M1,N1,rfl,hN1,hm1,Nat.zero_le _,by simpa [za9] using ho1,hfr1⟩) (λkk s j h1 hI hw2 next=>?_)
 rw [zu2];obtain ⟨M2,N2,rfl,hN2,hm2,hi,ho,hfr⟩:=hI;refine zb7 hf1 ?_;refine zat (λhlt=>?_) (λhge=>?_)
 ·have i1:s.1<l.length:=by omega
  have et:=zel zdq l i1;have hle:=zjt zdq l (s.1+1);rw [et,List.length_append] at hle;have hel:(zdq l[s.1]).length=4+(zc8 l[s.1].2).length:=by unfold zdq; rw [List.length_append,za9]
  obtain ⟨pre,hpre⟩:∃ p,p=zam (zb0 (l.length:Nat)) 4++(l.take s.1).flatMap zdq:=⟨_,rfl⟩;have hpl:pre.length+(zdq l[s.1]).length≤4+(l.flatMap zdq).length:=by rw [hpre,List.length_append,za9]; omega
  rw [← hpre] at ho;try simp only [sS]
  refine zeb hf1 hf2 (by decide) i1 (off:=0) (by decide) λp q r x hR _ hx=>?_;obtain ⟨fv,rfl,hfv,hfvl⟩:=hR;have hx':x=.int .u32 l[s.1].1:=by simpa using hx.symm
  subst hx';refine zew ?_;refine zil (size:=4) ho (by omega) (by omega) (by omega) (λv3 M3 N3 ho3 hfr3 hN3 hm3 hw3=>?_);rw [za9] at ho3;refine zeb hf1 hf2 (by decide) i1 (off:=1) (by decide) λp q r x hR _ hx=>?_;obtain ⟨fv,rfl,hfv,hfvl⟩:=hR;have hx':x=fv:=by simpa using hx.symm
  subst hx';have ho3':=zk1 ho3 (by rw [za9]);refine ydj ho3' (by omega) hfv (hfl _ (List.getElem_mem i1)) (by rw [List.length_append,za9]; omega) (λv5 M5 N5 ho5 hfr5 hN5 hm5 hw5=>?_);refine zas (by omega) ?_;refine next (s.1+1,v5) _ _ (by simp only; omega) (λhw6=>⟨_,za1 hw6,M5,N5,rfl,by omega,hm5,i1,?_,(hfr.trans hfr3 hN2).trans hfr5 (by omega)⟩);simp only;rw [et,← List.append_assoc,← hpre];have := zk1 ho5 rfl;rw [List.append_assoc pre] at this;exact this
 ·try simp only [sS]
  rw [List.take_of_length_le (by omega)] at ho;exact λhc=>⟨_,za1 hc,λhw'=>k s.2 M2 N2 ho hfr hN2 hm2 hw'⟩
theorem ydc {u v:Value} {l:List En} (hu:zc6 F u l) (hv:zc6 F v l) (hl:l.length≤1000000) (hfl:∀ e∈l,e.2.length≤1000000) (hn:(zc9 l).length≤100000000000) (k:∀ N',N≤N' -> (Hp.mk F M N').wf -> K (.bool true) ⟨F,M,N'⟩) :
  cF 20 #[u,v] K E ⟨F,M,N⟩:=by
 refine za4 za8 Tryz.func20 (by kernel_rfl) (t20 _ E _ _) (λhw=>?_);have hm:za5 M N:=hw.m;refine zwd (B:=N) own.nil (Nat.le_refl _) hu hl hfl (by omega) (λv1 M1 N1 ho1 hfr1 hN1 hm1 hw1=>?_);rw [Nat.zero_add,List.nil_append] at ho1;refine zm5 ho1.rd.read ?_;refine zwd (B:=N) own.nil (by omega) hv hl hfl (by omega) (λv2 M2 N2 ho2 hfr2 hN2 hm2 hw2=>?_);rw [Nat.zero_add,List.nil_append] at ho2;have ho1':own M2 N 5 1 v1 (zc9 l).length (bts (zc9 l)):=ho1.keep (λq hq=>(hfr2 q (by simp [Value.ownBlock]) (ho1.lt hm1 q hq)).1) (Nat.le_refl _);refine ⟨⟨_,zc9 l,ho1'.rd.read,rfl⟩,?_⟩;refine zm5 ho2.rd.read (yqu ?_);exact λhc=>⟨_,zbl hc (λq c hq=>by rw [(hfr2 q (by simp [Value.ownBlock]) (by have := hm.lt hq; omega)).1,(hfr1 q (by simp [Value.ownBlock]) (hm.lt hq)).1]; exact hq),λhw'=>k _ (by omega) hw'⟩
theorem ygs {R:Ending -> FrameMode -> Hp -> Prop} {h:Hp} (k:R (.returned (.tuple #[])) .returning h):zqr Tryz.prog 321 #[] .returning R h:=by
 refine zoh za8 Tryz.func321 (id:=0) (rest:=sel (zaf Tryz.f321) [1]) (ops:=zgs (sel (zaf Tryz.f321) [0])) (d:=some 0) (by kernel_rfl) (by kernel_rfl) (by kernel_rfl)
  (X:=pv (zo2 .neq .nilIface) λt1=>cnd t1 (ld false 1 (.pointer (some ⟨0,0,none⟩)) λt2=>pnc t2 (λc h=>c≠[]∧R (.panicked c) .returning h) λ_=>R (.returned (.tuple #[])) .returning) (R (.returned (.tuple #[])) .returning)) (by kernel_rfl) ?_
 exact zaa rfl (zaq k)
theorem zn9 {e:EqK} {a b:Nat} {h:Hp} (h2:a*b<9223372036854775808) (k:K (.int .i64 ((a*b:Nat):Int)) h):pv (za2 e .mul (.int .i64 a) (.int .i64 b)) K h :=
 ⟨_,by simp [za2,zfa]; rfl,by
  have e:((a:Int)*b)=((a*b:Nat):Int):=by simp
  rw [IntKind.wrap_i64,e];rw [show ((a*b:Nat):Int)+9223372036854775808=(a*b:Nat)+9223372036854775808 from rfl];rw [show (((a*b:Nat):Int)+9223372036854775808)%18446744073709551616 - 9223372036854775808=((a*b:Nat):Int) by omega];exact k⟩
theorem ycl {Z:Value -> Value -> Value -> Hp -> Prop} {v:Value} {bs:List Int} {C:Nat} (hm:za5 M N) (hv:sR F M 1 v bs.length (bts bs)) (hC:bs.length≤C) (hC0:0<C) (hC1:C≤100000000)
  (k:∀ b c' z,N≤b -> z.length+bs.length=C -> C≤c' -> c'≤maxLen -> (∀ x∈z,x.oneCell'=true) -> Z (.slice (some ⟨b,0,none⟩) C c') (.int .i64 (bs.length:Nat)) (.slice (some ⟨b,0,none⟩) bs.length c') ⟨F,upd M b (some (.cells 5 (bts bs++z) c')),b+1⟩) :
  zpj 5 [(.int .u8 0)] 1 1 (.slice none 0 0) (.int .i64 (C:Nat)) (λt8=>cpy 1 t8 v λt9=>pv (slV 1 t8 none (some t9) none) λt10=>Z t8 t9 t10) ⟨F,M,N⟩:=by
 refine ⟨none,0,0,[],C,.i64,rfl,rfl,⟨by simp,.inl ⟨none,0,rfl,rfl⟩⟩,Nat.le_refl _,by omega,by omega,by unfold maxLen; omega,λb c' hb hc hcm=>?_⟩;have hlen:(bts bs).length=bs.length:=by simp [bts]
 have hz:((List.replicate C [Value.int .u8 0]).flatten).length=C:=by simp
 rw [Nat.zero_add] at hc ⊢;refine ⟨b,0,C,c',_,_,_,bs.length,bts bs,rfl,za0 _ _ _,(hv.new hm hb).read,λc hc=>?_,by simp; omega,?_⟩
 ·have := List.mem_of_mem_take hc;simp only [bts,List.mem_map] at this;obtain ⟨x,_,rfl⟩:=this; rfl
 ·have et:(bts bs).take (bs.length*1)=bts bs:=by rw [Nat.mul_one,← hlen,List.take_length]
  rw [Nat.min_eq_left hC,et];refine zhj bs.length (by omega) ?_
  have e:zb3 ([]++(List.replicate C [Value.int .u8 0]).flatten) 0 (bts bs)=bts bs++List.replicate (C - bs.length) (.int .u8 0):=by
   simp [zb3,hlen]
  have := k b c' (List.replicate (C - bs.length) (.int .u8 0)) hb (by simp; omega) hc hcm (λx hx=>by rw [List.eq_of_mem_replicate hx]; rfl);rw [← e,← zan M b (some (.cells 5 ([]++(List.replicate C [Value.int .u8 0]).flatten) c'))] at this;rw [Nat.mul_one];exact this
theorem ycd {v:Value} {bs:List Int} {n c:Nat} {a:Option Addr} (hv:sR F M 1 v bs.length (bts bs)) (hc:v=.slice a bs.length c) (hcap:c<bs.length+n) (hl:bs.length+n≤4194304)
  (k:∀ b c' z,N≤b -> n≤z.length -> bs.length+z.length≤c' -> c'≤maxLen -> (∀ x∈z,x.oneCell'=true) -> (Hp.mk F (upd M b (some (.cells 5 (bts bs++z) c'))) (b+1)).wf -> K (.slice (some ⟨b,0,none⟩) bs.length c') ⟨F,upd M b (some (.cells 5 (bts bs++z) c')),b+1⟩) :
  cF 303 #[v,.int .i64 (n:Nat)] K E ⟨F,M,N⟩:=by
 refine zsm Tryz.func303 (by kernel_rfl) (λhw=>?_);have hm:za5 M N:=hw.m;refine zd0 (a:=sel (zaf Tryz.f303) [0]) (b:=sel (zaf Tryz.f303) [1]) (by kernel_rfl) ?_;refine zcz za8 (zc0 zd2) (yq0 ..) ?_;refine zd0 (a:=sel (zaf Tryz.f303) [1,0]) (b:=sel (zaf Tryz.f303) [1,1]) (by kernel_rfl) ?_;refine zxq (id:=1) (by kernel_rfl) (zc0 zd2) (yiz ..) ⟨_,_,_,rfl,?_⟩;refine zcz za8 zd2 (ylu ..) ?_;subst hc
 have fin:∀ b c' z,N≤b -> ∀ C,bs.length+n≤C -> z.length+bs.length=C -> C≤c' -> c'≤maxLen -> (∀ x∈z,x.oneCell'=true) -> ∀ env:Env,env.getD 4 undef=.slice (some ⟨b,0,none⟩) bs.length c' ->
   zxg Tryz.prog Tryz.f303.results.toList (λv h=>h.wf -> ∃ h',h.wk h'∧(h'.wf -> K v h')) E [{ target:=.fn (.func 321) #[],args:=#[] }] .ret env ⟨F,upd M b (some (.cells 5 (bts bs++z) c')),b+1⟩:=by
  intro b c' z hb C hC hz hcc hcm hone env he;refine ⟨by simp,by kernel_rfl,ygs ?_⟩;refine λhc=>⟨_,za1 hc,λhw'=>?_⟩;have := k b c' z hb (by omega) (by omega) hcm hone hw';rw [← he] at this;exact this
 refine zaa rfl (zm7 (by omega) (by omega) (zaa rfl (zn9 (a:=2) (by omega) ?_)));refine zat (λh1=>zax ?_) (λh1=>zaq ?_)
 ·refine zaa rfl (zn9 (a:=2) (by omega) ?_);exact ycl hm hv (by omega) (by omega) (by omega) λb c' z hb hz hcc hcm hone=>fin b c' z hb (2*c) (by omega) hz hcc hcm hone _ rfl
 ·have e:((bs.length:Int)+(n:Nat))=((bs.length+n:Nat):Int):=rfl;rw [e];exact ycl hm hv (by omega) (by omega) (by omega) λb c' z hb hz hcc hcm hone=>fin b c' z hb _ (Nat.le_refl _) hz hcc hcm hone _ rfl
structure zbc (M:Nat -> Option zak) (B p:Nat) (e:TypeId) (post:List Value) (tot:Nat) (v:Value) (bs:List Int):Prop where
 pp:∃ lr,M p=some (.cells e (v :: .int .i64 0 :: .int .i8 lr::post) tot)
 ow:own M B 5 1 v bs.length (bts bs)
 ne:v.ownBlock≠some p
 bl:bs.length≤2097152
def bfr (M M':Nat -> Option zak) (N p:Nat) (v v':Value):Prop:=∀ q,q≠p -> v.ownBlock≠some q -> q<N -> M' q=M q∧v'.ownBlock≠some q
section
variable {B p tot:Nat} {e:TypeId} {post:List Value} {v:Value} {bs:List Int}
theorem zm2 (P:zbc M B p e post tot v bs) (k:(Hp.mk F M N).wf -> K (.int .i64 (bs.length:Nat)) ⟨F,M,N⟩) :
  cF 65 #[.pointer (some ⟨p,0,none⟩)] K E ⟨F,M,N⟩:=by
 refine za4 za8 Tryz.func65 (by kernel_rfl) (t65 _ E _) (λhw=>?_);obtain ⟨lr,hp⟩:=P.pp;obtain ⟨a,c,rfl,hc⟩:=P.ow.form;try simp only [sS]
 refine ldM (v:=.slice a bs.length c) ?_ hp;try simp only [sS]
 refine ldM (v:=.int .i64 0) ?_ hp;refine zcr (by have := P.bl; omega) (by have := P.bl; omega) ?_;rw [Int.sub_zero];exact λhc=>⟨_,za1 hc,k⟩
theorem zzl (P:zbc M B p e post tot v bs) (k:(Hp.mk F M N).wf -> K v ⟨F,M,N⟩) :
  cF 85 #[.pointer (some ⟨p,0,none⟩)] K E ⟨F,M,N⟩:=by
 refine za4 za8 Tryz.func85 (by kernel_rfl) (t85 _ E _) (λhw=>?_);obtain ⟨lr,hp⟩:=P.pp;try simp only [sS]
 refine ldM (v:=v) ?_ hp;try simp only [sS]
 refine ldM (v:=.int .i64 0) ?_ hp
 rcases P.ow.2 with ⟨rfl,h0⟩ | ⟨b,c,rest,rfl,h1,h2,h3,h4⟩
 ·refine zaa (v:=.slice none 0 0) (by kernel_rfl) ?_;exact λhc=>⟨_,za1 hc,k⟩
 ·refine zfj 0 (Nat.zero_le _) h1 ?_;have:(if c=0 then (⟨b,0,none⟩:Addr) else ⟨b,0+0*1,none⟩)=⟨b,0,none⟩:=by split<;>rfl
  rw [this];exact λhc=>⟨_,za1 hc,k⟩
theorem yhx {lr:Int} {vb len c n:Nat} (hp:M p=some (.cells e (.slice (some ⟨vb,0,none⟩) len c :: .int .i64 0 :: .int .i8 lr::post) tot)) (h1:len+n≤c) (h2:c≤maxLen)
  (k:(Hp.mk F (upd M p (some (.cells e (.slice (some ⟨vb,0,none⟩) (len+n) c :: .int .i64 0 :: .int .i8 lr::post) tot))) N).wf -> K (.tuple #[.int .i64 (len:Nat),.bool true]) ⟨F,upd M p (some (.cells e (.slice (some ⟨vb,0,none⟩) (len+n) c :: .int .i64 0 :: .int .i8 lr::post) tot)),N⟩) :
  cF 264 #[.pointer (some ⟨p,0,none⟩),.int .i64 (n:Nat)] K E ⟨F,M,N⟩:=by
 refine za4 za8 Tryz.func264 (by kernel_rfl) (yqj _ E _ _) (λhw=>?_);unfold maxLen at h2;try simp only [sS]
 refine ldM (v:=.slice (some ⟨vb,0,none⟩) len c) ?_ hp;try simp only [sS]
 refine ldM (v:=.slice (some ⟨vb,0,none⟩) len c) ?_ hp;try simp only [sS]
 refine zcr (by omega) (by omega) (ym7 (by omega) (zax ?_));try simp only [sS]
 refine ldM (v:=.slice (some ⟨vb,0,none⟩) len c) ?_ hp;refine zm7 (by omega) (by omega) ?_;have ea:((len:Int)+(n:Nat))=((len+n:Nat):Int):=rfl;rw [ea];refine zhj (len+n) h1 ?_;try simp only [sS]
 refine stM (cs':=.slice (some ⟨vb,0,none⟩) (len+n) c :: .int .i64 0 :: .int .i8 lr::post) ?_ hp (by simp [zb3,Value.cells]) rfl (List.all_eq_true.1 rfl) (by simp);exact λhc=>⟨_,za1 hc,k⟩
theorem yc4 {lr:Int} {a:Option Addr} {len c n:Nat} (hp:M p=some (.cells e (.slice a len c :: .int .i64 0 :: .int .i8 lr::post) tot)) (h1:c<len+n) (h2:len≤c) (h3:len+n≤10000000)
  (k:(Hp.mk F M N).wf -> K (.tuple #[.int .i64 0,.bool false]) ⟨F,M,N⟩) :
  cF 264 #[.pointer (some ⟨p,0,none⟩),.int .i64 (n:Nat)] K E ⟨F,M,N⟩:=by
 refine za4 za8 Tryz.func264 (by kernel_rfl) (yqj _ E _ _) (λhw=>?_);try simp only [sS]
 refine ldM (v:=.slice a len c) ?_ hp;try simp only [sS]
 refine ldM (v:=.slice a len c) ?_ hp;try simp only [sS]
 refine zcr (by omega) (by omega) (ym8 (by omega) (zaq ?_));exact λhc=>⟨_,za1 hc,k⟩
end
theorem sl0 {a:Option Addr} {len c:Nat} (h:len≤c) (ha:a=none∨∃ b,a=some ⟨b,0,none⟩):slV 1 (.slice a len c) (some (.int .i64 0)) none none=some (.slice a len c):=by
 rcases ha with rfl | ⟨b,rfl⟩<;>simp [slV,bnd,zz5,h,Addr.add]
section
variable {B p tot:Nat} {e:TypeId} {post:List Value} {v:Value} {bs:List Int}
theorem ych {lr:Int} {a:Option Addr} {c n:Nat} (hp:M p=some (.cells e (.slice a bs.length c :: .int .i64 0 :: .int .i8 lr::post) tot)) (ow:own M B 5 1 (.slice a bs.length c) bs.length (bts bs)) (hne:(Value.slice a bs.length c).ownBlock≠some p)
  (hf:c<bs.length+n) (hn:0<n) (hl:bs.length+n≤2097152)
  (k:∀ vb c' z M' N',N≤vb -> vb<N' -> M' p=some (.cells e (.slice (some ⟨vb,0,none⟩) (bs.length+n) c' :: .int .i64 0 :: .int .i8 lr::post) tot) -> M' vb=some (.cells 5 (bts bs++z) c') -> n≤z.length -> bs.length+z.length≤c' -> c'≤maxLen -> (∀ x∈z,x.oneCell'=true) ->
   (∀ q,q≠p -> q<N -> M' q=M q) -> za5 M' N' -> (Hp.mk F M' N').wf -> K (.int .i64 (bs.length:Nat)) ⟨F,M',N'⟩) :
  cF 265 #[.pointer (some ⟨p,0,none⟩),.int .i64 (n:Nat)] K E ⟨F,M,N⟩:=by
 refine za4 za8 Tryz.func265 (by kernel_rfl) (ysa _ E _ _) (λhw=>?_);have hm:za5 M N:=hw.m;have P:zbc M B p e post tot (.slice a bs.length c) bs:=⟨⟨lr,hp⟩,ow,hne,by omega⟩;have hpN:p<N:=hm.lt hp;have hcl:bs.length≤c:=by obtain ⟨a1,c1,he,h1⟩:=ow.form; cases he; exact h1
 have hw0:=hw
 have fin:∀ vb c' z,N≤vb -> n≤z.length -> bs.length+z.length≤c' -> c'≤maxLen -> (∀ x∈z,x.oneCell'=true) ->
   (Hp.mk F (upd (upd M vb (some (.cells 5 (bts bs++z) c'))) p (some (.cells e (.slice (some ⟨vb,0,none⟩) (bs.length+n) c' :: .int .i64 0 :: .int .i8 lr::post) tot))) (vb+1)).wf ->
   K (.int .i64 (bs.length:Nat)) ⟨F,upd (upd M vb (some (.cells 5 (bts bs++z) c'))) p (some (.cells e (.slice (some ⟨vb,0,none⟩) (bs.length+n) c' :: .int .i64 0 :: .int .i8 lr::post) tot)),vb+1⟩:=λvb c' z h1 h2 h3 h4 h5 hw'=>
  k vb c' z _ _ h1 (by omega) (za0 _ _ _) ((za3 _ _ (by omega)).trans (za0 _ _ _)) h2 h3 h4 h5 (λq h6 h7=>(za3 _ _ h6).trans (za3 _ _ (by omega))) (((hm.new h1 _)).set (by omega) _) hw'
 have hmx:c≤maxLen:=by
  rcases ow.2 with ⟨e0,h00⟩ | ⟨b0,c0,rest,e0,g1,g2,g3,g4⟩
  ·simp only [Value.slice.injEq] at e0; unfold maxLen; omega
  ·simp only [Value.slice.injEq] at e0; rw [e0.2.2]; exact g2
 unfold maxLen at hmx
 have hform:(a=none∧bs.length=0∧c=0)∨∃ b0,a=some ⟨b0,0,none⟩:=by
  rcases ow.2 with ⟨e0,h00⟩ | ⟨b0,c0,rest,e0,g1,g2,g3,g4⟩
  ·simp only [Value.slice.injEq] at e0; exact .inl ⟨e0.1,e0.2.1,e0.2.2⟩
  ·simp only [Value.slice.injEq] at e0; exact .inr ⟨b0,e0.1⟩
 refine zm2 P (λhw1=>?_);refine zau (λh0=>?a) (λh0=>?b)
 case' a=>
  try simp only [sS]
  refine ldM (v:=.int .i64 0) ?_ hp;refine zc3 rfl ?_
 all_goals try simp only [sS]
 all_goals rw [yf8]
 all_goals refine yc4 hp hf hcl (by omega) (λhw2=>?_)
 all_goals try simp only [sS]
 all_goals refine ldM (v:=.slice a bs.length c) ?_ hp
 all_goals rcases hform with ⟨rfl,hl0,hc0⟩ | ⟨b0,rfl⟩
 all_goals first
  | refine zaa (v:=.bool true) rfl ?_
  | refine zaa (v:=.bool false) rfl ?_
 all_goals try simp only [sS]
 all_goals try refine zds (λh64=>?_) (λh64=>?_)
 all_goals try simp only [sS]
 all_goals try
  refine ⟨.i64,n,.i64,64,rfl,rfl,by omega,by omega,by unfold maxLen; omega,λvb hvb=>?_⟩;have hbs:bs=[]:=List.eq_nil_of_length_eq_zero hl0;subst hbs;try simp only [sS]
  refine stM (cs':=.slice (some ⟨vb,0,none⟩) n 64 :: .int .i64 0 :: .int .i8 lr::post) ?_ ((za3 _ _ (by have:N≤vb:=hvb; omega)).trans hp) (by simp [zb3,Value.cells]) rfl (List.all_eq_true.1 rfl) (by simp);have := fin vb 64 (List.replicate n [Value.int .u8 0]).flatten hvb (by simp) (by simp; omega) (by unfold maxLen; omega) (λx hx=>by simp at hx; rw [hx.2]; rfl);simp only [List.length_nil,Nat.zero_add,show bts ([]:List Int)=[] from rfl,List.nil_append] at this;exact λhc=>⟨_,za1 hc,this⟩
 all_goals refine ldM (v:=.slice _ bs.length c) ?_ hp
 all_goals try simp only [sS]
 all_goals refine yf1 (a:=(c:Int)) (b:=2) (by omega) (by omega) (by omega) ?_
 all_goals refine zcr (by omega) (by omega) (ym8 (by omega) (zaq ?_))
 all_goals refine zcr (by omega) (by omega) (zcr (by omega) (by omega) (zr2 (by omega) (zaq ?_)))
 all_goals try simp only [sS]
 all_goals refine ldM (v:=.slice _ bs.length c) ?_ hp
 all_goals try simp only [sS]
 all_goals refine ldM (v:=.int .i64 0) ?_ hp
 all_goals first
  | refine zaa (sl0 hcl (.inl rfl)) ?_
  | refine zaa (sl0 hcl (.inr ⟨_,rfl⟩)) ?_
 all_goals try simp only [sS]
 all_goals refine ldM (v:=.int .i64 0) ?_ hp
 all_goals refine zm7 (by omega) (by omega) ?_
 all_goals rw [Int.zero_add]
 all_goals refine ycd ow.rd rfl hf (by omega) (λvb c' z hvb hz hc' hcm hone hw3=>?_)
 all_goals try simp only [sS]
 all_goals have hp1:upd M vb (some (.cells 5 (bts bs++z) c')) p=_:=(za3 _ _ (by omega)).trans hp
 all_goals refine stM (cs':=.slice (some ⟨vb,0,none⟩) bs.length c' :: .int .i64 0 :: .int .i8 lr::post) ?_ hp1 (by simp [zb3,Value.cells]) rfl (List.all_eq_true.1 rfl) (by simp)
 all_goals rw [zpe]
 all_goals try simp only [sS]
 all_goals refine stM (cs':=.slice (some ⟨vb,0,none⟩) bs.length c' :: .int .i64 0 :: .int .i8 lr::post) ?_ (za0 _ _ _) (by simp [zb3,Value.cells]) rfl (List.all_eq_true.1 rfl) (by simp)
 all_goals rw [zan]
 all_goals try simp only [sS]
 all_goals refine ldM (v:=.slice (some ⟨vb,0,none⟩) bs.length c') ?_ (za0 _ _ _)
 all_goals refine zm7 (by omega) (by omega) ?_
 all_goals rw [show ((bs.length:Int)+(n:Nat))=((bs.length+n:Nat):Int) from rfl]
 all_goals refine zhj (bs.length+n) (by omega) ?_
 all_goals try simp only [sS]
 all_goals refine stM (cs':=.slice (some ⟨vb,0,none⟩) (bs.length+n) c' :: .int .i64 0 :: .int .i8 lr::post) ?_ (za0 _ _ _) (by simp [zb3,Value.cells]) rfl (List.all_eq_true.1 rfl) (by simp)
 all_goals rw [zan]
 all_goals exact λhc=>⟨_,za1 hc,fin vb c' z hvb hz hc' hcm hone⟩
def zz1 (M:Nat -> Option zak) (B:Nat) (v:Value) (bs:List Int):Prop :=
 (v=.slice none 0 0∧bs=[])∨∃ b c rest,v=.slice (some ⟨b,0,none⟩) bs.length c∧c≤maxLen∧B≤b∧M b=some (.cells 5 (bts bs++rest) c)∧bs.length+rest.length=c
theorem zz1.own {M:Nat -> Option zak} (h:zz1 M B v bs):own M B 5 1 v bs.length (bts bs):=by
 rcases h with ⟨rfl,rfl⟩ | ⟨b,c,rest,rfl,h2,h3,h4,h5⟩
 ·exact own.nil
 ·exact ⟨by simp [bts],.inr ⟨b,c,rest,rfl,by omega,h2,h3,by rw [Nat.mul_one]; exact h4⟩⟩
theorem zy3 {vb c:Nat} {l:List Int} {z:List Value} (h:M vb=some (.cells 5 (bts l++z) c)) (hc:l.length≤c) (hm:c≤maxLen) (hB:B≤vb):own M B 5 1 (.slice (some ⟨vb,0,none⟩) l.length c) l.length (bts l) :=
 ⟨by simp [bts],.inr ⟨vb,c,z,rfl,hc,hm,hB,by rw [Nat.mul_one]; exact h⟩⟩
theorem yd5 {ys:List Int} {z:List Value}:zb3 (bts bs++z) bs.length (bts ys)=bts (bs++ys)++z.drop ys.length:=by
 have h1:(bts bs).length=bs.length:=by simp [bts]
 have h2:(bts ys).length=ys.length:=by simp [bts]
 unfold zb3;rw [List.take_left' h1,List.drop_append,h1,h2,Nat.add_sub_cancel_left,List.drop_eq_nil_of_le (by omega),ykp,List.nil_append]
theorem zuc {f:FuncId} {args:Array Value} (P:zbc M B p e post tot v bs) (hb:(((Tryz.prog.funcs[f]?).map λfn=>fn.name != "runtime.NumGoroutine" && fn.body.isSome).getD false)=true)
  (hc:∀ M1,zbc M1 B p e post tot v bs -> zz1 M1 B v bs -> (∀ q,v.ownBlock≠some q -> M1 q=M q) -> za5 M1 N -> call Tryz.prog f (zcp (zcp #[] args) #[]) K E ⟨F,M1,N⟩) (hm:za5 M N):zbs Tryz.prog (.func (.func f) #[] #[]) args K E ⟨F,M,N⟩:=by
 rcases P.ow.2 with ⟨e0,h0⟩ | ⟨b,c,rest,e0,g1,g2,g3,g4⟩
 ·exact .inl ⟨hb,hc M P (.inl ⟨e0,List.eq_nil_of_length_eq_zero h0⟩) (λ_ _=>rfl) hm⟩
 ·refine zp3 (first:=#[]) (captured:=#[]) g4 rfl hb (λext hext=>?_);have hbne:b≠p:=λh=>P.ne (by rw [e0,h]; rfl);have hbl:(bts bs).length=bs.length:=by simp [bts]
  have hN:=hm.lt g4;rw [Nat.mul_one,List.append_assoc] at hext ⊢;simp only [List.length_append] at hext;have h2:zz1 (upd M b (some (.cells 5 (bts bs++(rest++ext)) c))) B v bs:=.inr ⟨b,c,rest++ext,e0,g2,g3,za0 _ _ _,by simp; omega⟩
  exact hc (upd M b (some (.cells 5 (bts bs++(rest++ext)) c))) ⟨by obtain ⟨lr,hp⟩:=P.pp; exact ⟨lr,(za3 _ _ (λe=>hbne e.symm)).trans hp⟩,h2.own,P.ne,P.bl⟩ h2
   (λq hq=>za3 _ _ (λe=>hq (by rw [e0,e]; rfl))) (hm.set hN _)
theorem ykl {x:Value} {ys:List Int} (P:zbc M B p e post tot v bs) (hm:za5 M N) (hB:B≤N) (hx:sR F M 1 x ys.length (bts ys)) (hxo:∀ q,x.ownBlock=some q -> v.ownBlock≠some q∧q≠p∧q<N) (hy:0<ys.length) (hl:bs.length+ys.length≤2097152)
  (k:∀ v' M' N',zbc M' B p e post tot v' (bs++ys) -> bfr M M' N p v v' -> N≤N' -> za5 M' N' -> (Hp.mk F M' N').wf -> K (.tuple #[.int .i64 (ys.length:Nat),.nilIface]) ⟨F,M',N'⟩) :
  cF 204 #[.pointer (some ⟨p,0,none⟩),x] K E ⟨F,M,N⟩:=by
 refine zuc P (by kernel_rfl) (λM1 P1 hf hM1 hm1=>?_) hm;refine zkm za8 Tryz.func204 (by kernel_rfl) (ysv _ E _ _) (λhw=>?_);obtain ⟨lr,hp⟩:=P1.pp;obtain ⟨xa,xc,rfl,hxc⟩:=hx.form;have hpN:p<N:=hm1.lt hp;have hx1:sR F M1 1 (.slice xa ys.length xc) ys.length (bts ys):=hx.keep (za7.refl _) λq c hq hM=>(hM1 q (hxo q hq).1).trans hM;try simp only [sS]
 refine stM (cs':=v :: .int .i64 0 :: .int .i8 0::post) ?_ hp (by simp [zb3,Value.cells]) rfl (List.all_eq_true.1 rfl) (by simp)
 have tail:∀ (vb c':Nat) (z:List Value) (M2:Nat -> Option zak) (N2:Nat),(v.ownBlock=some vb∨N≤vb) -> N≤N2 -> M2 p=some (.cells e (.slice (some ⟨vb,0,none⟩) (bs.length+ys.length) c' :: .int .i64 0 :: .int .i8 0::post) tot) -> M2 vb=some (.cells 5 (bts bs++z) c') ->
   ys.length≤z.length -> bs.length+z.length≤c' -> c'≤maxLen -> (∀ q,q≠p -> v.ownBlock≠some q -> q<N -> M2 q=M q) -> za5 M2 N2 -> vb≠p -> B≤vb ->
   ld false 1 (.pointer (some ⟨p,0,none⟩)) (λt3=>pv (slV 1 t3 (some (.int .i64 (bs.length:Nat))) none none) λt4=>cpy 1 t4 (.slice xa ys.length xc) λt5 h=>h.wf -> ∃ h',h.wk h'∧(h'.wf -> K (.tuple #[t5,.nilIface]) h')) ⟨F,M2,N2⟩:=by
  intro vb c' z M2 N2 hvb hN2 h1 h2 h3 h4 h5 h6 hm2 h7 h8;have hvN:=hm2.lt h2;refine ldM (v:=.slice (some ⟨vb,0,none⟩) (bs.length+ys.length) c') ?_ h1;refine zfj bs.length (by omega) (by omega) ?_;rw [if_neg (by omega:¬ c'=bs.length),show bs.length+ys.length - bs.length=ys.length by omega];have hx2:sR F M2 1 (.slice xa ys.length xc) ys.length (bts ys):=hx.keep (za7.refl _) λq c hq hM=>(h6 q (hxo q hq).2.1 (hxo q hq).1 (hxo q hq).2.2).trans hM;have hbl:(bts bs).length=bs.length:=by simp [bts]
  have hyl:(bts ys).length=ys.length:=by simp [bts]
  have ht:(bts ys).take (min ys.length ys.length*1)=bts ys:=by rw [Nat.min_self,Nat.mul_one,← hyl,List.take_length]
  refine ⟨vb,_,ys.length,_,_,_,_,ys.length,bts ys,rfl,h2,hx2.read,λc hc=>?_,by simp [hbl]; omega,?_⟩
  ·rw [ht] at hc;simp only [bts,List.mem_map] at hc;obtain ⟨y,_,rfl⟩:=hc; rfl
  ·rw [ht,Nat.zero_add,Nat.mul_one,yd5,Nat.min_self];refine λhc=>⟨_,za1 hc,λhw'=>k (.slice (some ⟨vb,0,none⟩) (bs.length+ys.length) c') _ N2 ?_ ?_ hN2 (hm2.set hvN _) hw'⟩
   ·refine ⟨⟨0,(za3 _ _ (λe=>h7 e.symm)).trans h1⟩,?_,λe=>h7 (by simpa [Value.ownBlock] using e),by simp; omega⟩;have := zy3 (M:=upd M2 vb (some (.cells 5 (bts (bs++ys)++z.drop ys.length) c'))) (za0 _ _ _) (by simp; omega) h5 h8;rw [List.length_append] at this ⊢;exact this
   ·intro q q1 q2 q3;have:q≠vb:=λe=>by rcases hvb with h | h; exact q2 (by rw [h,e]); omega
    exact ⟨(za3 _ _ this).trans (h6 q q1 q2 q3),λe=>this (by simpa [Value.ownBlock] using e.symm)⟩
 have hM1':∀ q,q≠p -> v.ownBlock≠some q -> q<N -> upd M1 p (some (.cells e (v :: .int .i64 0 :: .int .i8 0::post) tot)) q=M q:=λq q1 q2 _=>(za3 _ _ q1).trans (hM1 q q2);have ow1:own (upd M1 p (some (.cells e (v :: .int .i64 0 :: .int .i8 0::post) tot))) B 5 1 v bs.length (bts bs):=hf.own.keep (λq hq=>za3 _ _ (λe=>P1.ne (by rw [hq,e]))) (Nat.le_refl _);try simp only [sS]
 have hcase:(∃ a c,v=.slice a bs.length c∧bs.length≤c∧c<bs.length+ys.length)∨∃ b c rest,v=.slice (some ⟨b,0,none⟩) bs.length c∧bs.length+ys.length≤c∧c≤maxLen∧B≤b∧M1 b=some (.cells 5 (bts bs++rest) c)∧bs.length+rest.length=c:=by
  rcases hf with ⟨rfl,hbs⟩ | ⟨b,c,rest,rfl,g2,g3,g4,g5⟩
  ·exact .inl ⟨none,0,by rw [hbs]; rfl,by rw [hbs]; exact Nat.le_refl _,by omega⟩
  ·by_cases hfit:bs.length+ys.length≤c
   ·exact .inr ⟨b,c,rest,rfl,hfit,g2,g3,g4,g5⟩
   ·exact .inl ⟨_,c,rfl,by omega,by omega⟩
 rcases hcase with ⟨a,c,rfl,hcl,hc⟩ | ⟨b,c,rest,rfl,hfit,g2,g3,g4,g5⟩
 ·refine yc4 (za0 _ _ _) hc hcl (by omega) (λhw2=>?_);try simp only [sS]
  refine ych (B:=B) (za0 _ _ _) ow1 P1.ne hc hy hl (λvb c' z M' N' h1 hvN h2 h3 h4 h5 h6 h7 h8 h9 hw3=>?_);try simp only [sS]
  rw [zpr];try simp only [sS]
  exact tail vb c' z M' N' (.inr h1) (by omega) h2 h3 h4 h5 h6 (λq q1 q2 q3=>(h8 q q1 q3).trans (hM1' q q1 q2 q3)) h9 (by omega) (by omega)
 ·refine yhx (za0 _ _ _) hfit g2 (λhw2=>?_);try simp only [sS]
  rw [zpr];try simp only [sS]
  rw [zan];have hbp:b≠p:=λe=>P1.ne (by rw [e]; rfl);exact tail b c rest _ N (.inl rfl) (Nat.le_refl _) (za0 _ _ _) ((za3 _ _ hbp).trans g4) (by omega) (by omega) g2 (λq q1 q2 q3=>(za3 _ _ q1).trans (hM1 q q2)) (hm1.set hpN _) hbp g3
theorem zqw {x:Int} (P:zbc M B p e post tot v bs) (hm:za5 M N) (hB:B≤N) (hl:bs.length+1≤2097152)
  (k:∀ v' M' N',zbc M' B p e post tot v' (bs++[x]) -> bfr M M' N p v v' -> N≤N' -> za5 M' N' -> (Hp.mk F M' N').wf -> K .nilIface ⟨F,M',N'⟩) :
  cF 262 #[.pointer (some ⟨p,0,none⟩),.int .u8 x] K E ⟨F,M,N⟩:=by
 refine zuc P (by kernel_rfl) (λM1 P1 hf hM1 hm1=>?_) hm;refine zkm za8 Tryz.func262 (by kernel_rfl) (ysh _ E _ _) (λhw=>?_);obtain ⟨lr,hp⟩:=P1.pp;have hpN:p<N:=hm1.lt hp;try simp only [sS]
 refine stM (cs':=v :: .int .i64 0 :: .int .i8 0::post) ?_ hp (by simp [zb3,Value.cells]) rfl (List.all_eq_true.1 rfl) (by simp)
 have tail:∀ (vb c':Nat) (z:List Value) (M2:Nat -> Option zak) (N2:Nat),(v.ownBlock=some vb∨N≤vb) -> N≤N2 -> M2 p=some (.cells e (.slice (some ⟨vb,0,none⟩) (bs.length+1) c' :: .int .i64 0 :: .int .i8 0::post) tot) -> M2 vb=some (.cells 5 (bts bs++z) c') ->
   1≤z.length -> bs.length+z.length≤c' -> c'≤maxLen -> (∀ q,q≠p -> v.ownBlock≠some q -> q<N -> M2 q=M q) -> za5 M2 N2 -> vb≠p -> B≤vb ->
   ld false 1 (.pointer (some ⟨p,0,none⟩)) (λt3=>pv (iaV none 1 t3 (.int .i64 (bs.length:Nat))) λt4=>st 1 t4 (.int .u8 x) λ_ h=>h.wf -> ∃ h',h.wk h'∧(h'.wf -> K .nilIface h')) ⟨F,M2,N2⟩:=by
  intro vb c' z M2 N2 hvb hN2 h1 h2 h3 h4 h5 h6 hm2 h7 h8;have hvN:=hm2.lt h2;refine ldM (v:=.slice (some ⟨vb,0,none⟩) (bs.length+1) c') ?_ h1;refine zct (by omega) ?_;have hbl:(bts bs).length=bs.length:=by simp [bts]
  refine stM (cs':=bts (bs++[x])++z.drop 1) ?_ h2 (by rw [Nat.zero_add,Nat.mul_one]; exact yd5 (ys:=[x])) rfl (List.all_eq_true.1 rfl) (by simp [hbl]; omega)
  ·skip
   refine λhc=>⟨_,za1 hc,λhw'=>k (.slice (some ⟨vb,0,none⟩) (bs.length+1) c') _ N2 ?_ ?_ hN2 (hm2.set hvN _) hw'⟩
   ·refine ⟨⟨0,(za3 _ _ (λe=>h7 e.symm)).trans h1⟩,?_,λe=>h7 (by simpa [Value.ownBlock] using e),by simp; omega⟩;have := zy3 (M:=upd M2 vb (some (.cells 5 (bts (bs++[x])++z.drop 1) c'))) (za0 _ _ _) (by simp; omega) h5 h8
    simpa using this
   ·intro q q1 q2 q3;have:q≠vb:=λe=>by rcases hvb with h | h; exact q2 (by rw [h,e]); omega
    exact ⟨(za3 _ _ this).trans (h6 q q1 q2 q3),λe=>this (by simpa [Value.ownBlock] using e.symm)⟩
 have hM1':∀ q,q≠p -> v.ownBlock≠some q -> q<N -> upd M1 p (some (.cells e (v :: .int .i64 0 :: .int .i8 0::post) tot)) q=M q:=λq q1 q2 _=>(za3 _ _ q1).trans (hM1 q q2);have ow1:own (upd M1 p (some (.cells e (v :: .int .i64 0 :: .int .i8 0::post) tot))) B 5 1 v bs.length (bts bs):=hf.own.keep (λq hq=>za3 _ _ (λe=>P1.ne (by rw [hq,e]))) (Nat.le_refl _);try simp only [sS]
 have hcase:(∃ a c,v=.slice a bs.length c∧bs.length≤c∧c<bs.length+1)∨∃ b c rest,v=.slice (some ⟨b,0,none⟩) bs.length c∧bs.length+1≤c∧c≤maxLen∧B≤b∧M1 b=some (.cells 5 (bts bs++rest) c)∧bs.length+rest.length=c:=by
  rcases hf with ⟨rfl,hbs⟩ | ⟨b,c,rest,rfl,g2,g3,g4,g5⟩
  ·exact .inl ⟨none,0,by rw [hbs]; rfl,by rw [hbs]; exact Nat.le_refl _,by omega⟩
  ·by_cases hfit:bs.length+1≤c
   ·exact .inr ⟨b,c,rest,rfl,hfit,g2,g3,g4,g5⟩
   ·exact .inl ⟨_,c,rfl,by omega,by omega⟩
 rcases hcase with ⟨a,c,rfl,hcl,hc⟩ | ⟨b,c,rest,rfl,hfit,g2,g3,g4,g5⟩
 ·refine yc4 (n:=1) (za0 _ _ _) hc hcl (by omega) (λhw2=>?_);try simp only [sS]
  refine ych (n:=1) (B:=B) (za0 _ _ _) ow1 P1.ne hc (by omega) hl (λvb c' z M' N' h1 hvN h2 h3 h4 h5 h6 h7 h8 h9 hw3=>?_);try simp only [sS]
  rw [zqg];try simp only [sS]
  exact tail vb c' z M' N' (.inr h1) (by omega) h2 h3 h4 h5 h6 (λq q1 q2 q3=>(h8 q q1 q3).trans (hM1' q q1 q2 q3)) h9 (by omega) (by omega)
 ·refine yhx (n:=1) (za0 _ _ _) hfit g2 (λhw2=>?_);try simp only [sS]
  rw [zqg];try simp only [sS]
  rw [zan];have hbp:b≠p:=λe=>P1.ne (by rw [e]; rfl);exact tail b c rest _ N (.inl rfl) (Nat.le_refl _) (za0 _ _ _) ((za3 _ _ hbp).trans g4) (by omega) (by omega) g2 (λq q1 q2 q3=>(za3 _ _ q1).trans (hM1 q q2)) (hm1.set hpN _) hbp g3
end
section
variable {B p tot:Nat} {e:TypeId} {post:List Value} {v:Value} {bs:List Int}
theorem bfr.trans {M'':Nat -> Option zak} {v' v'':Value} (h:bfr M M' N p v v') (k:bfr M' M'' N' p v' v'') (hN:N≤N'):bfr M M'' N p v v'':=λq q1 q2 q3=>
 ⟨((k q q1 (h q q1 q2 q3).2 (by omega)).1).trans (h q q1 q2 q3).1,(k q q1 (h q q1 q2 q3).2 (by omega)).2⟩
theorem bfr.refl:bfr M M N p v v:=λq _ q2 _=>⟨rfl,q2⟩
theorem zyt {x:Int} {k:Nat} {h:Hp} (kk:K (.int .u64 (x.fdiv (2 ^ (min k 64)))) h):pv (za2 .none .shr (.int .u64 x) (.int .i64 (k:Nat))) K h :=
 ⟨_,by
  have e:za2 .none .shr (.int .u64 x) (.int .i64 (k:Nat))=zgf .shr .u64 x (k:Nat):=rfl;rw [e]; unfold zgf; rw [if_neg (by omega)]; simp only [Int.toNat_natCast]; rfl,kk⟩
def zte (F:Nat -> Option (List Value)) (M:Nat -> Option zak) (N B p:Nat) (e:TypeId) (post:List Value) (tot:Nat) (v:Value) (bs out:List Int) (K:zae):Prop :=
 ∀ v' M' N',zbc M' B p e post tot v' (bs++out) -> bfr M M' N p v v' -> N≤N' -> za5 M' N' -> (Hp.mk F M' N').wf -> K (.tuple #[]) ⟨F,M',N'⟩
theorem yqo {kx:IntKind} {x:Int} {size:Nat} (P:zbc M B p e post tot v bs) (hm:za5 M N) (hB:B≤N) (hs:size≤8) (hl:bs.length+size≤2097152) (k:zte F M N B p e post tot v bs (zam (zb0 x) size) K) :
  cF 193 #[.pointer (some ⟨p,0,none⟩),.int kx x,.int .i64 (size:Nat)] K E ⟨F,M,N⟩:=by
 refine za4 za8 Tryz.func193 (by kernel_rfl) (yw5 _ E _ _ _) (λhw=>?_)
 refine yea (σ:=Nat×Value) (λs=>.int .i64 (s.1:Nat))
  (λs h'=>∃ M' N',h'=⟨F,M',N'⟩∧N≤N'∧za5 M' N'∧s.1≤size∧zbc M' B p e post tot s.2 (bs++zgb (zb0 x) size s.1)∧bfr M M' N p v s.2) (λs=>size - s.1) (0,v) rfl
  (λhw2=>⟨_,za1 hw2,M,N,rfl,Nat.le_refl _,hm,Nat.zero_le _,by simpa [zgb] using P,bfr.refl⟩) (λkk s j h1 hI hw2 next=>?_)
 rw [yfl];obtain ⟨M1,N1,rfl,hN1,hm1,hi,P1,hfr⟩:=hI;refine zat (λhlt=>?_) (λhge=>?_)
 ·have i1:s.1<size:=by omega
  try simp only [sS]
  refine zew ?_;refine zcr (by omega) (by omega) (zcr (by omega) (by omega) ?_);rw [show (size:Int) - 1 - (s.1:Nat)=((size - 1 - s.1:Nat):Int) by omega];refine zn9 (a:=8) (by omega) (zyt ?_);refine zaa (v:=.int .u8 (zja (zb0 x) (size - 1 - s.1))) rfl ?_;refine zqw P1 hm1 (by omega) (by rw [List.length_append,zly]; omega) (λv' M5 N5 g1 g2 g3 g4 hw5=>?_);refine zas (by omega) ?_;refine next (s.1+1,v') _ _ (by simp only; omega) (λhw5=>⟨_,za1 hw5,M5,N5,rfl,by omega,g4,i1,?_,hfr.trans g2 hN1⟩);simp only;rw [zko,← List.append_assoc];exact g1
 ·try simp only [sS]
  have es:s.1=size:=by omega
  rw [es] at P1;exact λhc=>⟨_,za1 hc,λhw'=>k s.2 M1 N1 P1 hfr hN1 hm1 hw'⟩
theorem zwt {kx:IntKind} {x:Int} {size:Nat} (P:zbc M B p e post tot v bs) (hm:za5 M N) (hB:B≤N) (hs:size≤8) (hl:bs.length+size≤2097152) (k:zte F M N B p e post tot v bs (zam (zb0 x) size) K) :
  cF 194 #[.pointer (some ⟨p,0,none⟩),.int kx x,.int .i64 (size:Nat)] K E ⟨F,M,N⟩:=by
 refine za4 za8 Tryz.func194 (by kernel_rfl) (ywr _ E _ _ _) (λhw=>?_)
 refine ye0 (σ:=Nat×Value) (λs=>.int .i64 (s.1:Nat))
  (λs h'=>∃ M' N',h'=⟨F,M',N'⟩∧N≤N'∧za5 M' N'∧s.1≤size∧zbc M' B p e post tot s.2 (bs++zgb (zb0 x) size s.1)∧bfr M M' N p v s.2) (λs=>size - s.1) (0,v) rfl
  (λhw2=>⟨_,za1 hw2,M,N,rfl,Nat.le_refl _,hm,Nat.zero_le _,by simpa [zgb] using P,bfr.refl⟩) (λkk s j h1 hI hw2 next=>?_)
 rw [yel];obtain ⟨M1,N1,rfl,hN1,hm1,hi,P1,hfr⟩:=hI;refine zat (λhlt=>?_) (λhge=>?_)
 ·have i1:s.1<size:=by omega
  try simp only [sS]
  refine zew ?_;refine zcr (by omega) (by omega) (zcr (by omega) (by omega) ?_);rw [show (size:Int) - 1 - (s.1:Nat)=((size - 1 - s.1:Nat):Int) by omega];refine zn9 (a:=8) (by omega) (zyt ?_);refine zaa (v:=.int .u8 (zja (zb0 x) (size - 1 - s.1))) rfl ?_;refine zqw P1 hm1 (by omega) (by rw [List.length_append,zly]; omega) (λv' M5 N5 g1 g2 g3 g4 hw5=>?_);refine zas (by omega) ?_;refine next (s.1+1,v') _ _ (by simp only; omega) (λhw5=>⟨_,za1 hw5,M5,N5,rfl,by omega,g4,i1,?_,hfr.trans g2 hN1⟩);simp only;rw [zko,← List.append_assoc];exact g1
 ·try simp only [sS]
  have es:s.1=size:=by omega
  rw [es] at P1;exact λhc=>⟨_,za1 hc,λhw'=>k s.2 M1 N1 P1 hfr hN1 hm1 hw'⟩
theorem zki {kx:IntKind} {x:Int} {size:Nat} (P:zbc M B p e post tot v bs) (hm:za5 M N) (hB:B≤N) (hs:size≤8) (hl:bs.length+size≤2097152) (k:zte F M N B p e post tot v bs (zam (zb0 x) size) K) :
  cF 197 #[.pointer (some ⟨p,0,none⟩),.int kx x,.int .i64 (size:Nat)] K E ⟨F,M,N⟩:=by
 refine za4 za8 Tryz.func197 (by kernel_rfl) (ysc _ E _ _ _) (λhw=>?_)
 refine ye5 (σ:=Nat×Value) (λs=>.int .i64 (s.1:Nat))
  (λs h'=>∃ M' N',h'=⟨F,M',N'⟩∧N≤N'∧za5 M' N'∧s.1≤size∧zbc M' B p e post tot s.2 (bs++zgb (zb0 x) size s.1)∧bfr M M' N p v s.2) (λs=>size - s.1) (0,v) rfl
  (λhw2=>⟨_,za1 hw2,M,N,rfl,Nat.le_refl _,hm,Nat.zero_le _,by simpa [zgb] using P,bfr.refl⟩) (λkk s j h1 hI hw2 next=>?_)
 rw [yfo];obtain ⟨M1,N1,rfl,hN1,hm1,hi,P1,hfr⟩:=hI;refine zat (λhlt=>?_) (λhge=>?_)
 ·have i1:s.1<size:=by omega
  try simp only [sS]
  refine zew ?_;refine zcr (by omega) (by omega) (zcr (by omega) (by omega) ?_);rw [show (size:Int) - 1 - (s.1:Nat)=((size - 1 - s.1:Nat):Int) by omega];refine zn9 (a:=8) (by omega) (zyt ?_);refine zaa (v:=.int .u8 (zja (zb0 x) (size - 1 - s.1))) rfl ?_;refine zqw P1 hm1 (by omega) (by rw [List.length_append,zly]; omega) (λv' M5 N5 g1 g2 g3 g4 hw5=>?_);refine zas (by omega) ?_;refine next (s.1+1,v') _ _ (by simp only; omega) (λhw5=>⟨_,za1 hw5,M5,N5,rfl,by omega,g4,i1,?_,hfr.trans g2 hN1⟩);simp only;rw [zko,← List.append_assoc];exact g1
 ·try simp only [sS]
  have es:s.1=size:=by omega
  rw [es] at P1;exact λhc=>⟨_,za1 hc,λhw'=>k s.2 M1 N1 P1 hfr hN1 hm1 hw'⟩
theorem yn8 {kx:IntKind} {x:Int} {size:Nat} (P:zbc M B p e post tot v bs) (hm:za5 M N) (hB:B≤N) (hs:size≤8) (hl:bs.length+size≤2097152) (k:zte F M N B p e post tot v bs (zam (zb0 x) size) K) :
  cF 263 #[.pointer (some ⟨p,0,none⟩),.int kx x,.int .i64 (size:Nat)] K E ⟨F,M,N⟩:=by
 refine za4 za8 Tryz.func263 (by kernel_rfl) (yt6 _ E _ _ _) (λhw=>?_)
 refine yfg (σ:=Nat×Value) (λs=>.int .i64 (s.1:Nat))
  (λs h'=>∃ M' N',h'=⟨F,M',N'⟩∧N≤N'∧za5 M' N'∧s.1≤size∧zbc M' B p e post tot s.2 (bs++zgb (zb0 x) size s.1)∧bfr M M' N p v s.2) (λs=>size - s.1) (0,v) rfl
  (λhw2=>⟨_,za1 hw2,M,N,rfl,Nat.le_refl _,hm,Nat.zero_le _,by simpa [zgb] using P,bfr.refl⟩) (λkk s j h1 hI hw2 next=>?_)
 rw [yed];obtain ⟨M1,N1,rfl,hN1,hm1,hi,P1,hfr⟩:=hI;refine zat (λhlt=>?_) (λhge=>?_)
 ·have i1:s.1<size:=by omega
  try simp only [sS]
  refine zew ?_;refine zcr (by omega) (by omega) (zcr (by omega) (by omega) ?_);rw [show (size:Int) - 1 - (s.1:Nat)=((size - 1 - s.1:Nat):Int) by omega];refine zn9 (a:=8) (by omega) (zyt ?_);refine zaa (v:=.int .u8 (zja (zb0 x) (size - 1 - s.1))) rfl ?_;refine zqw P1 hm1 (by omega) (by rw [List.length_append,zly]; omega) (λv' M5 N5 g1 g2 g3 g4 hw5=>?_);refine zas (by omega) ?_;refine next (s.1+1,v') _ _ (by simp only; omega) (λhw5=>⟨_,za1 hw5,M5,N5,rfl,by omega,g4,i1,?_,hfr.trans g2 hN1⟩);simp only;rw [zko,← List.append_assoc];exact g1
 ·try simp only [sS]
  have es:s.1=size:=by omega
  rw [es] at P1;exact λhc=>⟨_,za1 hc,λhw'=>k s.2 M1 N1 P1 hfr hN1 hm1 hw'⟩
end
open Go.MapKept
theorem yce {w0 w:World} {h:Hp} {d:Nat} (r:Rep w0 h { w with drawn:=d }) (hd:w0.drawn≤w.drawn):Rep w0 h w :=
 ⟨⟨r.below.os,r.below.tape,r.below.output,r.below.size,r.below.block⟩,hd,r.nx,r.base,r.fr,r.cl,r.ob⟩
structure yku (es:Array MapEntry) (clock:Nat):Prop where
 st:Stamped es clock
 ks:∀ x∈es.toList,∃ id:Int,x.key=.int .u32 id∧0≤id∧id<4294967296
 sz:es.size≤1000000
theorem yq7 {x:Int} (h0:0≤x) (h1:x<4294967296):(Lit.int .u32 x).wf=true:=by
 simp [Lit.wf,IntKind.min,IntKind.max,IntKind.bits,IntKind.signed]; omega
theorem yef {bm mb:Nat} {es:Array MapEntry} {clock:Nat} (hE:E [] zcu) (hbm:F bm=some [.map (some mb)]) (hmb:M mb=some (.obj (.map es clock))) (hK:yku es clock)
  (k:∀ v' (ss:List Int) M' N',ss.Nodup -> (∀ x:Int,x∈ss↔∃ e∈es.toList,e.key=.int .u32 x) -> own M' N 38 1 v' ss.length (ss.map (Value.int .u32)) -> (∀ q,q<N -> M' q=M q) -> N≤N' -> za5 M' N' -> K v' ⟨F,M',N'⟩) :
  cF 109 #[.func (.func 111) #[] #[.pointer (some ⟨bm,0,none⟩)]] K E ⟨F,M,N⟩:=by
 refine .inl ⟨by kernel_rfl,λw0 w hl r=>?_⟩;have hd0:=hl hE;have hm:za5 M N:=r.wf.m;obtain ⟨q1,q2,q3,hb,_⟩:=r.ob mb _ hmb;have hcell:w.cell? ⟨bm,0,none⟩=some (.map (some mb)):=r.cell (cs:=[.map (some mb)]) (.inl hbm) rfl;have hbw:bm<w.heap.size:=by have := (r.fr bm _ hbm).1; exact Nat.lt_of_lt_of_le this r.nx
 have hrd:∀ e∈es.toList,∀ id,e.key=.int .u32 id -> 0≤id -> id<4294967296 -> WideElems.rd (H:=Unit) Tryz.prog 38 zop e=some (.int .u32 id,.lit (.bool true)):=λe he id h1 h2 h3=>by
  unfold WideElems.rd;rw [h1,Maps.keyOf_int_mk Tryz.underlying38 (yq7 h2 h3)]
  rfl
 have hfit:WideElems.Fit (H:=Unit) Tryz.prog 38 zop es clock:=⟨by have := hK.sz; unfold maxLen; omega,hK.st,λx hx=>let ⟨id,h1,h2,h3⟩:=hK.ks x hx; ⟨_,hrd x hx id h1 h2 h3⟩⟩;have hown:=World.ownsMap_of_fit (w:=w) (b:=mb) hb hfit (R:=zop) (λ_ _ _ h=>h);generalize hD:(DataW.map ((es.toList.map (WideElems.rg Tryz.prog 38 zop)).foldr DataW.insert []):DataW Unit)=D0 at hown
 have hsize:Maps.size D0=es.size:=by
  rw [← hD,Maps.size_eq,(WideShapes.sorted_perm _).length_eq,List.length_map,Array.length_toList]
 have hhas:∀ x:Int,Maps.has D0 (.int .u32 x)=true↔∃ e∈es.toList,e.key=.int .u32 x:=λx=>by
  rw [← hD,Maps.has_eq,List.any_eq_true]
  constructor
  ·rintro ⟨p,hp,hs⟩;obtain ⟨e,he,rfl⟩:=List.mem_map.1 (mem_sorted.1 hp);obtain ⟨id,h1,h2,h3⟩:=hK.ks e he;rw [WideElems.rg_of (hrd e he id h1 h2 h3)] at hs;have:id=x:=by simpa [Lit.sameKey] using hs
   exact ⟨e,he,by rw [h1,this]⟩
  ·rintro ⟨e,he,h1⟩;obtain ⟨id,h0,h2,h3⟩:=hK.ks e he;have e1:id=x:=by rw [h0] at h1; simpa using h1
   subst e1;refine ⟨_,mem_sorted.2 (List.mem_map_of_mem he),?_⟩;rw [WideElems.rg_of (hrd e he id h0 h2 h3)]
   simp [Lit.sameKey]
 have hsz:=hK.sz;have hseq:=zym (H:=Unit) Fence.wide 1 trivial rfl (Nat.le_refl _) bm mb es.size D0 w hbw hcell hown;have hcol:=callsIn_wide.1 (zyl Fence.wide 3 trivial trivial rfl (Nat.le_refl _) 111 #[.pointer (some ⟨bm,0,none⟩)] trivial (Go.Proofs.enters_of Tryz.func111 (by kernel_rfl) rfl) _ (Maps.size D0) (by rw [hsize]; unfold maxLen; omega) (by rw [hsize]; omega) w hseq);refine Calls.mono hcol λe w' ⟨v,ss,he,⟨hn,hall⟩,hrow,hnil,hbl⟩=>?_;subst he;have hall':∀ x:Int,x∈ss↔∃ e∈es.toList,e.key=.int .u32 x:=λx=>(hall x).trans (hhas x);have hNN:N≤w'.heap.size:=Nat.le_trans r.nx hbl.size
 rcases hrow.2 with ⟨rfl,h0⟩ | ⟨g,cap,cur,rfl,hg,hgb,hk1,hk2,hk3,hk4⟩
 ·refine ⟨⟨F,M,w'.heap.size⟩,?_,k _ ss M _ hn hall' ⟨by simp,.inl ⟨rfl,h0⟩⟩ (λ_ _=>rfl) hNN (hm.up hNN)⟩;have lt:∀ q,q<N -> q<w.heap.size:=λq hq=>Nat.lt_of_lt_of_le hq r.nx;refine ⟨r.below.trans ⟨hbl.os,hbl.tape,hbl.output,hbl.size,λq hq=>hbl.block q (Nat.lt_of_lt_of_le hq r.below.size)⟩,by rw [hd0]; exact Nat.zero_le _,Nat.le_refl _,Nat.le_trans r.base hNN,λb cs h=>?_,λb e cs tot h=>?_,λb o h=>?_⟩
  ·obtain ⟨a1,arr,e,z,a2,a3⟩:=r.fr b cs h;exact ⟨Nat.lt_of_lt_of_le a1 hNN,arr,e,z,(hbl.block b (lt b a1)).trans a2,a3⟩
  ·obtain ⟨a1,a2,a3,arr,a4,a5⟩:=r.cl b e cs tot h;exact ⟨Nat.lt_of_lt_of_le a1 hNN,a2,a3,arr,(hbl.block b (lt b a1)).trans a4,a5⟩
  ·obtain ⟨a1,a2,a3,a4,a5⟩:=r.ob b o h;exact ⟨Nat.lt_of_lt_of_le a1 hNN,a2,a3,(hbl.block b (lt b a1)).trans a4,a5⟩
 ·have hgl:g<w'.heap.size:=(Array.getElem?_eq_some_iff.1 hgb).1
  have hFg:F g=none:=by
   cases hF:F g with
   | none=>rfl
   | some cs=>have h8:g<N:=(r.fr g cs hF).1; have h9:N≤w.heap.size:=r.nx; omega
  refine ⟨⟨F,upd M g (some (.cells 38 cur.toList cap)),w'.heap.size⟩,?_,k _ ss _ _ hn hall' ?_ (λq hq=>za3 _ _ (by have h9:N≤w.heap.size:=r.nx; omega)) hNN (λq hq=>(za3 _ _ (by omega)).trans (hm q (by omega)))⟩
  ·refine yce (d:=w.drawn) ?_ (by rw [hd0]; exact Nat.zero_le _);refine r.turn (w':={ w' with drawn:=w.drawn }) (b:=g) (Nat.le_trans r.base (Nat.le_trans r.nx hg)) hFg hbl.os hbl.tape hbl.output hbl.size hgl (λq hq hql=>hbl.block q hql) (some _) w'.heap.size hNN (Nat.le_refl _) hgl ⟨cur,hgb,by rw [hk3]; omega,List.prefix_refl _⟩
  ·refine ⟨by simp,.inr ⟨g,cap,cur.toList.drop ss.length,rfl,hk1,hk2,by have h9:N≤w.heap.size:=r.nx; omega,?_⟩⟩;rw [za0,Nat.mul_one]
   congr 2
   rw [← List.take_append_drop ss.length cur.toList]
   congr 1
   ·rw [Nat.mul_one] at hk4; exact hk4
   ·simp
theorem zl6 {k:IntKind} (l:List Int):(ick k l).length=l.length:=by simp [ick]
theorem yp8 {k:IntKind} {l:List Int} {i:Nat} (h:i<l.length):(ick k l)[i]?=some (.int k l[i]):=by simp [ick,h]
theorem zn6 {B:Nat} {e:TypeId} {kd:IntKind} {v:Value} {l:List Int} {K:Value -> zae} (h:own M B e 1 v l.length (ick kd l)) {i:Nat} (hi:i<l.length) (k:∀ p,K p (.int kd l[i]) ⟨F,M,N⟩):pv (iaV none 1 v (.int .i64 (i:Nat))) (λp=>ld false 1 p (K p)) ⟨F,M,N⟩:=by
 rcases h.2 with ⟨rfl,h0⟩ | ⟨b,c,rest,rfl,h1,h2,h3,h4⟩
 ·omega
 ·refine zct hi (zfo (zaz (zb4 h4) ?_) (k _));rw [Nat.zero_add,Nat.mul_one,List.getElem?_append_left (by rw [zl6]; exact hi),yp8 hi]
theorem ya1 {B:Nat} {e:TypeId} {kd:IntKind} {v:Value} {l:List Int} {K:Value -> zae} {x:Int} (h:own M B e 1 v l.length (ick kd l)) {i:Nat} (hi:i<l.length)
  (k:∀ p M',own M' B e 1 v (l.set i x).length (ick kd (l.set i x)) -> (∀ q,v.ownBlock≠some q -> M' q=M q) -> (∀ n,za5 M n -> za5 M' n) -> K p undef ⟨F,M',N⟩):pv (iaV none 1 v (.int .i64 (i:Nat))) (λp=>st 1 p (.int kd x) (K p)) ⟨F,M,N⟩:=by
 rcases h.2 with ⟨rfl,h0⟩ | ⟨b,c,rest,rfl,h1,h2,h3,h4⟩
 ·omega
 ·refine zct hi ?_;have hl:i<(ick kd l).length:=by rw [zl6]; exact hi
  refine yfn (cs':=ick kd (l.set i x)++rest) h4 rfl (List.all_eq_true.1 rfl) (by rw [List.length_append]; omega) ?_ (k _ _ ⟨by rw [zl6,Nat.mul_one],.inr ⟨b,c,rest,by rw [List.length_set],by rw [List.length_set]; exact h1,h2,h3,za0 _ _ _⟩⟩ (λq hq=>za3 _ _ (λe=>hq (by rw [e]; rfl))) (λn hc=>hc.set (hc.lt h4) _));rw [show (Value.int kd x).cells.toList=[Value.int kd x] from rfl,Nat.zero_add,Nat.mul_one,zue (by rw [List.length_append]; omega),List.set_append_left _ _ hl]
  congr 1
  unfold ick;rw [List.map_set]
theorem ypa {a b:Int} (k:∀ N',N≤N' -> (Hp.mk F M N').wf -> K (.bool (decide (a<b))) ⟨F,M,N'⟩) :
  cF 211 #[.int .u32 a,.int .u32 b] K E ⟨F,M,N⟩:=by
 refine za4 za8 Tryz.func211 (by kernel_rfl) (yv1 _ E _ _) (λhw=>?_);refine za4 za8 Tryz.func271 (by kernel_rfl) (yop _ E _) (λhw=>?_);refine zc3 rfl ?_;refine λhc=>⟨_,za1 hc,λhw=>?_⟩;try simp only [sS]
 refine zat (λh=>?_) (λh=>?_)
 ·try simp only [sS]
  rw [decide_eq_true h] at k;exact λhc=>⟨_,za1 hc,λhw=>k _ (Nat.le_refl _) hw⟩
 ·try simp only [sS]
  rw [decide_eq_false h] at k;exact λhc=>⟨_,za1 hc,λhw=>k _ (Nat.le_refl _) hw⟩
def zwc (m:List Int) (i j:Nat):Prop:=(∀ p q,p<q -> q≤i -> p≠j -> q≠j -> m.getD p 0≤m.getD q 0)∧∀ q,j<q -> q≤i -> m.getD j 0≤m.getD q 0
def upto (m:List Int) (i:Nat):Prop:=∀ p q,p<q -> q<i -> m.getD p 0≤m.getD q 0
theorem zzf {m:List Int} {i j:Nat} {x:Int} (hi:i<m.length):(m.set i x).getD j 0=if j=i then x else m.getD j 0:=by
 rw [List.getD_eq_getElem?_getD,List.getElem?_set]
 by_cases h:i=j
 ·subst h; rw [if_pos rfl,if_pos hi,if_pos rfl]; rfl
 ·rw [if_neg h,if_neg (λe=>h e.symm),← List.getD_eq_getElem?_getD]
theorem yes {m:List Int} {i:Nat} (h:upto m i):zwc m i i:=⟨λp q h1 h2 _ h4=>h p q h1 (by omega),λq h1 h2=>by omega⟩
theorem yh7 {m:List Int} {i j:Nat} (h:zwc m i (j+1)) (hl:i<m.length) (hj:j+1≤i) (hlt:m.getD (j+1) 0<m.getD j 0):zwc ((m.set (j+1) (m.getD j 0)).set j (m.getD (j+1) 0)) i j:=by
 have e:∀ q,((m.set (j+1) (m.getD j 0)).set j (m.getD (j+1) 0)).getD q 0=if q=j then m.getD (j+1) 0 else if q=j+1 then m.getD j 0 else m.getD q 0:=λq=>by
  rw [zzf (by rw [List.length_set]; omega),zzf (by omega)]
 refine ⟨λp q h1 h2 h3 h4=>?_,λq h1 h2=>?_⟩
 ·rw [e,e,if_neg h3,if_neg h4]
  by_cases hp:p=j+1
  ·rw [if_pos hp,if_neg (by omega)]; exact h.1 j q (by omega) h2 (by omega) (by omega)
  ·rw [if_neg hp]
   by_cases hq:q=j+1
   ·rw [if_pos hq]; exact h.1 p j (by omega) (by omega) (by omega) (by omega)
   ·rw [if_neg hq]; exact h.1 p q h1 h2 hp hq
 ·rw [e,e,if_pos rfl,if_neg (by omega)]
  by_cases hq:q=j+1
  ·rw [if_pos hq]; omega
  ·rw [if_neg hq]; exact h.2 q (by omega) h2
theorem ygb {m:List Int} {i:Nat} (h:zwc m i 0):upto m (i+1):=λp q h1 h2=>by
 by_cases hp:p=0
 ·subst hp; exact h.2 q h1 (by omega)
 ·exact h.1 p q h1 (by omega) hp (by omega)
theorem yj5 {m:List Int} {i j:Nat} (h:zwc m i (j+1)) (hge:¬ m.getD (j+1) 0<m.getD j 0) (hj:j+1≤i):upto m (i+1):=λp q h1 h2=>by
 by_cases hp:p=j+1
 ·subst hp; exact h.2 q h1 (by omega)
 ·by_cases hq:q=j+1
  ·subst hq
   by_cases hpj:p=j
   ·subst hpj; omega
   ·have := h.1 p j (by omega) (by omega) hp (by omega); omega
  ·exact h.1 p q h1 (by omega) hp hq
theorem yhs {m:List Int} {j:Nat} (h:j+1<m.length):((m.set (j+1) (m.getD j 0)).set j (m.getD (j+1) 0)).Perm m:=by
 have h1:j<m.length:=by omega
 have e1:m.getD j 0=m[j]:=zfr h1 0;have e2:m.getD (j+1) 0=m[j+1]:=zfr h 0
 have hm:m=m.take j++m[j]::m[j+1]::m.drop (j+2):=by
  rw [← List.drop_eq_getElem_cons h,← List.drop_eq_getElem_cons h1,List.take_append_drop]
 have hs:(m.set (j+1) (m.getD j 0)).set j (m.getD (j+1) 0)=m.take j++m[j+1]::m[j]::m.drop (j+2):=by
  rw [e1,e2]
  apply List.ext_getElem?
  intro q;rw [List.getElem?_set,List.getElem?_set]
  rcases Nat.lt_trichotomy q j with hq | hq | hq
  ·rw [if_neg (by omega),if_neg (by omega),List.getElem?_append_left (by rw [List.length_take]; omega),List.getElem?_take,if_pos hq]
  ·subst hq;rw [if_pos rfl,if_pos (by rw [List.length_set]; omega),List.getElem?_append_right (by rw [List.length_take]; omega)]
   simp [List.length_take,Nat.min_eq_left (Nat.le_of_lt h1)]
  ·by_cases hq2:q=j+1
   ·subst hq2;rw [if_neg (by omega),if_pos rfl,if_pos h,List.getElem?_append_right (by rw [List.length_take]; omega)]
    simp [List.length_take,Nat.min_eq_left (Nat.le_of_lt h1)]
   ·rw [if_neg (by omega),if_neg (by omega),List.getElem?_append_right (by rw [List.length_take]; omega)];rw [List.length_take,Nat.min_eq_left (by omega)];obtain ⟨d,hd⟩:∃ d,q - j=d+2:=⟨q - j - 2,by omega⟩;rw [hd,List.getElem?_cons_succ,List.getElem?_cons_succ,List.getElem?_drop]
    congr 1; omega
 rw [hs]
 conv=>rhs; rw [hm]
 exact List.Perm.append_left _ (List.Perm.swap _ _ _)
theorem ykk {B:Nat} {v:Value} {l:List Int} (hv:own M B 38 1 v l.length (ick .u32 l)) (hl:l.length≤1000000) (h0:0<l.length)
  (k:∀ l' M' N',l'.Perm l -> upto l' l.length -> own M' B 38 1 v l'.length (ick .u32 l') -> (∀ q,v.ownBlock≠some q -> M' q=M q) -> N≤N' -> za5 M' N' -> (Hp.mk F M' N').wf -> K (.tuple #[]) ⟨F,M',N'⟩) :
  cF 205 #[v,.int .i64 0,.int .i64 (l.length:Nat)] K E ⟨F,M,N⟩:=by
 refine za4 za8 Tryz.func205 (by kernel_rfl) (ypb _ E _ _ _) (λhw=>?_);have hm:za5 M N:=hw.m;refine zas (a:=0) (by omega) ?_
 refine zur (σ:=Nat) (λi=>.int .i64 (i:Nat)) (λi h=>∃ M' N' l',h=⟨F,M',N'⟩∧N≤N'∧own M' B 38 1 v l'.length (ick .u32 l')∧l'.Perm l∧upto l' i∧(∀ q,v.ownBlock≠some q -> M' q=M q)∧za5 M' N'∧1≤i∧i≤l.length) (λi=>l.length - i) 1 rfl
  (λhw1=>⟨_,za1 hw1,M,N,l,rfl,Nat.le_refl _,hv,List.Perm.refl _,λp q h1 h2=>by omega,λ_ _=>rfl,hm,Nat.le_refl _,h0⟩) (λkk i j h1 hI hw1 next=>?_)
 rw [ztt];obtain ⟨M1,N1,l1,rfl,hN1,ho1,hp1,hu1,hM1,hm1,hi1,hi2⟩:=hI;have hlen1:=hp1.length_eq;refine zat (λhlt=>?_) (λhge=>?_)
 ·have i1:i<l.length:=by omega
  try simp only [sS]
  refine zmg (σ:=Nat) (λj=>.int .i64 (j:Nat)) (λj h=>∃ M' N' l',h=⟨F,M',N'⟩∧N≤N'∧own M' B 38 1 v l'.length (ick .u32 l')∧l'.Perm l∧zwc l' i j∧(∀ q,v.ownBlock≠some q -> M' q=M q)∧za5 M' N'∧j≤i) (λj=>j) i rfl
   (λhw2=>⟨_,za1 hw2,M1,N1,l1,rfl,hN1,ho1,hp1,yes hu1,hM1,hm1,Nat.le_refl _⟩) (λk2 j jj h2 hI2 hw2 next2=>?_)
  rw [zmr];obtain ⟨M2,N2,l2,rfl,hN2,ho2,hp2,hu2,hM2,hm2,hj⟩:=hI2;have hlen2:=hp2.length_eq;refine zbw (λhj0=>?_) (λhj0=>?_)
  ·obtain ⟨j',rfl⟩:∃ j',j=j'+1:=⟨j - 1,by omega⟩;have b1:j'+1<l2.length:=by omega
   have b2:j'<l2.length:=by omega
   try simp only [sS]
   refine zn6 ho2 b1 λ_=>?_;try simp only [sS]
   refine zky (a:=j'+1) (b:=1) (by omega) (by omega) ?_;rw [Nat.add_sub_cancel];refine zn6 ho2 b2 λ_=>?_;try simp only [sS]
   refine ypa (λN3 hN3 hw3=>?_);have e1:l2.getD j' 0=l2[j']:=zfr b2 0;have e2:l2.getD (j'+1) 0=l2[j'+1]:=zfr b1 0
   by_cases hlt2:l2[j'+1]<l2[j']
   ·rw [decide_eq_true hlt2];try simp only [sS]
    refine zky (a:=j'+1) (b:=1) (by omega) (by omega) ?_;rw [Nat.add_sub_cancel];refine zky (a:=j'+1) (b:=1) (by omega) (by omega) ?_;rw [Nat.add_sub_cancel];refine zn6 ho2 b2 λ_=>?_;refine zn6 ho2 b1 λ_=>?_;refine ya1 ho2 b1 λ_ M4 ho4 hM4 hm4=>?_;refine ya1 ho4 (by rw [List.length_set]; exact b2) λ_ M5 ho5 hM5 hm5=>?_;refine zky (a:=j'+1) (b:=1) (by omega) (by omega) ?_;rw [Nat.add_sub_cancel];rw [← e1,← e2] at ho5;refine next2 j' _ _ (by omega) (λhw6=>⟨_,za1 hw6,M5,N3,_,rfl,by omega,ho5,(yhs b1).trans hp2,yh7 hu2 (by omega) hj (by omega),λq hq=>(hM5 q hq).trans ((hM4 q hq).trans (hM2 q hq)),hm5 _ (hm4 _ (hm2.up hN3)),by omega⟩)
   ·rw [decide_eq_false hlt2];try simp only [sS]
    refine zas (by omega) ?_;exact next (i+1) _ _ (by omega) (λhw6=>⟨_,za1 hw6,M2,N3,l2,rfl,by omega,ho2,hp2,yj5 hu2 (by omega) hj,hM2,hm2.up hN3,by omega,i1⟩)
  ·have hj0':j=0:=by omega
   subst hj0';try simp only [sS]
   refine zas (by omega) ?_;exact next (i+1) _ _ (by omega) (λhw6=>⟨_,za1 hw6,M2,N2,l2,rfl,hN2,ho2,hp2,ygb hu2,hM2,hm2,by omega,i1⟩)
 ·try simp only [sS]
  exact λhc=>⟨_,za1 hc,λhw'=>k l1 M1 N1 hp1 (by rw [show l.length=i by omega]; exact hu1) ho1 hM1 hN1 hm1 hw'⟩
theorem yhd {n:Nat} (hn:n≤12) (k:∀ r N',N≤N' -> (Hp.mk F M N').wf -> K r ⟨F,M,N'⟩) :
  cF 155 #[.int .u64 (n:Nat)] K E ⟨F,M,N⟩:=by
 refine za4 za8 Tryz.func155 (by kernel_rfl) (ysw _ E _) (λhw=>?_);refine zaq ?_;refine za4 za8 Tryz.func215 (by kernel_rfl) (ys9 _ E _) (λhw=>?_);refine zqp (by omega) ?_;try simp only [sS]
 rw [yjo];refine zqp (by omega) ?_;try simp only [sS]
 rw [yfb];refine zqp (by omega) ?_;try simp only [sS]
 rw [yaz];have:n=0∨n=1∨n=2∨n=3∨n=4∨n=5∨n=6∨n=7∨n=8∨n=9∨n=10∨n=11∨n=12:=by omega
 rcases this with rfl | rfl | rfl | rfl | rfl | rfl | rfl | rfl | rfl | rfl | rfl | rfl | rfl <;>
  exact zaa rfl (zaa rfl (zaa rfl (zaa rfl (λhc=>⟨_,za1 hc,λhw' hc'=>⟨_,za1 hc',λhw''=>k _ _ (Nat.le_refl _) hw''⟩⟩))))
theorem yi1 {v:Value} (k:(Hp.mk F M N).wf -> K (.tuple #[]) ⟨F,M,N⟩) :
  cF 205 #[v,.int .i64 0,.int .i64 0] K E ⟨F,M,N⟩:=by
 refine za4 za8 Tryz.func205 (by kernel_rfl) (ypb _ E _ _ _) (λhw=>?_);refine zas (a:=0) (by omega) ?_
 refine zur (σ:=Nat) (λi=>.int .i64 (i:Nat)) (λi h=>h=⟨F,M,N⟩∧1≤i) (λi=>0) 1 rfl
  (λhw1=>⟨_,za1 hw1,rfl,Nat.le_refl _⟩) (λkk i j h1 hI hw1 next=>?_)
 rw [ztt];obtain ⟨rfl,hi⟩:=hI;refine zke (by omega) ?_;try simp only [sS]
 exact λhc=>⟨_,za1 hc,k⟩
theorem ymh {B:Nat} {v:Value} {l:List Int} (hv:own M B 38 1 v l.length (ick .u32 l)) (hl:l.length≤12)
  (k:∀ l' M' N',l'.Perm l -> upto l' l.length -> own M' B 38 1 v l'.length (ick .u32 l') -> (∀ q,v.ownBlock≠some q -> M' q=M q) -> N≤N' -> za5 M' N' -> (Hp.mk F M' N').wf -> K (.tuple #[]) ⟨F,M',N'⟩) :
  cF 110 #[v] K E ⟨F,M,N⟩:=by
 refine za4 za8 Tryz.func110 (by kernel_rfl) (zm1 _ E _) (λhw=>?_);have hm:za5 M N:=hw.m;have hlv:zab v=some (.int .i64 (l.length:Nat)):=by obtain ⟨a,c,e,_⟩:=hv.form; rw [e]; rfl
 refine zaa hlv ?_;refine zaa (v:=.int .u64 (l.length:Nat)) (by simp only [cvV]; rw [yk0 (by omega) (by omega)]) ?_;refine yhd hl (λr N1 hN1 hw1=>?_);refine za4 za8 Tryz.func154 (by kernel_rfl) (yus _ E _ _ _ _) (λhw=>?_)
 refine ya2 (σ:=Unit) (λ_=>.int .i64 0) (λ_=>.int .i64 (l.length:Nat)) (λ_=>r) (λ_=>.bool true) (λ_=>.bool true) (λ_ h=>h=⟨F,M,N1⟩) (λ_=>0) () rfl rfl rfl rfl rfl
  (λhw2=>⟨_,za1 hw2,rfl⟩) (λkk s j h1 hI hw2 next=>?_)
 rw [ya4];subst hI;refine zky (a:=l.length) (b:=0) (by omega) (by omega) ?_;refine ym7 (by omega) ?_;try simp only [sS]
 by_cases h0:0<l.length
 ·refine ykk hv (by omega) h0 (λl' M2 N2 q1 q2 q3 q4 q5 q6 q7=>?_);exact λhc=>⟨_,za1 hc,λhw' hc'=>⟨_,za1 hc',λhw''=>k l' M2 N2 q1 q2 q3 q4 (by omega) q6 hw''⟩⟩
 ·have e0:l=[]:=List.eq_nil_of_length_eq_zero (by omega);subst e0;refine yi1 (λhw3=>?_);exact λhc=>⟨_,za1 hc,λhw' hc'=>⟨_,za1 hc',λhw''=>k [] M N1 (List.Perm.refl _) (λp q h1 h2=>by simp at h2) hv (λ_ _=>rfl) hN1 (hm.up hN1) hw''⟩⟩
def zqq (l:List Int):Prop:=l.Pairwise (· < ·)
theorem yf2 {l:List Int} (h:upto l l.length) (hn:l.Nodup):zqq l:=by
 unfold zqq;rw [List.pairwise_iff_getElem];intro i j hi hj hij;have h1:=h i j hij hj;rw [zfr hi,zfr hj] at h1;have h2:l[i]≠l[j]:=List.pairwise_iff_getElem.1 hn i j hi hj hij;omega
theorem yh6:∀ {a b:List Int},zqq a -> zqq b -> (∀ x,x∈a↔x∈b) -> a=b:=by
 intro a b ha hb h;have na:a.Nodup:=ha.imp (λ{x y} h=>by omega);have nb:b.Nodup:=hb.imp (λ{x y} h=>by omega);have hp:a.Perm b:=(List.perm_ext_iff_of_nodup na nb).2 h;exact hp.eq_of_pairwise (λx y _ _ h1 h2=>by omega) ha hb
theorem zob {α:Type}:∀ {a b:List α},a.Nodup -> (∀ x∈a,x∈b) -> a.length≤b.length
 | [],b,_,_=>Nat.zero_le _
 | x::a,b,hn,hs=>by
  obtain ⟨s,t,rfl⟩:=List.append_of_mem (hs x List.mem_cons_self);obtain ⟨h1,h2⟩:=List.pairwise_cons.1 hn
  have := zob (b:=s++t) h2 (λy hy=>by
   have h3:=hs y (List.mem_cons_of_mem _ hy);have h4:y≠x:=λe=>h1 y hy e.symm;simp only [List.mem_append,List.mem_cons] at h3 ⊢
   rcases h3 with h3 | h3 | h3
   ·exact .inl h3
   ·exact absurd h3 h4
   ·exact .inr h3)
  simp only [List.length_append,List.length_cons] at this ⊢;omega
theorem yfx {bm mb:Nat} {es:Array MapEntry} {clock:Nat} (hE:E [] zcu) (hbm:F bm=some [.map (some mb)]) (hmb:M mb=some (.obj (.map es clock))) (hK:yku es clock) (h12:es.size≤12)
  (k:∀ v' (l:List Int) M' N',zqq l -> (∀ x:Int,x∈l↔∃ e∈es.toList,e.key=.int .u32 x) -> own M' N 38 1 v' l.length (ick .u32 l) -> (∀ q,q<N -> M' q=M q) -> N≤N' -> za5 M' N' -> (Hp.mk F M' N').wf -> K v' ⟨F,M',N'⟩) :
  cF 55 #[.func (.func 111) #[] #[.pointer (some ⟨bm,0,none⟩)]] K E ⟨F,M,N⟩:=by
 refine za4 za8 Tryz.func55 (by kernel_rfl) (t55 _ E _) (λhw=>?_);refine yef hE hbm hmb hK (λv ss M1 N1 hn hall ho hM1 hN1 hm1=>?_)
 have hlen:ss.length≤12:=by
  have hsub:∀ x∈ss,(Value.int .u32 x)∈es.toList.map (·.key):=λx hx=>by
   obtain ⟨e,he,h1⟩:=(hall x).1 hx;exact List.mem_map.2 ⟨e,he,h1⟩
  have h1:(ss.map (Value.int .u32)).Nodup:=by
   refine List.pairwise_map.2 (hn.imp (λ{a b} h e=>h (by simpa using e)))
  have h2:=zob h1 (λv hv=>by
   obtain ⟨x,hx,rfl⟩:=List.mem_map.1 hv;exact hsub x hx)
  simp only [List.length_map,Array.length_toList] at h2;omega
 refine ymh (l:=ss) ho hlen (λl M2 N2 hp hu ho2 hM2 hN2 hm2 hw2=>?_);refine λhc=>⟨_,za1 hc,λhw'=>k v l M2 N2 (yf2 (by rw [hp.length_eq]; exact hu) (hp.nodup_iff.2 hn)) (λx=>(hp.mem_iff).trans (hall x)) ho2 (λq hq=>(hM2 q (λe=>by have := (ho.ge q e).1; omega)).trans (hM1 q hq)) (by omega) hm2 hw'⟩
structure yxl (F:Nat -> Option (List Value)) (M:Nat -> Option zak) (g:Nat) (dv lv:Value) (l:List Dm) (h:List En):Prop where
 gg:M g=some (.cells 220 [dv,lv] 2)
 dd:zeh F dv l
 ll:zc6 F lv h
theorem zgg.keep {B g:Nat} {hv dv:Value} {rows:List (List Value)} {l:List Dm} {h:List En} (hC:zgg F M B g hv dv rows l h) (hF:za7 F F') (hM:∀ q,q=g∨hv.ownBlock=some q -> M' q=M q):zgg F' M' B g hv dv rows l h :=
 ⟨(hM g (.inl rfl)).trans hC.gg,hC.gB,hC.oo.keep (λq h=>hM q (.inr h)) (Nat.le_refl _),hC.rr.mono λ_ _ h=>h.mono hF,hC.vg,hC.dd.mono hF,hC.rs⟩
theorem zgg.lt {B g:Nat} {hv dv:Value} {rows:List (List Value)} {l:List Dm} {h:List En} (hC:zgg F M B g hv dv rows l h) (hm:za5 M N):∀ q,q=g∨hv.ownBlock=some q -> B≤q∧q<N:=λq hq=>by
 rcases hq with rfl | hq
 ·exact ⟨hC.gB,hm.lt hC.gg⟩
 ·exact ⟨(hC.oo.ge q hq).1,hC.oo.lt hm q hq⟩
theorem yk7 {b c:Nat} {x v:Int} (h1:F b=some [.int .i64 x]) (h2:F c=some [.slice (some ⟨b,0,none⟩) 1 1,.int .i64 v]):zbo F (.slice (some ⟨c,0,none⟩) 1 1) [([x],v)] :=
 ⟨[[.slice (some ⟨b,0,none⟩) 1 1,.int .i64 v]],znd h2 rfl (by decide),yib (yon h1) (by simp) (zag.nil _ _)⟩
def yxk (es:List En) (i:Nat):Int:=if h:0<i∧i≤es.length then es[i - 1].1 else 0
open Go.MapKept
structure Bt where
 st:Int
 tm:Int
 ns:List Int
 fs:List Fc
def Bt.no:Bt:=⟨0,0,[],[]⟩
def btD (F:Nat -> Option (List Value)) (v:Value) (b:Bt):Prop:=∃ nv fv,v=.agg #[.int .u8 b.st,.int .u32 b.tm,nv,fv]∧sF F 1 nv b.ns.length (ic b.ns)∧zbo F fv b.fs
theorem btD.mono {v:Value} {b:Bt} (h:btD F v b) (hF:za7 F F'):btD F' v b:=let ⟨nv,fv,e,h1,h2⟩:=h; ⟨nv,fv,e,h1.mono hF,h2.mono hF⟩
theorem zbo.nil {c:Nat}:zbo F (.slice none 0 c) []:=⟨[],sF.nil _ _ _,zag.nil _ _⟩
theorem btD.no:btD F (.agg #[.int .u8 0,.int .u32 0,.slice none 0 0,.slice none 0 0]) Bt.no:=⟨_,_,rfl,sF.nil _ _ _,zbo.nil⟩
abbrev Bts:=List (Int×Bt)
def zal (bs:Bts) (id:Int):Bt:=match bs.find? λx=>decide (x.1=id) with | some x=>x.2 | none=>Bt.no
def zo5 (bs:Bts) (id:Int):Bool:=bs.any λx=>decide (x.1=id)
def zhk (bs:Bts) (id:Int) (b:Bt):Bts:=if zo5 bs id=true then bs.map (λx=>if x.1=id then (id,b) else x) else bs++[(id,b)]
theorem zff {bs:Bts} {id:Int}:zo5 bs id=true↔∃ x∈bs,x.1=id:=by
 unfold zo5;rw [List.any_eq_true];exact ⟨λ⟨x,hx,h⟩=>⟨x,hx,of_decide_eq_true h⟩,λ⟨x,hx,h⟩=>⟨x,hx,decide_eq_true h⟩⟩
theorem zy5 {bs:Bts} {id:Int} (h:∀ x∈bs,x.1≠id):zal bs id=Bt.no:=by
 unfold zal;rw [List.find?_eq_none.2 (λx hx=>by simpa using h x hx)]
theorem ylm {bs:Bts} {j:Nat} {x:Int×Bt} (hn:(bs.map (·.1)).Nodup) (hj:bs[j]?=some x):zal bs x.1=x.2:=by
 unfold zal;cases hf:bs.find? (λy=>decide (y.1=x.1)) with
 | none=>exact absurd (List.find?_eq_none.1 hf x (List.mem_of_getElem? hj)) (by simp)
 | some y=>
  have h1:y.1=x.1:=by simpa using List.find?_some hf
  have h2:=List.mem_of_find?_eq_some hf;obtain ⟨i,hi,hy⟩:=List.mem_iff_getElem.1 h2;obtain ⟨hj',hx⟩:=List.getElem?_eq_some_iff.1 hj
  have:i=j:=by
   rcases Nat.lt_trichotomy i j with h | h | h
   ·have := List.pairwise_iff_getElem.1 hn i j (by simpa using hi) (by simpa using hj') h;simp only [List.getElem_map,hy,hx] at this;exact absurd h1 this
   ·exact h
   ·have := List.pairwise_iff_getElem.1 hn j i (by simpa using hj') (by simpa using hi) h;simp only [List.getElem_map,hy,hx] at this;exact absurd h1.symm this
  subst this;rw [← hy,hx]
theorem yha {bs:Bts} {id:Int} {b:Bt}:(zhk bs id b).map (·.1)=if zo5 bs id=true then bs.map (·.1) else bs.map (·.1)++[id]:=by
 unfold zhk
 split
 ·rw [List.map_map];refine List.map_congr_left λx _=>?_;simp only [Function.comp]
  split
  ·rename_i h; exact h.symm
  ·rfl
 ·simp
theorem ztz {bs:Bts} {id:Int} {b:Bt} (h:(bs.map (·.1)).Nodup):((zhk bs id b).map (·.1)).Nodup:=by
 rw [yha]
 split
 ·exact h
 ·rename_i hh
  refine List.nodup_append.2 ⟨h,by simp,λa ha c hc=>?_⟩;simp only [List.mem_singleton] at hc;subst hc;obtain ⟨x,hx,rfl⟩:=List.mem_map.1 ha;exact λe=>hh (zff.2 ⟨x,hx,e⟩)
theorem ybi {bs:Bts} {id:Int} {b:Bt} {x:Int×Bt} (h:x∈zhk bs id b):x=(id,b)∨(x∈bs∧x.1≠id):=by
 unfold zhk at h
 split at h
 ·obtain ⟨y,hy,rfl⟩:=List.mem_map.1 h
  split
  ·exact .inl rfl
  ·rename_i h1; exact .inr ⟨hy,h1⟩
 ·rename_i hh
  rcases List.mem_append.1 h with h1 | h1
  ·exact .inr ⟨h1,λe=>hh (zff.2 ⟨x,h1,e⟩)⟩
  ·exact .inl (List.mem_singleton.1 h1)
structure zfn (F:Nat -> Option (List Value)) (es:Array MapEntry) (bs:Bts):Prop where
 len:es.size=bs.length
 ea:∀ (j:Nat) (e:MapEntry) (x:Int×Bt),es.toList[j]?=some e -> bs[j]?=some x -> e.key=.int .u32 x.1∧btD F e.val x.2∧e.born=j
 nd:(bs.map (·.1)).Nodup
 rg:∀ x∈bs,0≤x.1∧x.1<4294967296
theorem zfn.mono {es:Array MapEntry} {bs:Bts} (h:zfn F es bs) (hF:za7 F F'):zfn F' es bs:=⟨h.len,λj e x h1 h2=>let ⟨a,b,c⟩:=h.ea j e x h1 h2; ⟨a,b.mono hF,c⟩,h.nd,h.rg⟩
theorem zfn.nil:zfn F #[] []:=⟨rfl,λj e x h=>by simp at h,List.nodup_nil,λx hx=>by simp at hx⟩
theorem zfn.get {es:Array MapEntry} {bs:Bts} (h:zfn F es bs) {j:Nat} {e:MapEntry} (hj:es.toList[j]?=some e):∃ x,bs[j]?=some x∧e.key=.int .u32 x.1∧btD F e.val x.2∧e.born=j:=by
 have hl:j<bs.length:=by have := (List.getElem?_eq_some_iff.1 hj).1; rw [Array.length_toList,h.len] at this; exact this
 exact ⟨bs[j],List.getElem?_eq_getElem hl,h.ea j e _ hj (List.getElem?_eq_getElem hl)⟩
theorem zfn.keys {es:Array MapEntry} {bs:Bts} (h:zfn F es bs):es.toList.map (·.key)=bs.map λx=>Value.int .u32 x.1:=by
 refine List.ext_getElem? λj=>?_;rw [List.getElem?_map,List.getElem?_map];cases hj:es.toList[j]? with
 | none=>
  have:bs[j]?=none:=by
   rw [List.getElem?_eq_none_iff] at hj ⊢;rw [Array.length_toList,h.len] at hj; exact hj
  rw [this]; rfl
 | some e=>
  obtain ⟨x,hx,h1,_⟩:=h.get hj;rw [hx];simp only [Option.map_some,h1]
theorem zfn.borns {es:Array MapEntry} {bs:Bts} (h:zfn F es bs):es.toList.map (·.born)=List.range bs.length:=by
 refine List.ext_getElem? λj=>?_;rw [List.getElem?_map];cases hj:es.toList[j]? with
 | none=>
  rw [List.getElem?_eq_none_iff,Array.length_toList,h.len] at hj;rw [List.getElem?_eq_none (by rw [List.length_range]; exact hj)]; rfl
 | some e=>
  obtain ⟨x,hx,_,_,h1⟩:=h.get hj;have hl:=(List.getElem?_eq_some_iff.1 hx).1;rw [List.getElem?_range hl];simp only [Option.map_some,h1]
theorem zfn.k {es:Array MapEntry} {bs:Bts} (h:zfn F es bs) (hl:bs.length≤1000000):yku es bs.length:=by
 refine ⟨⟨λx hx=>?_,?_,?_⟩,λx hx=>?_,by rw [h.len]; exact hl⟩
 ·obtain ⟨j,hj⟩:=List.mem_iff_getElem?.1 hx;obtain ⟨y,hy,_,_,hb⟩:=h.get hj;have := (List.getElem?_eq_some_iff.1 hy).1;omega
 ·rw [h.borns]; exact List.nodup_range
 ·rw [h.keys];have := h.nd;refine List.pairwise_map.2 ((List.pairwise_map.1 this).imp λ{a b} hne e=>hne (by simpa using e))
 ·obtain ⟨j,hj⟩:=List.mem_iff_getElem?.1 hx;obtain ⟨y,hy,h1,_⟩:=h.get hj;have := h.rg y (List.mem_of_getElem? hy);exact ⟨y.1,h1,this⟩
theorem zfn.isKey {es:Array MapEntry} {bs:Bts} (h:zfn F es bs):∀ x∈es.toList,IsKey (.int .u32) x.key:=λx hx=>by
 obtain ⟨j,hj⟩:=List.mem_iff_getElem?.1 hx;obtain ⟨y,hy,h1,_⟩:=h.get hj;rw [h1]; trivial
theorem yb3:Tryz.prog.underlying 56=some (.map 38 154):=Tryz.underlying56
theorem ye1 (w:World):(zeroValue 154).run Tryz.prog w=.ok (.agg #[.int .u8 0,.int .u32 0,.slice none 0 0,.slice none 0 0]) w:=by kernel_rfl
theorem zr6 {mb:Nat} {es:Array MapEntry} {clock:Nat} {bs:Bts} {id:Int} (hM:M mb=some (.obj (.map es clock))) (hd:zfn F es bs) (k:∀ v,btD F v (zal bs id) -> K v ⟨F,M,N⟩) :
  lkp Tryz.prog 56 (.map (some mb)) (.int .u32 id) false K ⟨F,M,N⟩:=by
 refine yrb yb3 Tryz.underlying38 ye1 (d:=.int .u32) rfl hd.isKey hM (λhmiss=>?_) (λj x hj hx=>?_)
 ·refine k _ ?_;rw [zy5 (λy hy e=>?_)]
  ·exact btD.no
  ·obtain ⟨j,hj⟩:=List.mem_iff_getElem?.1 hy;have hl:j<es.toList.length:=by rw [Array.length_toList,hd.len]; exact (List.getElem?_eq_some_iff.1 hj).1
   have h1:=(hd.ea j _ y (List.getElem?_eq_getElem hl) hj).1;exact hmiss _ (List.getElem_mem hl) (by rw [h1,e])
 ·obtain ⟨y,hy,h1,h2,_⟩:=hd.get hj;have e:y.1=id:=by rw [h1] at hx; simpa using hx
  refine k _ ?_;rw [← e,ylm hd.nd hy]; exact h2
theorem yfh {mb:Nat} {es:Array MapEntry} {bs:Bts} {id:Int} {v:Value} {b:Bt} (hM:M mb=some (.obj (.map es bs.length))) (hd:zfn F es bs) (hb:btD F v b) (h0:0≤id) (h1:id<4294967296)
  (k:∀ es',zfn F es' (zhk bs id b) -> K undef ⟨F,upd M mb (some (.obj (.map es' (zhk bs id b).length))),N⟩) :
  mup Tryz.prog 56 (.map (some mb)) (.int .u32 id) v K ⟨F,M,N⟩:=by
 refine yvk yb3 Tryz.underlying38 (d:=.int .u32) rfl hd.isKey hM (λhmiss=>?_) (λj x hj hx=>?_)
 ·have hno:¬ zo5 bs id=true:=λh=>by
   obtain ⟨y,hy,e⟩:=zff.1 h;obtain ⟨j,hj⟩:=List.mem_iff_getElem?.1 hy;have hl:j<es.toList.length:=by rw [Array.length_toList,hd.len]; exact (List.getElem?_eq_some_iff.1 hj).1
   have h2:=(hd.ea j _ y (List.getElem?_eq_getElem hl) hj).1;exact hmiss _ (List.getElem_mem hl) (by rw [h2,e])
  have e:zhk bs id b=bs++[(id,b)]:=by unfold zhk; rw [if_neg hno]
  have hl:(zhk bs id b).length=bs.length+1:=by rw [e]; simp
  have hel:es.toList.length=bs.length:=by rw [Array.length_toList,hd.len]
  have := k (es.push ⟨.int .u32 id,v,bs.length⟩) ⟨?_,λi e' x h3 h4=>?_,ztz hd.nd,λx hx=>?_⟩
  ·rw [hl] at this; exact this
  ·rw [Array.size_push,hl,hd.len]
  ·rw [e] at h4;rw [Array.toList_push] at h3
   rcases Nat.lt_or_ge i bs.length with hi | hi
   ·rw [List.getElem?_append_left (by rw [Array.length_toList,hd.len]; exact hi)] at h3;rw [List.getElem?_append_left hi] at h4;exact hd.ea i e' x h3 h4
   ·rw [List.getElem?_append_right (by rw [hel]; exact hi),hel] at h3;rw [List.getElem?_append_right hi] at h4;obtain ⟨hi2,h5⟩:=List.getElem?_eq_some_iff.1 h4;have hz:i - bs.length=0:=by simp at hi2; omega
    rw [hz] at h3 h4
    simp at h3 h4
    subst h3; subst h4;exact ⟨rfl,hb,by simp only; omega⟩
  ·rcases ybi hx with rfl | ⟨h3,_⟩
   ·exact ⟨h0,h1⟩
   ·exact hd.rg x h3
 ·obtain ⟨y,hy,h2,h3,h4⟩:=hd.get hj;have e:y.1=id:=by rw [h2] at hx; simpa using hx
  have hyes:zo5 bs id=true:=zff.2 ⟨y,List.mem_of_getElem? hy,e⟩;have es1:zhk bs id b=bs.map (λx=>if x.1=id then (id,b) else x):=by unfold zhk; rw [if_pos hyes]
  have hl:(zhk bs id b).length=bs.length:=by rw [es1]; simp
  have hjl:=(List.getElem?_eq_some_iff.1 hy).1;have := k (es.modify j (λe'=>{ e' with key:=.int .u32 id,val:=v })) ⟨by rw [Array.size_modify,hl,hd.len],λi e' x h5 h6=>?_,ztz hd.nd,λx hx=>?_⟩
  ·rw [hl] at this; exact this
  ·rw [es1,List.getElem?_map] at h6;rw [Array.getElem?_toList,Array.getElem?_modify] at h5;cases hbi:bs[i]? with
   | none=>rw [hbi] at h6; simp at h6
   | some z=>
    rw [hbi] at h6;simp only [Option.map_some,Option.some.injEq] at h6;have hil:=(List.getElem?_eq_some_iff.1 hbi).1;have hei:es.toList[i]?=some (es.toList[i]'(by rw [Array.length_toList,hd.len]; exact hil)):=List.getElem?_eq_getElem _;obtain ⟨z1,z2,z3⟩:=hd.ea i _ z hei hbi
    by_cases hij:j=i
    ·subst hij;rw [if_pos rfl] at h5;rw [← Array.getElem?_toList,hei] at h5;simp only [Option.map_some,Option.some.injEq] at h5;have hz:z=y:=by rw [hbi] at hy; simpa using hy
     rw [hz,if_pos e] at h6;subst h5; subst h6;exact ⟨rfl,hb,z3⟩
    ·rw [if_neg hij,← Array.getElem?_toList,hei] at h5;simp only [Option.some.injEq] at h5
     have hz:z.1≠id:=λe2=>by
      have hne:i≠j:=λe3=>hij e3.symm;have hp:=hd.nd
      rcases Nat.lt_or_gt_of_ne hne with h | h
      ·have := List.pairwise_iff_getElem.1 hp i j (by simpa using hil) (by simpa using hjl) h;rw [List.getElem_map,List.getElem_map,(List.getElem?_eq_some_iff.1 hbi).2,(List.getElem?_eq_some_iff.1 hy).2] at this;exact this (by rw [e2,e])
      ·have := List.pairwise_iff_getElem.1 hp j i (by simpa using hjl) (by simpa using hil) h;rw [List.getElem_map,List.getElem_map,(List.getElem?_eq_some_iff.1 hbi).2,(List.getElem?_eq_some_iff.1 hy).2] at this;exact this (by rw [e2,e])
     rw [if_neg hz] at h6;subst h5; subst h6;exact ⟨z1,z2,z3⟩
  ·rcases ybi hx with rfl | ⟨h7,_⟩
   ·exact ⟨h0,h1⟩
   ·exact hd.rg x h7
theorem ykc {l:List Dm} (hs:∀ d∈l,0<d.1∧d.1≤1000000) (c:List Int):inF l (keyOf l c)=true:=by
 have hkl:=zpd l c;unfold inF;rw [decide_eq_true hkl,Bool.true_and,List.all_eq_true];intro i hi;have hi':i<l.length:=List.mem_range.1 hi;have := yj7 (c:=c) hs (by omega:i<(keyOf l c).length) hi';unfold inP;rw [zfr (by omega:i<(keyOf l c).length),zfr hi'];exact decide_eq_true this
theorem zrm {l:List Dm} (h:zfe l):∀ d∈l,0<d.1∧d.1≤1000000:=λd hd=>by have := h.2.2 d hd; omega
theorem zy0 {l:List Dm} (hl:zfe l) (ks:List (List Int)) (v:List Int):zcc l (zdy l ks v)=true:=by
 refine ybd (by rw [zkh]; omega) λf hf=>?_;obtain ⟨c,hc⟩:=(zrq hf).1;rw [hc]; exact ykc (zrm hl) c
theorem zgc {b:Nat} {h:Hp} (k:K (.bool false) h):pv (za2 .ptr .eql (.pointer (some ⟨b,0,none⟩)) (.pointer none)) K h:=⟨_,rfl,k⟩
theorem ygl {b:Nat} {u v:Value} {s t:List Fc} (hF:F b=some [u,v]) (hu:zbo F u s) (hv:zbo F v t) (hs:s.length≤1000000) (ht:t.length≤1000000):yc3 F (.slice (some ⟨b,0,none⟩) 2 2) [s,t]:=by
 obtain ⟨a1,c1,e1⟩:=hu.form;obtain ⟨a2,c2,e2⟩:=hv.form;have o1:[u].length=1∧∀ c∈[u],c.oneCell'=true:=⟨rfl,λc hc=>by rw [List.mem_singleton.1 hc,e1]; rfl⟩;have o2:[v].length=1∧∀ c∈[v],c.oneCell'=true:=⟨rfl,λc hc=>by rw [List.mem_singleton.1 hc,e2]; rfl⟩;exact ⟨[[u],[v]],znd hF rfl (by decide),zca (zca (zag.nil _ 1) o1 ⟨u,rfl,hu,by omega⟩) o2 ⟨v,rfl,hv,by omega⟩⟩
theorem yl2 {B:Nat} {v fv:Value} {rows:List (List Value)} {h:List En} {t:Int} {fs:List Fc} (hv:own M B 143 2 v h.length rows.flatten) (hB:B≤N) (hr:zag (ze2 F) 2 rows h) (hs:zbx h) (hl:h.length≤10000000000) (hm':∀ e∈h,e.2.length≤1000000) (hf:zbo F fv fs) (hfl:fs.length≤1000000) (hk:∀ f∈fs,f.1.length≤10000000000)
  (k:∀ v' F' M' N' rows',za7 F F' -> own M' B 143 2 v' (zdt h t fs).length rows'.flatten -> zag (ze2 F') 2 rows' (zdt h t fs) -> (∀ q,v.ownBlock≠some q -> q<N -> M' q=M q∧v'.ownBlock≠some q) -> N≤N' -> za5 M' N' -> (Hp.mk F' M' N').wf -> K v' ⟨F',M',N'⟩) :
  cF 186 #[v,.int .u32 t,fv] K E ⟨F,M,N⟩:=by
 cases ht:zdu h t
 ·refine ycn hv hB hr hs hl ht hf hfl hk ?_;rw [← yh3 ht,zs3];exact k
 have hi:=yif ht;rw [← zs3,yg3 ht hi] at k;refine za4 za8 Tryz.func186 (by kernel_rfl) (yqa _ E _ _ _) (λhw=>?_);have hm:za5 M N:=hw.m;refine yc2 hv hr hs (by omega) (λN1 hN1 hw1=>?_);rw [ht];try simp only [sS]
 refine yqd (off:=1) hv hr (by decide) hi λb c r x hvf hcell hri hR hrl hx=>?_;obtain ⟨ov,rfl,hov,hovl⟩:=hR;have hx':x=ov:=by simpa using hx.symm
 subst hx';have het:h[zbk h t].1=t:=by rw [zsj hi] at ht; exact of_decide_eq_true ht
 have hom:=hm' _ (List.getElem_mem hi);refine zzr hf (by omega) hk (λv2 F2 N2 hw2 hF2 hN2 hf2=>?_);obtain ⟨cs,tot,hMb,hcs⟩:=hcell;refine ⟨⟨cs,.inr ⟨_,_,hMb⟩,by rw [Nat.zero_add]; exact hcs⟩,?_⟩;have hov2:=hov.mono hF2;obtain ⟨a1,c1,e1⟩:=hov2.form;obtain ⟨a2,c2,e2⟩:=hf2.form;have hm2:za5 M N2:=hw2.m;refine zcx (cs:=[x,v2]) (by rw [e1,e2]; kernel_rfl) (λb9 hb9=>?_);refine ziz (λhc=>⟨_,zog (p:=λq=>q=b9) hc,?_⟩);have hs3:=zc5 (p:=λq=>q=b9) hc;have f9:=yo1 (F:=F2) (p:=λq=>q=b9) rfl (za0 M b9 (some (.cells 39 [x,v2] [x,v2].length)));have hMK:∀ q,q<N2 -> zh8 (upd M b9 (some (.cells 39 [x,v2] [x,v2].length))) (λq=>¬ q=b9) q=M q:=λq hq=>(zch (by omega)).trans (za3 _ _ (by omega));have hmK:za5 (zh8 (upd M b9 (some (.cells 39 [x,v2] [x,v2].length))) (λq=>¬ q=b9)) (b9+1):=zei (hm2.new hb9 _);generalize frzP F2 _ _=F3 at *;generalize zh8 _ _=M3 at *;clear hc;refine yhg (ts:=[h[zbk h t].2,fs]) (ygl f9 (hov2.mono hs3) (hf2.mono hs3) hom hfl) (by simp; omega) (by simp) (λv10 F4 N4 hw4 hF4 hN4 h10=>?_);have ef:[h[zbk h t].2,fs].flatten=h[zbk h t].2++fs:=by simp
 rw [ef] at h10;obtain ⟨a10,c10,e10⟩:=h10.form;have hv4:own M3 B 143 2 v h.length rows.flatten:=hv.keep (λq hq=>hMK q (by have := hv.lt hm q hq; omega)) (Nat.le_refl _);have F04:=(hF2.trans hs3).trans hF4;refine yq3 (y:=(t,h[zbk h t].2++fs)) hv4 (hr.mono λ_ _ h=>h.mono F04) (by decide) hi (by rw [e10]; rfl) (by rw [e10]; rfl) (λr' hr'=>?_) (λp q M5 rows' g1 g2 g3 g4=>?_)
 ·rw [hri] at hr';cases hr';refine ⟨v10,by simp [het],h10,by simp only [List.length_append]; omega⟩
 exact λhc=>⟨_,za1 hc,λhw'=>k v F4 M5 N4 rows' F04 g1 g2 (λq hq hqN=>⟨(g3 q hq).trans (hMK q (by omega)),hq⟩) (by omega) (g4 _ hw4.m) hw'⟩
theorem yme {h:List En} {i:Nat} (hi:i<h.length) (h0:200<h[i].2.length):zl4 h=true:=List.any_eq_true.2 ⟨_,List.getElem_mem hi,decide_eq_true h0⟩
theorem yny {cs:List Value} {e:En} (he:ze2 F cs e) (k:∀ N',N≤N' -> (Hp.mk F M N').wf -> K (.bool (decide (200<e.2.length))) ⟨F,M,N'⟩) :
  cF 188 #[.agg cs.toArray] K E ⟨F,M,N⟩:=by
 refine za4 za8 Tryz.func188 (by kernel_rfl) (ysj _ E _) (λhw=>?_);have hm:za5 M N:=hw.m;obtain ⟨v,rfl,hv,hvl⟩:=he;refine zap (cs:=[.int .u32 e.1,v]) (λb hb=>?_);try simp only [sS]
 refine ldM (v:=v) ?_;obtain ⟨frows,h1,h2⟩:=hv;refine zb7 h1 ?_;refine zbw (λh0=>?_) (λh0=>?_)
 ·rw [decide_eq_true (by omega)] at k;exact λhc=>⟨⟨F,M,b+1⟩,zbl hc (zb5 (zbb _) (hm _ hb)),λhw'=>k _ (by omega) hw'⟩
 ·rw [decide_eq_false (by omega)] at k;exact λhc=>⟨⟨F,M,b+1⟩,zbl hc (zb5 (zbb _) (hm _ hb)),λhw'=>k _ (by omega) hw'⟩
theorem ypv {B:Nat} {v:Value} {rows:List (List Value)} {h:List En} (hv:own M B 143 2 v h.length rows.flatten) (hr:zag (ze2 F) 2 rows h) (hl:h.length≤10000000000) (k:∀ N',N≤N' -> (Hp.mk F M N').wf -> K (.bool (zl4 h)) ⟨F,M,N'⟩) :
  cF 189 #[v,.func (.func 188) #[] #[]] K E ⟨F,M,N⟩:=by
 refine za4 za8 Tryz.func189 (by kernel_rfl) (yvt _ E _ _) (λhw=>?_);refine za4 za8 Tryz.func249 (by kernel_rfl) (yty _ E _ _) (λhw=>?_);have hlv:zab v=some (.int .i64 (h.length:Nat)):=by obtain ⟨a,c,e,_⟩:=hv.form; rw [e]; rfl
 refine zaa hlv ?_
 refine zwn (σ:=Nat) (λi=>.int .i64 (i:Nat)) (λi h'=>∃ N',h'=⟨F,M,N'⟩∧N≤N'∧i≤h.length∧zl4 h=zl4 (h.drop i)) (λi=>h.length - i) 0 rfl
  (λhw1=>⟨_,za1 hw1,N,rfl,Nat.le_refl _,Nat.zero_le _,rfl⟩) (λkk i j h1 hI hw1 next=>?_)
 rw [zxh];obtain ⟨N1,rfl,hN1,hi,he⟩:=hI;refine zat (λhlt=>?_) (λhge=>?_)
 ·have i1:i<h.length:=by omega
  try simp only [sS]
  refine zkj hv hr (by decide) i1 λq r _ hR _ _=>yny hR (λN2 hN2 hw2=>?_)
  by_cases h0:200<h[i].2.length
  ·rw [decide_eq_true h0];refine zax ?_;refine λhc=>⟨_,za1 hc,λhw'=>yf3 (by omega) λhc=>⟨_,za1 hc,λhw'=>?_⟩⟩;have := k N2 (by omega) hw';rw [yme i1 h0] at this;exact this
  ·rw [decide_eq_false h0];refine zaq ?_;refine zas (by omega) ?_;refine next (i+1) _ _ (by omega) (λhw3=>⟨_,za1 hw3,N2,rfl,by omega,i1,?_⟩);rw [he,List.drop_eq_getElem_cons i1];unfold zl4;rw [List.any_cons,decide_eq_false h0,Bool.false_or]
 ·try simp only [sS]
  refine λhc=>⟨_,za1 hc,λhw'=>zqp (by omega) λhc=>⟨_,za1 hc,λhw'=>?_⟩⟩;have := k N1 hN1 hw';rw [he,List.drop_eq_nil_of_le (by omega)] at this;exact this
theorem ycc (h es:List En) {i:Nat} (hi:i<es.length):zci h (es.take (i+1))=zit (zci h (es.take i)) es[i]:=by
 unfold zci;rw [List.take_add_one,List.getElem?_eq_getElem hi,Option.toList_some,List.foldl_append]; rfl
theorem yer {B g:Nat} {hv dv ev:Value} {rows:List (List Value)} {l:List Dm} {h es:List En} {a b:Int} (hC:zgg F M B g hv dv rows l h) (hB:B≤N) (o:okH l 5000 200 h) (hdl:l.length≤1000) (hes:zc6 F ev es) (hel:es.length≤140737488351232) (heT:∀ e∈es,e.1<4294967296)
  (k:∀ hv' F' M' N' rows',za7 F F' -> zgg F' M' B g hv' dv rows' l (zkg l a b h es) -> (∀ q,hv.ownBlock≠some q -> q≠g -> q<N -> M' q=M q∧hv'.ownBlock≠some q) -> N≤N' -> za5 M' N' -> (Hp.mk F' M' N').wf -> K (.int .u16 ((zfl l a b h es:Nat):Int)) ⟨F',M',N'⟩) :
  cF 136 #[.pointer (some ⟨g,0,none⟩),.int .i64 a,.int .i64 b,ev] K E ⟨F,M,N⟩:=by
 refine za4 za8 Tryz.func136 (by kernel_rfl) (yw0 _ E _ _ _ _) (λhw=>?_);have hm:za5 M N:=hw.m;have hgN:=hm.lt hC.gg;have hol:=o.le;have hgB:=hC.gB;have hlv:zab hv=some (.int .i64 (h.length:Nat)):=by obtain ⟨x,c,e,_⟩:=hC.oo.form; rw [e]; rfl
 have same:zfl l a b h es≠0 -> ∀ F' M' N',(Hp.mk F' M' N').wf -> za7 F F' -> N≤N' -> (∀ q,q<N -> M' q=M q) -> K (.int .u16 ((zfl l a b h es:Nat):Int)) ⟨F',M',N'⟩:=λhne F' M' N' hw' hF hN hM=>by
  refine k hv F' M' N' rows hF ?_ (λq hq _ hqN=>⟨hM q hqN,hq⟩) hN hw'.m hw';unfold zkg; rw [if_neg hne];exact hC.keep hF (λq hq=>hM q (hC.lt hm q hq).2)
 refine zoy (λw F1 N1 hw1 hF1 hN1 hW=>?_);refine ykg (hC.keep (M':=M) hF1 (λ_ _=>rfl)) hdl (hes.mono hF1) (by omega) hW (λF2 N2 hw2 hF2 hN2=>?_);have F02:=hF1.trans hF2;cases hrt:zdx l a b 0 es
 ·have e1:zfl l a b h es=1:=by unfold zfl; rw [if_pos hrt]
  try simp only [sS]
  refine λhc=>⟨_,za1 hc,λhw'=>?_⟩;have := same (by omega) _ _ _ hw' F02 (by omega) (λ_ _=>rfl);rw [e1] at this; exact this
 have hrE:zfl l a b h es=if 5000<(zgy a b h es).length∨zl4 (zgy a b h es)=true then 3 else 0:=by unfold zfl; rw [if_neg (by rw [hrt]; decide)]
 obtain ⟨er1,er2⟩:=zoo hrt;have hen:=zv1 hrt (by decide:(0:Int)<4294967296) heT;try simp only [sS]
 refine ldM (v:=hv) ?_ hC.gg;refine zaa hlv ?_
 refine zo8 (σ:=Nat×Value) (λs=>s.2) (λs=>.int .i64 (s.1:Nat))
  (λs h'=>∃ F' M' N' rows',h'=⟨F',M',N'⟩∧za7 F2 F'∧N≤N'∧(∀ q,q<N -> M' q=M q)∧za5 M' N'∧s.1≤h.length∧own M' N 143 2 s.2 (zcd a b (h.take s.1)).length rows'.flatten∧zag (ze2 F') 2 rows' (zcd a b (h.take s.1))) (λs=>h.length - s.1) (0,.slice none 0 0) rfl rfl
  (λhw3=>⟨_,za1 hw3,F2,M,N2,[],rfl,za7.refl _,by omega,λ_ _=>rfl,hw2.m,Nat.zero_le _,own.nil,zag.nil _ _⟩) (λkk s j h1 hI hw3 next=>?_)
 ·rw [zou];obtain ⟨F3,M3,N3,rows3,rfl,hF3,hN3,hM3,hm3,hi,ho,hr⟩:=hI;refine zat (λhlt=>?_) (λhge=>?_)
  ·have i1:s.1<h.length:=by omega
   have e1:=ycr (zl3 a b) h i1;have hle:(zcd a b (h.take s.1)).length≤s.1:=yg8 (zl3 a b) h s.1;try simp only [sS]
   have hoo1:own M3 B 143 2 hv h.length rows.flatten:=hC.oo.keep (λq hq=>hM3 q (hC.oo.lt hm q hq)) (Nat.le_refl _);refine zkj hoo1 hC.rr (by decide) i1 λp r _ hR _ hr1=>?_;obtain ⟨fv,rfl,hfv,hfl⟩:=hR;have hfm:=o.fl _ (List.getElem_mem i1);refine zap (λb4 hb4=>?_);refine stM (cs':=[.int .u32 h[s.1].1,fv]) ?_ (za0 _ _ _) rfl rfl hr1;rw [zan];have hbox:=za0 M3 b4 (some (.cells 143 [.int .u32 h[s.1].1,fv] [Value.int .u32 0,Value.slice none 0 0].length));have ho2:=ho.box hm3 hb4 (some (.cells 143 [.int .u32 h[s.1].1,fv] [Value.int .u32 0,Value.slice none 0 0].length));have hm4:=hm3.new hb4 (some (.cells 143 [.int .u32 h[s.1].1,fv] [Value.int .u32 0,Value.slice none 0 0].length));have hM4:∀ q,q<N -> upd M3 b4 (some (.cells 143 [.int .u32 h[s.1].1,fv] [Value.int .u32 0,Value.slice none 0 0].length)) q=M q:=λq hq=>(za3 _ _ (by omega)).trans (hM3 q hq);generalize upd M3 b4 _=M4 at *;try simp only [sS]
   refine ldM (v:=fv) ?_ hbox;have hfv3:=hfv.mono (F02.trans hF3);have hfv3':=hfv3;obtain ⟨frows0,hfv3a,_⟩:=hfv3';refine zs6 hfv3 (hW.mono (hF2.trans hF3)) (by omega) (o.keys hdl (List.getElem_mem i1)) (λv4 F4 N4 hw4 hF4 hN4 hf4=>?_);rw [zyc] at hf4;obtain ⟨frows,hf4a,hf4b⟩:=hf4;have hF4':=hF3.trans hF4;have hflen:(h[s.1].2.filter (zfq a b)).length≤200:=by have := List.length_filter_le (zfq a b) h[s.1].2; omega
   obtain ⟨a5,c5,e5,_⟩:=hf4a.form;have he4:ze2 F4 [.int .u32 h[s.1].1,v4] (h[s.1].1,h[s.1].2.filter (zfq a b)):=⟨v4,rfl,⟨frows,hf4a,hf4b⟩,by simp only; omega⟩;refine zb7 hf4a ?_
   have skip:¬ (0<(h[s.1].2.filter (zfq a b)).length∨h[s.1].2.length=0) -> zcd a b (h.take (s.1+1))=zcd a b (h.take s.1):=λhn=>by
    unfold zcd;rw [e1];unfold zl3;rw [if_neg hn]; simp
   have take1:(0<(h[s.1].2.filter (zfq a b)).length∨h[s.1].2.length=0) -> zcd a b (h.take (s.1+1))=zcd a b (h.take s.1)++[(h[s.1].1,h[s.1].2.filter (zfq a b))]:=λhn=>by
    unfold zcd;rw [e1];unfold zl3;rw [if_pos hn]; rfl
   refine zbw (λh0=>?_) (λh0=>?_)
   rotate_left
   try simp only [sS]
   refine ldM (v:=fv) ?_ hbox;try simp only [sS]
   refine zb7 hfv3a ?_;try simp only [sS]
   refine zau (λh9=>?_) (λh9=>?_)
   rotate_left
   ·try simp only [sS]
    rw [zh1];refine zas (by omega) ?_;refine next (s.1+1,s.2) _ _ (by simp only; omega) (λhw5=>⟨_,za1 hw5,F4,M4,N4,rows3,rfl,hF4',by omega,hM4,hw4.m,i1,?_,?_⟩)
    ·simp only;rw [skip (by omega)]; exact ho2
    ·simp only;rw [skip (by omega)]; exact hr.mono λ_ _ h=>h.mono hF4
   all_goals
    try simp only [sS]
    refine ldM (v:=.int .u32 h[s.1].1) ?_ hbox;refine zaa (v:=.agg #[.int .u32 h[s.1].1,v4]) (by rw [e5]; kernel_rfl) ?_;refine zhb (new:=[.int .u32 h[s.1].1,v4]) ho2 hw4.m (by omega) (by rw [e5]; kernel_rfl) rfl he4.one.2 (by omega) (by unfold maxLen; omega) (λp v' M5 N5 g1 g2 g3 g4=>?_);rw [zh1];refine zas (by omega) ?_;refine next (s.1+1,v') _ _ (by simp only; omega) (λhw5=>⟨_,za1 hw5,F4,M5,N5,rows3++[[.int .u32 h[s.1].1,v4]],rfl,hF4',by omega,λq hq=>?_,g4,i1,?_,?_⟩)
    ·exact ((g2 q (λe=>by have := (ho2.ge q e).1; omega) (by omega)).1).trans (hM4 q hq)
    ·simp only;rw [take1 (by omega),List.length_append,List.length_singleton];exact (by simpa using g1:own M5 N 143 2 v' _ (rows3++[[.int .u32 h[s.1].1,v4]]).flatten)
    ·simp only;rw [take1 (by omega)];exact zca (hr.mono λ_ _ h=>h.mono hF4) he4.one he4
  ·try simp only [sS]
   rw [List.take_of_length_le (by omega)] at ho hr;have oR:=o.rest a b;have F03:=F02.trans hF3;obtain ⟨erows,hes1,hes2⟩:=hes.mono F03
   have hlay:∀ i,zbx (zci (zcd a b h) (es.take i))∧(zci (zcd a b h) (es.take i)).length≤9000000000∧∀ e∈zci (zcd a b h) (es.take i),e.2.length≤1000000:=λi=>by
    have x1:=znx (es.take i) (zcd a b h);have x2:=oR.le;rw [List.length_take] at x1;have x3:zbx (es.take i):=er1.sublist (List.take_sublist _ _);refine ⟨zga oR.rs,by omega,λe he=>?_⟩;have := yg9 oR.rs x3 oR.fl (λe he=>(zfw (er2 e (List.mem_of_mem_take he)).2.1).1) e he;omega
   refine zb7 hes1 ?_
   refine zmt (σ:=Nat×Value) (λs=>s.2) (λs=>.int .i64 (s.1:Nat))
    (λs h'=>∃ F' M' N' rows',h'=⟨F',M',N'⟩∧za7 F3 F'∧N≤N'∧(∀ q,q<N -> M' q=M q)∧za5 M' N'∧s.1≤es.length∧own M' N 143 2 s.2 (zci (zcd a b h) (es.take s.1)).length rows'.flatten∧zag (ze2 F') 2 rows' (zci (zcd a b h) (es.take s.1))) (λs=>es.length - s.1) (0,s.2) rfl rfl
    (λhw4=>⟨_,za1 hw4,F3,M3,N3,rows3,rfl,za7.refl _,hN3,hM3,hm3,Nat.zero_le _,ho,hr⟩) (λkk s j h1 hI hw4 next=>?_)
   rw [zmq];obtain ⟨F4,M4,N4,rows4,rfl,hF4,hN4,hM4,hm4,hi,ho,hr⟩:=hI;obtain ⟨y1,y2,y3⟩:=hlay s.1;refine zat (λhlt=>?_) (λhge=>?_)
   ·have i1:s.1<es.length:=by omega
    have et:=ycc (zcd a b h) es i1;obtain ⟨z1,z2,z3⟩:=er2 _ (List.getElem_mem i1);obtain ⟨f1,f2⟩:=zfw z2;try simp only [sS]
    refine zih (hes1.mono hF4) (hes2.mono λ_ _ h=>h.mono hF4) (by decide) i1 (λp r _ hR hrl hr1=>?_);obtain ⟨fv,hre,hfv,hfl⟩:=hR;subst hre;refine zap (λb4 hb4=>?_);refine stM (cs':=[.int .u32 es[s.1].1,fv]) ?_ (za0 _ _ _) rfl rfl hr1;rw [zan];have hbox:=za0 M4 b4 (some (.cells 143 [.int .u32 es[s.1].1,fv] [Value.int .u32 0,Value.slice none 0 0].length));have ho2:=ho.box hm4 hb4 (some (.cells 143 [.int .u32 es[s.1].1,fv] [Value.int .u32 0,Value.slice none 0 0].length));have hm5:=hm4.new hb4 (some (.cells 143 [.int .u32 es[s.1].1,fv] [Value.int .u32 0,Value.slice none 0 0].length));have hM5:∀ q,q<N -> upd M4 b4 (some (.cells 143 [.int .u32 es[s.1].1,fv] [Value.int .u32 0,Value.slice none 0 0].length)) q=M q:=λq hq=>(za3 _ _ (by omega)).trans (hM4 q hq);generalize upd M4 b4 _=M5 at *;try simp only [sS]
    refine ldM (v:=fv) ?_ hbox;have hfv':=hfv;obtain ⟨frows,hfa,_⟩:=hfv';refine zb7 hfa ?_;refine zbw (λh0=>?_) (λh0=>?_)
    ·try simp only [sS]
     refine ldM (v:=.int .u32 es[s.1].1) ?_ hbox;try simp only [sS]
     refine ldM (v:=fv) ?_ hbox;refine yl2 ho2 (by omega) hr y1 (by omega) y3 hfv (by omega) (λf hf=>by have := zi0 (f2 f hf); omega) (λv' F6 M6 N6 rows6 hF6 g1 g2 g3 g4 g5 g6=>?_);rw [zgh];refine zas (by omega) ?_
     have e3:zci (zcd a b h) (es.take (s.1+1))=zdt (zci (zcd a b h) (es.take s.1)) es[s.1].1 es[s.1].2:=by
      rw [et]; unfold zit; rw [if_pos (by omega)]
     refine next (s.1+1,v') _ _ (by simp only; omega) (λhw5=>⟨_,za1 hw5,F6,M6,N6,rows6,rfl,hF4.trans hF6,by omega,λq hq=>?_,g5,i1,?_,?_⟩)
     ·exact ((g3 q (λe=>by have := (ho2.ge q e).1; omega) (by omega)).1).trans (hM5 q hq)
     ·simp only;rw [e3]; exact g1
     ·simp only;rw [e3]; exact g2
    ·try simp only [sS]
     rw [zgh];refine zas (by omega) ?_
     have e3:zci (zcd a b h) (es.take (s.1+1))=zci (zcd a b h) (es.take s.1):=by
      rw [et]; unfold zit; rw [if_neg (by omega)]
     refine next (s.1+1,s.2) _ _ (by simp only; omega) (λhw5=>⟨_,za1 hw5,F4,M5,_,rows4,rfl,hF4,by omega,hM5,hm5,i1,?_,?_⟩)
     ·simp only;rw [e3]; exact ho2
     ·simp only;rw [e3]; exact hr
   ·try simp only [sS]
    rw [List.take_of_length_le (by omega)] at ho hr y1 y2 y3;have F04:=F03.trans hF4;have hlo:zab s.2=some (.int .i64 ((zci (zcd a b h) es).length:Nat)):=by obtain ⟨x,c,e,_⟩:=ho.form; rw [e]; rfl
    have bad:zfl l a b h es=3 -> ∀ N',N4≤N' -> ∀ h',h'=(⟨F4,M4,N'⟩:Hp) -> h'.wf -> ∃ h'',h'.wk h''∧(h''.wf -> K (.int .u16 3) h''):=λe3 N' hN' h' e' hc=>by
     subst e';refine ⟨_,za1 hc,λhw'=>?_⟩;have := same (by omega) _ _ _ hw' F04 (by omega) hM4;rw [e3] at this; exact this
    refine zaa hlo ?_;refine zbw (λh0=>?_) (λh0=>?_)
    ·try simp only [sS]
     exact bad (by rw [hrE]; unfold zgy; rw [if_pos (.inl (by omega))]) N4 (Nat.le_refl _) _ rfl
    ·try simp only [sS]
     refine ypv ho hr (by omega) (λN5 hN5 hw5=>?_);cases hlg:zl4 (zci (zcd a b h) es)
     ·have e0:zfl l a b h es=0:=by
       rw [hrE]; unfold zgy; rw [if_neg (by rintro (q | q); omega; rw [hlg] at q; cases q)]
      obtain ⟨xa,xc,xe,_⟩:=ho.form;try simp only [sS]
      refine stM (cs':=[s.2,dv]) ?_ ((hM4 g hgN).trans hC.gg) (by rw [xe]; rfl) (by rw [xe]; rfl) (by rw [xe]; exact List.all_eq_true.1 rfl);have hsg:s.2.ownBlock≠some g:=λe=>by have := (ho.ge g e).1; omega
      refine λhc=>⟨_,za1 hc,λhw'=>?_⟩;rw [e0] at k;refine k s.2 F4 _ N5 rows4 F04 ?_ (λq hq hqg hqN=>⟨(za3 _ _ hqg).trans (hM4 q hqN),λe=>by have := (ho.ge q e).1; omega⟩) (by omega) (za5.set hw5.m (by omega) _) hw';unfold zkg; rw [if_pos e0];exact ⟨za0 _ _ _,hgB,ho.keep (λq hq=>za3 _ _ (λe=>hsg (e ▸ hq))) hB,hr,hsg,hC.dd.mono F04,y1⟩
     ·try simp only [sS]
      exact bad (by rw [hrE]; unfold zgy; rw [if_pos (.inr hlg)]) N5 hN5 _ rfl
theorem zc7 {B:Nat} {e:TypeId} {sz n:Nat} {v:Value} {cs:List Value} (h:own M B e sz v n cs):∀ q,v.ownBlock=some q -> ∃ cs tot,M q=some (.cells e cs tot):=λq hq=>by
 rcases h.2 with ⟨rfl,_⟩ | ⟨b,c,rest,rfl,_,_,_,h4⟩
 ·simp [Value.ownBlock] at hq
 ·simp [Value.ownBlock] at hq
  subst hq;exact ⟨_,_,h4⟩
structure zb8 (F:Nat -> Option (List Value)) (M:Nat -> Option zak) (B p g mb:Nat) (hv dv:Value) (rows:List (List Value)) (l:List Dm) (h:List En) (bs:Bts) (tk:Int):Prop where
 pp:M p=some (.cells 58 [.pointer (some ⟨g,0,none⟩),.map (some mb),.int .u32 tk] 3)
 pB:B≤p
 mB:B≤mb
 mm:∃ es,M mb=some (.obj (.map es bs.length))∧zfn F es bs
 cc:zgg F M B g hv dv rows l h
section
variable {B p g mb:Nat} {hv dv:Value} {rows:List (List Value)} {l:List Dm} {h:List En} {bs:Bts} {tk:Int}
theorem zb8.keep (P:zb8 F M B p g mb hv dv rows l h bs tk) (hF:za7 F F') (hM:∀ q,q=p∨q=mb∨q=g∨hv.ownBlock=some q -> M' q=M q):zb8 F' M' B p g mb hv dv rows l h bs tk :=
 ⟨(hM p (.inl rfl)).trans P.pp,P.pB,P.mB,let ⟨es,h1,h2⟩:=P.mm; ⟨es,(hM mb (.inr (.inl rfl))).trans h1,h2.mono hF⟩,P.cc.keep hF (λq hq=>hM q (.inr (.inr hq)))⟩
theorem zb8.lt (P:zb8 F M B p g mb hv dv rows l h bs tk) (hm:za5 M N):∀ q,q=p∨q=mb∨q=g∨hv.ownBlock=some q -> B≤q∧q<N:=λq hq=>by
 rcases hq with rfl | rfl | hq
 ·exact ⟨P.pB,hm.lt P.pp⟩
 ·obtain ⟨es,h1,_⟩:=P.mm; exact ⟨P.mB,hm.lt h1⟩
 ·exact P.cc.lt hm q hq
theorem zb8.up (P:zb8 F M B p g mb hv dv rows l h bs tk) (hm:za5 M N) (hF:za7 F F') (hM:∀ q,q<N -> M' q=M q):zb8 F' M' B p g mb hv dv rows l h bs tk:=P.keep hF (λq hq=>hM q (P.lt hm q hq).2)
theorem zb8.box (P:zb8 F M B p g mb hv dv rows l h bs tk) (hm:za5 M N) {b:Nat} (hb:N≤b) (x:Option zak):zb8 F (upd M b x) B p g mb hv dv rows l h bs tk:=P.up hm (za7.refl _) (λq hq=>za3 _ _ (by omega))
theorem zb8.pg (P:zb8 F M B p g mb hv dv rows l h bs tk):p≠g∧p≠mb∧mb≠g∧hv.ownBlock≠some p∧hv.ownBlock≠some mb:=by
 obtain ⟨es,h1,_⟩:=P.mm;refine ⟨λe=>?_,λe=>?_,λe=>?_,λe=>?_,λe=>?_⟩
 ·have := P.pp; rw [e,P.cc.gg] at this; cases this
 ·have := P.pp; rw [e,h1] at this; cases this
 ·have := P.cc.gg; rw [← e,h1] at this; cases this
 ·obtain ⟨c,t,h2⟩:=zc7 P.cc.oo p e; rw [P.pp] at h2; cases h2
 ·obtain ⟨c,t,h2⟩:=zc7 P.cc.oo mb e; rw [h1] at h2; cases h2
theorem ypf {v:Value} (hv:zeh F v l) (hl:l.length≤140737488351232) (k1:zd1 l=false -> ∀ N',N≤N' -> (Hp.mk F M N').wf -> K (.pointer none) ⟨F,M,N'⟩)
  (k2:zd1 l=true -> ∀ p g mb dv F' M' N',za7 F F' -> zb8 F' M' N p g mb (.slice none 0 0) dv [] l [] [] 0 -> (∀ q,q<N -> M' q=M q) -> N≤N' -> za5 M' N' -> (Hp.mk F' M' N').wf -> K (.pointer (some ⟨p,0,none⟩)) ⟨F',M',N'⟩) :
  cF 38 #[v] K E ⟨F,M,N⟩:=by
 refine za4 za8 Tryz.func38 (by kernel_rfl) (t38 _ E _) (λhw=>?_);refine yr0 hv hl (λh0 N1 hN1 hw1=>?_) (λh0 g dv F1 M1 N1 hF hC hM1 hN1 hm1 hw1=>?_)
 ·refine zaa (v:=.bool true) rfl ?_;try simp only [sS]
  exact λhc=>⟨_,za1 hc,λhw'=>k1 h0 _ hN1 hw'⟩
 ·refine zgc ?_;try simp only [sS]
  refine yrq (λmb hmb=>?_);refine zaa (v:=.agg #[.pointer (some ⟨g,0,none⟩),.map (some mb),.int .u32 0]) (by kernel_rfl) ?_;refine zap (cs:=[.pointer (some ⟨g,0,none⟩),.map (some mb),.int .u32 0]) (λp hp=>?_);have hgN:=hC.lt hm1;refine λhc=>⟨_,za1 hc,λhw'=>k2 h0 p g mb dv F1 _ _ hF ⟨za0 _ _ _,by omega,by omega,⟨#[],(za3 _ _ (by omega)).trans (za0 _ _ _),zfn.nil⟩,hC.keep (za7.refl _) (λq hq=>?_)⟩ (λq hq=>?_) (by omega) ((hm1.new hmb _).new hp _) hw'⟩
  ·have := (hgN q hq).2;exact (za3 _ _ (by omega)).trans (za3 _ _ (by omega))
  ·exact ((za3 _ _ (by omega)).trans (za3 _ _ (by omega))).trans (hM1 q hq)
theorem zpb {id:Int} (P:zb8 F M B p g mb hv dv rows l h bs tk) (k:∀ N',N≤N' -> (Hp.mk F M N').wf -> K (.agg #[.int .u8 (zal bs id).st,.int .u32 (zal bs id).tm]) ⟨F,M,N'⟩) :
  cF 28 #[.pointer (some ⟨p,0,none⟩),.int .u32 id] K E ⟨F,M,N⟩:=by
 refine za4 za8 Tryz.func28 (by kernel_rfl) (t28 _ E _ _) (λhw=>?_);have hm:za5 M N:=hw.m;refine zap (λb1 hb1=>?_);have P1:=P.box hm hb1 (some (.cells 85 [.int .u8 0,.int .u32 0] 2));obtain ⟨es,h1,h2⟩:=P1.mm;try simp only [sS]
 refine ldM (v:=.map (some mb)) ?_ P1.pp;refine zr6 (id:=id) h1 h2 (λv hv=>?_);obtain ⟨nv,fv,rfl,_⟩:=hv;refine zaa (v:=.agg #[.int .u8 (zal bs id).st,.int .u32 (zal bs id).tm]) (by kernel_rfl) ?_;refine stM (cs':=[.int .u8 (zal bs id).st,.int .u32 (zal bs id).tm]) ?_ (za0 _ _ _) rfl rfl (List.all_eq_true.1 rfl);rw [zan];refine zb6 (vs:=[.int .u8 (zal bs id).st,.int .u32 (zal bs id).tm]) ?_ (za0 _ _ _);exact λhc=>⟨⟨F,M,b1+1⟩,zbl hc (zb5 (zbb _) (hm _ hb1)),λhw'=>k _ (by omega) hw'⟩
theorem ycp {id:Int} (P:zb8 F M B p g mb hv dv rows l h bs tk) (k:(Hp.mk F M N).wf -> K (.bool (decide ((zal bs id).st=1))) ⟨F,M,N⟩) :
  cF 58 #[.pointer (some ⟨p,0,none⟩),.int .u32 id] K E ⟨F,M,N⟩:=by
 refine za4 za8 Tryz.func58 (by kernel_rfl) (t58 _ E _ _) (λhw=>?_);obtain ⟨es,h1,h2⟩:=P.mm;try simp only [sS]
 refine ldM (v:=.map (some mb)) ?_ P.pp;refine zr6 (id:=id) h1 h2 (λv hv=>?_);obtain ⟨nv,fv,rfl,_⟩:=hv;refine zaa (v:=.agg #[.int .u8 (zal bs id).st,.int .u32 (zal bs id).tm]) (by kernel_rfl) ?_;refine zaa (v:=.int .u8 (zal bs id).st) (by kernel_rfl) ?_;refine zau (λh0=>?_) (λh0=>?_)
 ·rw [decide_eq_true h0] at k;exact λhc=>⟨_,za1 hc,k⟩
 ·rw [decide_eq_false h0] at k;exact λhc=>⟨_,za1 hc,k⟩
theorem ykq (P:zb8 F M B p g mb hv dv rows l h bs tk) (k:(Hp.mk F M N).wf -> K (.int .u32 tk) ⟨F,M,N⟩) :
  cF 75 #[.pointer (some ⟨p,0,none⟩)] K E ⟨F,M,N⟩:=by
 refine za4 za8 Tryz.func75 (by kernel_rfl) (t75 _ E _) (λhw=>?_);try simp only [sS]
 refine ldM (v:=.int .u32 tk) ?_ P.pp;exact λhc=>⟨_,za1 hc,k⟩
structure zaj where
 kind:Int
 id:Int
 tm:Int
 ns:List Int
 fs:List Fc
 lo:Int
 hi:Int
 es:List En
def zql (F:Nat -> Option (List Value)) (cs:List Value) (r:zaj):Prop:=∃ nv fv ep sv ev,cs=[.int .u8 r.kind,.int .u32 r.id,.int .u32 r.tm,nv,fv,ep,sv,.int .i64 r.lo,.int .i64 r.hi,ev]∧sF F 1 nv r.ns.length (ic r.ns)∧zbo F fv r.fs∧zc6 F ev r.es∧ep.oneCell'=true∧sv.oneCell'=true
theorem zql.one {cs:List Value} {r:zaj} (h:zql F cs r):cs.length=10∧∀ c∈cs,c.oneCell'=true:=by
 obtain ⟨nv,fv,ep,sv,ev,rfl,h1,h2,h3,h4,h5⟩:=h;obtain ⟨a1,c1,rfl,_⟩:=h1.form;obtain ⟨a2,c2,rfl⟩:=h2.form;obtain ⟨a3,c3,rfl⟩:=h3.form;refine ⟨rfl,λc hc=>?_⟩;simp only [List.mem_cons,List.not_mem_nil,or_false] at hc
 rcases hc with rfl | rfl | rfl | rfl | rfl | rfl | rfl | rfl | rfl | rfl<;>first | rfl | assumption
def abE (bs:Bts) (r:zaj):Nat:=if (zal bs r.id).st>1 then 140 else 0
def abS (bs:Bts) (r:zaj):Bts:=if (zal bs r.id).st>1 then bs else zhk bs r.id ⟨3,0,[],[]⟩
theorem yil {cs:List Value} {r:zaj} (P:zb8 F M B p g mb hv dv rows l h bs tk) (hr:zql F cs r) (h0:0≤r.id) (h1:r.id<4294967296)
  (k:∀ M' N',zb8 F M' B p g mb hv dv rows l h (abS bs r) tk -> (∀ q,q≠mb -> q<N -> M' q=M q) -> N≤N' -> za5 M' N' -> (Hp.mk F M' N').wf -> K (.int .u16 ((abE bs r:Nat):Int)) ⟨F,M',N'⟩) :
  cF 93 #[.pointer (some ⟨p,0,none⟩),.agg cs.toArray] K E ⟨F,M,N⟩:=by
 refine za4 za8 Tryz.func93 (by kernel_rfl) (t93 _ E _ _) (λhw=>?_);have hm:za5 M N:=hw.m;have hone:=hr.one;refine zap (cs:=cs) (λb1 hb1=>?_) rfl;obtain ⟨nv,fv,ep,sv,ev,e,hn,hf,he,_⟩:=hr;have hb:=za0 M b1 (some (.cells 77 cs cs.length));have P1:=P.box hm hb1 (some (.cells 77 cs cs.length));have hm1:=hm.new hb1 (some (.cells 77 cs cs.length));have hM1:∀ q,q<N -> upd M b1 (some (.cells 77 cs cs.length)) q=M q:=λq hq=>za3 _ _ (by omega);subst e;generalize upd M b1 _=M1 at *;obtain ⟨es,h2,h3⟩:=P1.mm;have hpn:=P1.pg;have hmbN:=(P.lt hm mb (.inr (.inl rfl))).2;try simp only [sS]
 refine ldM (v:=.map (some mb)) ?_ P1.pp;refine ldM (v:=.int .u32 r.id) ?_ hb;refine zr6 (id:=r.id) h2 h3 (λv hv=>?_);obtain ⟨nv',fv',rfl,_⟩:=hv;refine zaa (v:=.agg #[.int .u8 (zal bs r.id).st,.int .u32 (zal bs r.id).tm]) (by kernel_rfl) ?_;refine zaa (v:=.int .u8 (zal bs r.id).st) (by kernel_rfl) ?_;refine zbw (λhg=>?_) (λhg=>?_)
 ·try simp only [sS]
  refine λhc=>⟨_,za1 hc,λhw'=>?_⟩;have := k M1 (b1+1) (by unfold abS; rw [if_pos hg]; exact P1) (λq _ hq=>hM1 q hq) (by omega) hm1 hw';unfold abE at this; rw [if_pos hg] at this; exact this
 ·try simp only [sS]
  refine ldM (v:=.map (some mb)) ?_ P1.pp;refine ldM (v:=.int .u32 r.id) ?_ hb;refine zaa (v:=.agg #[.int .u8 3,.int .u32 0]) (by kernel_rfl) ?_;refine zaa (v:=.agg #[.int .u8 3,.int .u32 0,.slice none 0 0,.slice none 0 0]) (by kernel_rfl) ?_;refine yfh (b:=⟨3,0,[],[]⟩) h2 h3 ⟨_,_,rfl,sF.nil _ _ _,zbo.nil⟩ h0 h1 (λes' hes'=>?_);refine λhc=>⟨_,za1 hc,λhw'=>?_⟩;have := k _ (b1+1) (by unfold abS; rw [if_neg hg]; exact ⟨(za3 _ _ hpn.2.1).trans P1.pp,P.pB,P.mB,⟨es',za0 _ _ _,hes'⟩,P1.cc.keep (za7.refl _) (λq hq=>za3 _ _ (λe=>by subst e; rcases hq with hq | hq; exact hpn.2.2.1 hq; exact hpn.2.2.2.2 hq))⟩) (λq hq hqN=>(za3 _ _ hq).trans (hM1 q hqN)) (by omega) (hm1.set (by omega) _) hw';unfold abE at this; rw [if_neg hg] at this; exact this
end
theorem ygx (x:Int) (n:Nat):zam x (n+1)=zja x n::zam x n:=by
 unfold zam zgb;rw [List.range_succ_eq_map,List.map_cons,List.map_map]
 congr 1
 refine List.map_congr_left λj hj=>?_;simp only [Function.comp]
 congr 1; simp at hj; omega
theorem ysd (k:Nat):(2:Int) ^ (8*k)=((256 ^ k:Nat):Int):=by
 rw [Int.pow_mul,Int.natCast_pow]; rfl
theorem ydx (m:Nat) {k:Nat} (hk:k≤7):zja (m:Nat) k=((m/256 ^ k%256:Nat):Int):=by
 unfold zja;rw [Nat.min_eq_left (by omega),ysd,Int.fdiv_eq_ediv_of_nonneg _ (Int.natCast_nonneg _),← Int.natCast_ediv,IntKind.wrap_u8]
 rfl
def rdV (l:List Int) (a:Int):Int:=l.foldl (λn c=>n*256+c) a
theorem zwk (m:Nat):∀ {n:Nat} (_:n≤8) (a:Int),rdV (zam (m:Nat) n) a=a*((256 ^ n:Nat):Int)+((m%256 ^ n:Nat):Int)
 | 0,_,a=>by simp [rdV,zam,zgb,Nat.mod_one]
 | n+1,hn,a=>by
  rw [ygx,rdV,List.foldl_cons];have := zwk m (n:=n) (by omega) (a*256+zja m n);rw [rdV] at this;rw [this,ydx m (by omega),Nat.pow_succ,Nat.mod_mul];generalize 256 ^ n=P;generalize m/P%256=q;generalize m%P=r;rw [Int.add_mul,Int.natCast_add,Int.natCast_mul,Int.natCast_mul,Int.mul_comm (P:Int) ((256:Nat):Int),Int.mul_assoc,Int.mul_comm (P:Int) (q:Int)];have:((256:Nat):Int)=256:=rfl;rw [this]; omega
def rd (size:Nat) (l:List Int):Option (Int×List Int):=if l.length<size then none else some (rdV (l.take size) 0,l.drop size)
theorem zhr {x:Int} {n:Nat} (hn:n≤8) (h0:0≤x) (h1:x<((256 ^ n:Nat):Int)) (r:List Int):rd n (zam x n++r)=some (x,r):=by
 obtain ⟨m,rfl⟩:∃ m:Nat,x=(m:Nat):=⟨x.toNat,by omega⟩;have hl:=za9 (m:Nat) n;unfold rd;rw [if_neg (by rw [List.length_append]; omega),List.take_left' hl,List.drop_left' hl,zwk m hn,Nat.mod_eq_of_lt (by omega)]
 simp
def rdM (size least:Nat) (l:List Int):Option (Nat×List Int):=match rd size l with
 | none=>none
 | some (n,r)=>if n>((r.length/least:Nat):Int) then none else some (n.toNat,r)
def rdL {α:Type} (f:List Int -> Option (α×List Int)):Nat -> List Int -> Option (List α×List Int)
 | 0,l=>some ([],l)
 | n+1,l=>match f l with
  | none=>none
  | some (x,r)=>match rdL f n r with
   | none=>none
   | some (xs,r)=>some (x::xs,r)
theorem zn7 {α:Type} {f:List Int -> Option (α×List Int)} {enc:α -> List Int}:∀ (xs:List α) (r:List Int),(∀ x∈xs,∀ r,f (enc x++r)=some (x,r)) -> rdL f xs.length (xs.flatMap enc++r)=some (xs,r)
 | [],r,_=>rfl
 | x::xs,r,h=>by
  rw [List.flatMap_cons,List.append_assoc,List.length_cons,rdL,h x (by simp)];simp only;rw [zn7 xs r (λy hy=>h y (by simp [hy]))]
theorem zgk {x:Int} (h0:0≤x) (h1:x<18446744073709551616):zb0 x=x:=by unfold zb0; rw [IntKind.wrap_u64]; omega
theorem zr3 {n size least:Nat} (hs:size≤8) (hn:n<256 ^ size) (hn':n<18446744073709551616) {r:List Int} (hl:n*least≤r.length) (h0:0<least):rdM size least (zam (zb0 (n:Nat)) size++r)=some (n,r):=by
 unfold rdM;rw [zgk (by omega) (by omega),zhr hs (by omega) (by omega)];have := (Nat.le_div_iff_mul_le h0).2 hl;simp only;rw [if_neg (by omega)]; simp
def zin (l:List Int):Option (List Int×List Int):=match rdM 1 4 l with
 | none=>none
 | some (n,r)=>rdL (rd 4) n r
def zgd (x:Int):Int:=IntKind.i64.wrap x
def rdF (l:List Int):Option (Fc×List Int):=match zin l with
 | none=>none
 | some (k,r)=>match rd 8 r with
  | none=>none
  | some (v,r)=>some ((k,zgd v),r)
def zfb (l:List Int):Option (List Fc×List Int):=match rdM 4 9 l with
 | none=>none
 | some (n,r)=>rdL rdF n r
def rdE (l:List Int):Option (En×List Int):=match rd 4 l with
 | none=>none
 | some (t,r)=>match zfb r with
  | none=>none
  | some (fs,r)=>some ((t,fs),r)
def zgz (l:List Int):Option (List En×List Int):=match rdM 4 8 l with
 | none=>none
 | some (n,r)=>rdL rdE n r
def rdN (l:List Int):Option (List Int×List Int):=match rdM 1 1 l with
 | none=>none
 | some (n,r)=>rdL (rd 1) n r
def zco (l:List Int):List Int:=zam (zb0 (l.length:Nat)) 1++l.flatMap λx=>zam (zb0 x) 1
def zek:Int -> List Int -> Bool
 | _,[]=>true
 | p,x::xs=>decide (p<x∧x<6)&&zek x xs
def zh6 (f:Fc):Bool:=decide (f.1.length≤4)&&f.1.all λx=>decide (0≤x∧x≤9999)
def zen (l:List Fc):Bool:=decide (l.length≤200)&&l.all zh6
def zfp:Int -> List En -> Bool
 | _,[]=>true
 | p,e::es=>zen e.2&&decide (p<e.1)&&zfp e.1 es
def zg7 (l:List En):Bool:=decide (l.length≤5000)&&zfp (-1) l
def zet (x:Int):Prop:=-9223372036854775808≤x∧x≤9223372036854775807
theorem yll {x:Int} (h:zet x):zgd (zb0 x)=x:=by
 unfold zgd zb0 zet at *;rw [IntKind.wrap_u64,IntKind.wrap_i64]; omega
theorem yq1 (x:Int):0≤zb0 x∧zb0 x<18446744073709551616:=by unfold zb0; rw [IntKind.wrap_u64]; omega
theorem zgt {α:Type} (f:α -> List Int) (n:Nat):∀ l:List α,(∀ x∈l,n≤(f x).length) -> l.length*n≤(l.flatMap f).length
 | [],_=>by simp
 | x::l,h=>by
  have := zgt f n l λy hy=>h y (by simp [hy]);have := h x (by simp);rw [List.flatMap_cons,List.length_append,List.length_cons,Nat.succ_mul]; omega
theorem zpg (l:List Int):(zfx l).length=l.length*4:=by
 induction l with
 | nil=>rfl
 | cons x l ih=>
  unfold zfx at ih ⊢;rw [List.flatMap_cons,List.length_append,ih,za9,List.length_cons]; omega
theorem ziy (f:Fc):(zdk f).length=9+f.1.length*4:=by unfold zdk; rw [List.length_append,List.length_append,za9,za9,zpg]; omega
theorem yn3 {f:Fc} (h:zh6 f=true) (hv:zet f.2) (r:List Int):rdF (zdk f++r)=some (f,r):=by
 obtain ⟨k,v⟩:=f;simp only [zh6,Bool.and_eq_true,decide_eq_true_eq,List.all_eq_true] at h;unfold rdF zin zdk;rw [List.append_assoc,zr3 (by omega) (by simp; omega) (by simp; omega) (by simp [zpg]) (by omega)];simp only
 rw [List.append_assoc,zfx,zn7 k _ (λx hx r=>by
  have := h.2 x hx;rw [zgk (by omega) (by omega)];exact zhr (by omega) (by omega) (by simp; omega) r)]
 simp only;have := yq1 v;rw [zhr (by omega) this.1 (by simpa using this.2)];simp only;rw [yll hv]
theorem zzc {l:List Fc} (h:zen l=true) (hv:∀ f∈l,zet f.2) (r:List Int):zfb (zc8 l++r)=some (l,r):=by
 simp only [zen,Bool.and_eq_true,decide_eq_true_eq,List.all_eq_true] at h;unfold zfb zc8;have := zgt zdk 9 l λf _=>by rw [ziy]; omega
 rw [List.append_assoc,zr3 (by omega) (by simp; omega) (by omega) (by simp only [List.length_append]; omega) (by omega)];exact zn7 l r λf hf r=>yn3 (h.2 f hf) (hv f hf) r
theorem zyd (l:List Fc):4≤(zc8 l).length:=by unfold zc8; rw [List.length_append,za9]; omega
theorem ynv {e:En} (h0:0≤e.1) (h1:e.1<4294967296) (h:zen e.2=true) (hv:∀ f∈e.2,zet f.2) (r:List Int):rdE (zdq e++r)=some (e,r):=by
 unfold rdE zdq;rw [List.append_assoc,zgk h0 (by omega),zhr (by omega) h0 (by simpa using h1)];simp only;rw [zzc h hv]
theorem ybn:∀ {l:List En} {p:Int},zfp p l=true -> ∀ e∈l,zen e.2=true
 | [],_,_,e,he=>by cases he
 | a::l,p,h,e,he=>by
  simp only [zfp,Bool.and_eq_true] at h
  rcases List.mem_cons.1 he with rfl | he
  ·exact h.1.1
  ·exact ybn h.2 e he
theorem yjs {l:List En} (h:zg7 l=true) (hk:∀ e∈l,0≤e.1∧e.1<4294967296∧∀ f∈e.2,zet f.2) (r:List Int):zgz (zc9 l++r)=some (l,r):=by
 simp only [zg7,Bool.and_eq_true,decide_eq_true_eq] at h;unfold zgz zc9;have := zgt zdq 8 l λe _=>by unfold zdq; rw [List.length_append,za9]; have := zyd e.2; omega
 rw [List.append_assoc,zr3 (by omega) (by simp; omega) (by omega) (by simp only [List.length_append]; omega) (by omega)];exact zn7 l r λe he r=>ynv (hk e he).1 (hk e he).2.1 (ybn h.2 e he) (hk e he).2.2 r
theorem ybx:∀ {l:List Int} {p:Int},zek p l=true -> ∀ x∈l,p<x∧x<6
 | [],_,_,x,hx=>by cases hx
 | a::l,p,h,x,hx=>by
  simp only [zek,Bool.and_eq_true,decide_eq_true_eq] at h
  rcases List.mem_cons.1 hx with rfl | hx
  ·exact h.1
  ·have := ybx h.2 x hx; omega
theorem yan:∀ {l:List Int} {p:Int},zek p l=true -> p<6 -> (l.length:Int)≤5 - p
 | [],p,_,hp=>by simp; omega
 | a::l,p,h,hp=>by
  simp only [zek,Bool.and_eq_true,decide_eq_true_eq] at h;have := yan h.2 h.1.2
  simp; omega
theorem yde {l:List Int} (h:zek (-1) l=true) (r:List Int):rdN (zco l++r)=some (l,r):=by
 have hl:=yan h (by omega);unfold rdN zco;have := zgt (λx=>zam (zb0 x) 1) 1 l λx _=>by rw [za9]; omega
 rw [List.append_assoc,zr3 (by omega) (by simp; omega) (by omega) (by simp only [List.length_append]; omega) (by omega)];refine zn7 l r λx hx r=>?_;have := ybx h x hx;rw [zgk (by omega) (by omega)];exact zhr (by omega) (by omega) (by simp; omega) r
def zah (r:zaj):List Int:=zam r.kind 1++(zam r.id 4 ++
 if r.kind=1 then zco r.ns++zc8 r.fs else if r.kind=2 then zam r.tm 4++zco r.ns else if r.kind=7 then zam (zb0 r.lo) 4++(zam (zb0 r.hi) 4++zc9 r.es) else [])
def zbn (r:zaj):Bool :=
 if r.kind=1 then decide (r.tm=0∧r.lo=0∧r.hi=0∧r.es=[])&&zek (-1) r.ns&&zen r.fs
 else if r.kind=2 then decide (r.lo=0∧r.hi=0∧r.es=[]∧r.fs=[])&&zek (-1) r.ns
 else if r.kind=3∨r.kind=4∨r.kind=5 then decide (r.tm=0∧r.lo=0∧r.hi=0∧r.es=[]∧r.fs=[]∧r.ns=[])
 else if r.kind=7 then decide (r.tm=0∧r.ns=[]∧r.fs=[]∧0≤r.lo∧r.lo≤10000∧0≤r.hi∧r.hi≤10000)&&zg7 r.es
 else false
structure zaj.typ (r:zaj):Prop where
 i0:0≤r.id∧r.id<4294967296
 t0:0≤r.tm∧r.tm<4294967296
 fv:∀ f∈r.fs,zet f.2
 ev:∀ e∈r.es,0≤e.1∧e.1<4294967296∧∀ f∈e.2,zet f.2
def rdR (l:List Int):Option (zaj×List Int):=match rd 1 l with
 | none=>none
 | some (kind,l)=>match rd 4 l with
  | none=>none
  | some (id,l)=>
   if kind=1 then match rdN l with
    | none=>none
    | some (ns,l)=>match zfb l with
     | none=>none
     | some (fs,l)=>some (⟨kind,id,0,ns,fs,0,0,[]⟩,l)
   else if kind=2 then match rd 4 l with
    | none=>none
    | some (tm,l)=>match rdN l with
     | none=>none
     | some (ns,l)=>some (⟨kind,id,tm,ns,[],0,0,[]⟩,l)
   else if kind=7 then match rd 4 l with
    | none=>none
    | some (lo,l)=>match rd 4 l with
     | none=>none
     | some (hi,l)=>match zgz l with
      | none=>none
      | some (es,l)=>some (⟨kind,id,0,[],[],lo,hi,es⟩,l)
   else some (⟨kind,id,0,[],[],0,0,[]⟩,l)
theorem zpf {r:zaj} (h:zbn r=true):1≤r.kind∧r.kind≤7∧r.kind≠6:=by
 unfold zbn at h
 repeat' (split at h)
 all_goals first | omega | cases h
theorem ydr {r:zaj} (h:zbn r=true) (t:r.typ) (q:List Int):rdR (zah r++q)=some (r,q):=by
 have hk:=zpf h;unfold rdR zah;rw [List.append_assoc,zhr (by omega) (by omega) (by simp; omega)];simp only;rw [List.append_assoc,zhr (by omega) t.i0.1 (by have := t.i0.2; simpa using this)];simp only;obtain ⟨kind,id,tm,ns,fs,lo,hi,es⟩:=r;obtain ⟨⟨i0,i1⟩,⟨t0,t1⟩,fv,ev⟩:=t;simp only at *;unfold zbn at h;simp only at h
 by_cases h1:kind=1
 ·subst h1;simp only [if_true,Bool.and_eq_true,decide_eq_true_eq] at h ⊢;obtain ⟨⟨⟨rfl,rfl,rfl,rfl⟩,hn⟩,hf⟩:=h;rw [List.append_assoc,yde hn];simp only;rw [zzc hf fv]
 ·rw [if_neg h1] at h;rw [if_neg h1,if_neg h1]
  by_cases h2:kind=2
  ·subst h2;simp only [if_true,Bool.and_eq_true,decide_eq_true_eq] at h ⊢;obtain ⟨⟨rfl,rfl,rfl,rfl⟩,hn⟩:=h;rw [List.append_assoc,zhr (by omega) t0 (by simpa using t1)];simp only;rw [yde hn]
  ·rw [if_neg h2] at h;rw [if_neg h2,if_neg h2]
   by_cases h7:kind=7
   ·subst h7;simp only [show ¬ ((7:Int)=3∨(7:Int)=4∨(7:Int)=5) by omega,if_false,if_true,Bool.and_eq_true,decide_eq_true_eq] at h ⊢;obtain ⟨⟨rfl,rfl,rfl,l0,l1,h0,h1'⟩,he⟩:=h;rw [zgk (by omega) (by omega),zgk (by omega) (by omega),List.append_assoc,zhr (by omega) (by omega) (by simp; omega)];simp only;rw [List.append_assoc,zhr (by omega) (by omega) (by simp; omega)];simp only;rw [yjs he ev]
   ·rw [if_neg h7,if_neg h7]
    by_cases h3:kind=3∨kind=4∨kind=5
    ·rw [if_pos h3] at h;simp only [decide_eq_true_eq] at h;obtain ⟨rfl,rfl,rfl,rfl,rfl,rfl⟩:=h
     simp
    ·rw [if_neg h3,if_neg h7] at h; cases h
section
variable {B p tot:Nat} {e:TypeId} {post:List Value} {v:Value} {bs:List Int}
theorem zbc.box (P:zbc M B p e post tot v bs) (hm:za5 M N) {b:Nat} (hb:N≤b) (x:Option zak):zbc (upd M b x) B p e post tot v bs:=by
 obtain ⟨lr,hp⟩:=P.pp;have := hm.lt hp;exact ⟨⟨lr,(za3 _ _ (by omega)).trans hp⟩,P.ow.keep (λq hq=>za3 _ _ (by have := P.ow.lt hm q hq; omega)) (Nat.le_refl _),P.ne,P.bl⟩
theorem zzu {nv:Value} {l:List Int} (P:zbc M B p e post tot v bs) (hm:za5 M N) (hB:B≤N) (hn:sF F 1 nv l.length (ic l)) (hl:bs.length+(zco l).length≤2097152) (k:zte F M N B p e post tot v bs (zco l) K) :
  cF 195 #[.pointer (some ⟨p,0,none⟩),nv] K E ⟨F,M,N⟩:=by
 refine za4 za8 Tryz.func195 (by kernel_rfl) (ywm _ E _ _) (λhw=>?_);have hfl:=zgt (λx=>zam (zb0 x) 1) 1 l λx _=>by rw [za9]; omega
 unfold zco at hl;rw [List.length_append,za9] at hl;refine zb7 hn ?_;refine zki (size:=1) P hm hB (by omega) (by omega) (λv1 M1 N1 P1 hfr1 hN1 hm1 hw1=>?_);refine zb7 hn ?_
 refine ybb (σ:=Nat×Value) (λs=>.int .i64 (s.1:Nat))
  (λs h'=>∃ M' N',h'=⟨F,M',N'⟩∧N≤N'∧za5 M' N'∧s.1≤l.length∧zbc M' B p e post tot s.2 (bs++zam (zb0 (l.length:Nat)) 1++(l.take s.1).flatMap λx=>zam (zb0 x) 1)∧bfr M M' N p v s.2) (λs=>l.length - s.1) (0,v1) rfl
  (λhw2=>⟨_,za1 hw2,M1,N1,rfl,hN1,hm1,Nat.zero_le _,by simpa using P1,hfr1⟩) (λkk s j h1 hI hw2 next=>?_)
 rw [zzz];obtain ⟨M2,N2,rfl,hN2,hm2,hi,P2,hfr⟩:=hI;refine zat (λhlt=>?_) (λhge=>?_)
 ·have i1:s.1<l.length:=by omega
  have et:=zel (λx=>zam (zb0 x) 1) l i1;have hle:=zjt (λx=>zam (zb0 x) 1) l (s.1+1);rw [et,List.length_append,za9] at hle;try simp only [sS]
  refine zfm hn i1 λp'=>?_;refine zki (size:=1) P2 hm2 (by omega) (by omega) (by rw [List.length_append,List.length_append,za9]; omega) (λv3 M3 N3 P3 hfr3 hN3 hm3 hw3=>?_);refine zas (by omega) ?_;refine next (s.1+1,v3) _ _ (by simp only; omega) (λhw5=>⟨_,za1 hw5,M3,N3,rfl,by omega,hm3,i1,?_,hfr.trans hfr3 hN2⟩);simp only;rw [et,← List.append_assoc];exact P3
 ·try simp only [sS]
  have es:s.1=l.length:=by omega
  rw [es,List.take_length,List.append_assoc] at P2;exact λhc=>⟨_,za1 hc,λhw'=>k s.2 M2 N2 P2 hfr hN2 hm2 hw'⟩
theorem yb5 {fv:Value} {l:List Fc} (P:zbc M B p e post tot v bs) (hm:za5 M N) (hB:B≤N) (hf:zbo F fv l) (hl:bs.length+(zc8 l).length≤2097152) (k:zte F M N B p e post tot v bs (zc8 l) K) :
  cF 196 #[.pointer (some ⟨p,0,none⟩),fv] K E ⟨F,M,N⟩:=by
 refine za4 za8 Tryz.func196 (by kernel_rfl) (ysk _ E _ _) (λhw=>?_);obtain ⟨rows,hf1,hf2⟩:=hf;have hfl:=zgt zdk 9 l λf _=>by rw [ziy]; omega
 unfold zc8 at hl;rw [List.length_append,za9] at hl;refine zb7 hf1 ?_;refine zki (size:=4) P hm hB (by omega) (by omega) (λv1 M1 N1 P1 hfr1 hN1 hm1 hw1=>?_);refine zb7 hf1 ?_
 refine ybf (σ:=Nat×Value) (λs=>.int .i64 (s.1:Nat))
  (λs h'=>∃ M' N',h'=⟨F,M',N'⟩∧N≤N'∧za5 M' N'∧s.1≤l.length∧zbc M' B p e post tot s.2 (bs++zam (zb0 (l.length:Nat)) 4++(l.take s.1).flatMap zdk)∧bfr M M' N p v s.2) (λs=>l.length - s.1) (0,v1) rfl
  (λhw2=>⟨_,za1 hw2,M1,N1,rfl,hN1,hm1,Nat.zero_le _,by simpa using P1,hfr1⟩) (λkk s j h1 hI hw2 next=>?_)
 rw [ya5];obtain ⟨M2,N2,rfl,hN2,hm2,hi,P2,hfr⟩:=hI;refine zat (λhlt=>?_) (λhge=>?_)
 ·have i1:s.1<l.length:=by omega
  have et:=zel zdk l i1;have hle:=zjt zdk l (s.1+1);rw [et,List.length_append,ziy] at hle;have hpl:(bs++zam (zb0 (l.length:Nat)) 4++(l.take s.1).flatMap zdk).length+(9+l[s.1].1.length*4)≤2097152:=by rw [List.length_append,List.length_append,za9]; omega
  generalize hpre:bs++zam (zb0 (l.length:Nat)) 4++(l.take s.1).flatMap zdk=pre at P2 hpl;try simp only [sS]
  refine zih hf1 hf2 (by decide) i1 λp' r _ hR _ _=>?_;obtain ⟨kv,rfl,hkv,hkl⟩:=hR;obtain ⟨ka,kc,rfl,_⟩:=hkv.form;refine zap (cs:=[.slice none 0 0,.int .i64 0]) (λb1 hb1=>?_);refine stM (cs':=[.slice ka l[s.1].1.length kc,.int .i64 l[s.1].2]) ?_ (za0 _ _ _) rfl rfl (List.all_eq_true.1 rfl);rw [zan];have P3:=P2.box hm2 hb1 (some (.cells 110 [.slice ka l[s.1].1.length kc,.int .i64 l[s.1].2] 2));have hb:=za0 M2 b1 (some (.cells 110 [.slice ka l[s.1].1.length kc,.int .i64 l[s.1].2] 2));have hm3:=hm2.new hb1 (some (.cells 110 [.slice ka l[s.1].1.length kc,.int .i64 l[s.1].2] 2));have hM3:∀ q,q<N2 -> upd M2 b1 (some (.cells 110 [.slice ka l[s.1].1.length kc,.int .i64 l[s.1].2] 2)) q=M2 q:=λq hq=>za3 _ _ (by omega);generalize upd M2 b1 _=M3 at *;try simp only [sS]
  refine ldM (v:=.slice ka l[s.1].1.length kc) ?_ hb;refine zb7 hkv ?_;refine zki (size:=1) P3 hm3 (by omega) (by omega) (by omega) (λv4 M4 N4 P4 hfr4 hN4 hm4 hw4=>?_)
  have hvb:b1≠p∧s.2.ownBlock≠some b1:=by
   obtain ⟨lr,hp⟩:=P2.pp;exact ⟨by have := hm2.lt hp; omega,λh=>by have := P2.ow.lt hm2 _ h; omega⟩
  try simp only [sS]
  refine ldM (v:=.slice ka l[s.1].1.length kc) ?_ ((hfr4 b1 hvb.1 hvb.2 (by omega)).1.trans hb);refine zb7 hkv ?_
  refine zir (σ:=Nat×Value) (λt=>.int .i64 (t.1:Nat))
   (λt h'=>∃ M' N',h'=⟨F,M',N'⟩∧b1<N'∧za5 M' N'∧t.1≤l[s.1].1.length∧zbc M' B p e post tot t.2 (pre++zam (zb0 (l[s.1].1.length:Nat)) 1++zfx (l[s.1].1.take t.1))∧bfr M3 M' (b1+1) p s.2 t.2) (λt=>l[s.1].1.length - t.1) (0,v4) rfl
   (λhw5=>⟨_,za1 hw5,M4,N4,rfl,by omega,hm4,Nat.zero_le _,by simpa [zfx] using P4,hfr4⟩) (λkk2 t j2 h2 hI2 hw5 next2=>?_)
  rw [ziq];obtain ⟨M5,N5,rfl,hN5,hm5,hi5,P5,hfr5⟩:=hI2;refine zat (λhlt2=>?_) (λhge2=>?_)
  ·have k1:t.1<l[s.1].1.length:=by omega
   try simp only [sS]
   refine zfm hkv k1 λp'=>?_;refine zki (size:=4) P5 hm5 (by omega) (by omega) (by rw [List.length_append,List.length_append,za9,zm3,List.length_take]; omega) (λv6 M6 N6 P6 hfr6 hN6 hm6 hw6=>?_);refine zas (by omega) ?_;have ek:zfx (l[s.1].1.take (t.1+1))=zfx (l[s.1].1.take t.1)++zam (zb0 l[s.1].1[t.1]) 4:=zel _ _ k1;refine next2 (t.1+1,v6) _ _ (by simp only; omega) (λhw7=>⟨_,za1 hw7,M6,N6,rfl,by omega,hm6,k1,?_,hfr5.trans hfr6 (by omega)⟩);simp only;rw [ek,← List.append_assoc];exact P6
  ·try simp only [sS]
   have es:t.1=l[s.1].1.length:=by omega
   rw [es,List.take_length] at P5;try simp only [sS]
   refine ldM (v:=.int .i64 l[s.1].2) ?_ ((hfr5 b1 hvb.1 hvb.2 (by omega)).1.trans hb);refine yn8 (size:=8) P5 hm5 (by omega) (by omega) (by rw [List.length_append,List.length_append,za9,zm3]; omega) (λv6 M6 N6 P6 hfr6 hN6 hm6 hw6=>?_);refine zas (by omega) ?_;refine next (s.1+1,v6) _ _ (by simp only; omega) (λhw7=>⟨_,za1 hw7,M6,N6,rfl,by omega,hm6,i1,?_,?_⟩)
   ·simp only;rw [et,← List.append_assoc,hpre];have:zdk l[s.1]=zam (zb0 (l[s.1].1.length:Nat)) 1++(zfx l[s.1].1++zam (zb0 l[s.1].2) 8):=rfl;rw [this,← List.append_assoc,← List.append_assoc];exact P6
   ·exact hfr.trans (λq q1 q2 q3=>by
     have h1:=hfr5 q q1 q2 (by omega);have h2:=hfr6 q q1 h1.2 (by omega);exact ⟨(h2.1.trans h1.1).trans (hM3 q q3),h2.2⟩) hN2
 ·try simp only [sS]
  have es:s.1=l.length:=by omega
  rw [es,List.take_length,List.append_assoc] at P2;exact λhc=>⟨_,za1 hc,λhw'=>k s.2 M2 N2 P2 hfr hN2 hm2 hw'⟩
end
theorem ylz {b:Bool} (h:true = !b):b=false:=by cases b<;>simp_all
theorem ym9 {b:Bool} (h:false = !b):b=true:=by cases b<;>simp_all
def okm (x:Int):Bool:=decide (0≤x∧x≤9999)
theorem ymn {x:Int} (k:K (.bool (!okm x)) ⟨F,M,N⟩):cF 320 #[.int .i64 x] K E ⟨F,M,N⟩:=by
 refine za4 za8 Tryz.func320 (by kernel_rfl) (yx4 _ E _) (λhw=>?_);unfold okm at k;refine zat (λh=>?_) (λh=>?_)
 ·try simp only [sS]
  rw [decide_eq_false (by omega)] at k;exact λhc=>⟨_,za1 hc,λ_=>k⟩
 ·try simp only [sS]
  refine zbw (λh2=>?_) (λh2=>?_)
  ·try simp only [sS]
   rw [decide_eq_false (by omega)] at k;exact λhc=>⟨_,za1 hc,λ_=>k⟩
  ·try simp only [sS]
   rw [decide_eq_true (by omega)] at k;exact λhc=>⟨_,za1 hc,λ_=>k⟩
theorem ypp {v:Value} {l:List Int} (hv:sF F 1 v l.length (ic l)) (hl:l.length≤140737488351232) (k:∀ r:Int,(decide (r≥0) = !l.all okm) -> K (.int .i64 r) ⟨F,M,N⟩) :
  cF 322 #[v,.func (.func 320) #[] #[]] K E ⟨F,M,N⟩:=by
 refine za4 za8 Tryz.func322 (by kernel_rfl) (ytn _ E _ _) (λhw=>?_);refine zb7 hv ?_
 refine zxk (σ:=Nat) (λi=>.int .i64 (i:Nat)) (λi h=>h=⟨F,M,N⟩∧i≤l.length∧l.all okm=(l.drop i).all okm) (λi=>l.length - i) 0 rfl
  (λhw1=>⟨_,za1 hw1,rfl,Nat.zero_le _,rfl⟩) (λk1 i j h1 hI hw1 next=>?_)
 rw [zxe];obtain ⟨rfl,hi,he⟩:=hI;refine zat (λhlt=>?_) (λhge=>?_)
 ·have h1:i<l.length:=by omega
  try simp only [sS]
  refine zfm hv h1 λp=>ymn ?_;rw [List.drop_eq_getElem_cons h1,List.all_cons] at he;cases hn:okm l[i]
  ·try simp only [sS]
   refine λhc=>⟨_,za1 hc,λ_=>k _ ?_⟩;rw [he,hn,decide_eq_true (by omega)]; rfl
  ·try simp only [sS]
   refine zas (by omega) ?_;refine next (i+1) _ _ (by omega) (λhw2=>⟨_,za1 hw2,rfl,by omega,?_⟩);rw [he,hn,Bool.true_and]
 ·try simp only [sS]
  refine λhc=>⟨_,za1 hc,λ_=>k _ ?_⟩;rw [he,List.drop_eq_nil_of_le (by omega)]; rfl
theorem yjl {cs:List Value} {f:Fc} (hf:zcl F cs f) (k:∀ N',N≤N' -> (Hp.mk F M N').wf -> K (.bool (zh6 f)) ⟨F,M,N'⟩) :
  cF 301 #[.agg cs.toArray] K E ⟨F,M,N⟩:=by
 refine za4 za8 Tryz.func301 (by kernel_rfl) (yx3 _ E _) (λhw=>?_);have hm:za5 M N:=hw.m;obtain ⟨kv,rfl,hkv,hkl⟩:=hf;have he:zh6 f=(decide (f.1.length≤4)&&f.1.all okm):=rfl;rw [he] at k;refine zap (cs:=[kv,.int .i64 f.2]) (λb hb=>?_)
 have fin:∀ v',v'=(decide (f.1.length≤4)&&f.1.all okm) -> ∀ h',h'=(⟨F,upd M b (some (.cells 110 [kv,.int .i64 f.2] 2)),b+1⟩:Hp) -> h'.wf -> ∃ h'',h'.wk h''∧(h''.wf -> K (.bool v') h''):=λv' e h' e' hc=>by
  subst e; subst e';exact ⟨⟨F,M,b+1⟩,zbl hc (zb5 (zbb _) (hm _ hb)),λhw'=>k _ (by omega) hw'⟩
 try simp only [sS]
 refine ldM (v:=kv) ?_ (za0 _ _ _);refine zb7 hkv ?_;refine zds (λh=>?_) (λh=>?_)
 ·try simp only [sS]
  refine ldM (v:=kv) ?_ (za0 _ _ _);refine za4 za8 Tryz.func310 (by kernel_rfl) (yvz _ E _ _) (λhw=>?_);refine ypp hkv hkl (λr hr=>?_);refine zg8 (λh2=>?_) (λh2=>?_)
  ·rw [decide_eq_true h2] at hr;refine λhc=>⟨_,za1 hc,λhw'=>?_⟩;try simp only [sS]
   exact fin _ (by rw [ylz hr,Bool.and_false]) _ rfl
  ·rw [decide_eq_false h2] at hr;refine λhc=>⟨_,za1 hc,λhw'=>?_⟩;try simp only [sS]
   exact fin _ (by rw [decide_eq_true (by omega),ym9 hr]; rfl) _ rfl
 ·try simp only [sS]
  exact fin _ (by rw [decide_eq_false (by omega)]; rfl) _ rfl
theorem ykr {cs:List Value} {f:Fc} (hf:zcl F cs f) (k:∀ N',N≤N' -> (Hp.mk F M N').wf -> K (.bool (!zh6 f)) ⟨F,M,N'⟩) :
  cF 300 #[.agg cs.toArray] K E ⟨F,M,N⟩:=by
 refine za4 za8 Tryz.func300 (by kernel_rfl) (yx2 _ E _) (λhw=>?_);have hm:za5 M N:=hw.m;obtain ⟨kv,rfl,hkv,hkl⟩:=hf;refine zap (cs:=[kv,.int .i64 f.2]) (λb hb=>?_);refine zb6 (vs:=[kv,.int .i64 f.2]) ?_ (za0 _ _ _);refine yjl ⟨kv,rfl,hkv,hkl⟩ (λN' hN hw'=>?_);try simp only [sS]
 exact λhc=>⟨⟨F,M,N'⟩,zbl hc (zb5 (zbb _) (hm _ hb)),λhw'=>k _ (by omega) hw'⟩
theorem ype {v:Value} {l:List Fc} (hv:zbo F v l) (hl:l.length≤140737488351232) (k:∀ r:Int,∀ N',N≤N' -> (Hp.mk F M N').wf -> (decide (r≥0) = !l.all zh6) -> K (.int .i64 r) ⟨F,M,N'⟩) :
  cF 152 #[v,.func (.func 300) #[] #[]] K E ⟨F,M,N⟩:=by
 refine za4 za8 Tryz.func152 (by kernel_rfl) (yj4 _ E _ _) (λhw=>?_);obtain ⟨rows,hf1,hf2⟩:=hv;refine zb7 hf1 ?_
 refine zjx (σ:=Nat) (λi=>.int .i64 (i:Nat)) (λi h=>∃ N',h=⟨F,M,N'⟩∧N≤N'∧i≤l.length∧l.all zh6=(l.drop i).all zh6) (λi=>l.length - i) 0 rfl
  (λhw1=>⟨_,za1 hw1,N,rfl,Nat.le_refl _,Nat.zero_le _,rfl⟩) (λk1 i j h1 hI hw1 next=>?_)
 rw [zjw];obtain ⟨N1,rfl,hN1,hi,he⟩:=hI;refine zat (λhlt=>?_) (λhge=>?_)
 ·have i1:i<l.length:=by omega
  try simp only [sS]
  refine zih hf1 hf2 (by decide) i1 λp r _ hR _ _=>ykr hR (λN2 hN2 hw2=>?_);rw [List.drop_eq_getElem_cons i1,List.all_cons] at he;cases hn:zh6 l[i]
  ·try simp only [sS]
   refine λhc=>⟨_,za1 hc,λhw'=>k _ _ (by omega) hw' ?_⟩;rw [he,hn,decide_eq_true (by omega)]; rfl
  ·try simp only [sS]
   refine zas (by omega) ?_;refine next (i+1) _ _ (by omega) (λhw3=>⟨_,za1 hw3,N2,rfl,by omega,by omega,?_⟩);rw [he,hn,Bool.true_and]
 ·try simp only [sS]
  refine λhc=>⟨_,za1 hc,λhw'=>k _ _ hN1 hw' ?_⟩;rw [he,List.drop_eq_nil_of_le (by omega)]; rfl
theorem ydm {v:Value} {l:List Fc} (hv:zbo F v l) (hl:l.length≤140737488351232) (k:∀ N',N≤N' -> (Hp.mk F M N').wf -> K (.bool (zen l)) ⟨F,M,N'⟩) :
  cF 256 #[v] K E ⟨F,M,N⟩:=by
 refine za4 za8 Tryz.func256 (by kernel_rfl) (yss _ E _) (λhw=>?_);unfold zen at k;have hlv:zab v=some (.int .i64 (l.length:Nat)):=by obtain ⟨a,c,h⟩:=hv.form; rw [h]; rfl
 refine zaa hlv ?_;refine zds (λh=>?_) (λh=>?_)
 ·rw [decide_eq_true (by omega),Bool.true_and] at k;try simp only [sS]
  refine za4 za8 Tryz.func142 (by kernel_rfl) (yq9 _ E _ _) (λhw=>?_);refine ype hv hl (λr N2 hN2 hw2 hr=>?_);refine zg8 (λh2=>?_) (λh2=>?_)
  ·rw [decide_eq_true h2] at hr;have ha:=ylz hr;rw [ha] at k;refine λhc=>⟨_,za1 hc,λhw'=>?_⟩;try simp only [sS]
   exact λhc=>⟨_,za1 hc,λhw'=>k _ (by omega) hw'⟩
  ·rw [decide_eq_false h2] at hr;have ha:=ym9 hr;rw [ha] at k;refine λhc=>⟨_,za1 hc,λhw'=>?_⟩;try simp only [sS]
   exact λhc=>⟨_,za1 hc,λhw'=>k _ (by omega) hw'⟩
 ·rw [decide_eq_false (by omega),Bool.false_and] at k;try simp only [sS]
  exact λhc=>⟨_,za1 hc,λhw'=>k _ (Nat.le_refl _) hw'⟩
theorem ycu {v:Value} {l:List Int} (hv:sF F 1 v l.length (ic l)) (hl:l.length≤140737488351232) (k:(Hp.mk F M N).wf -> K (.bool (zek (-1) l)) ⟨F,M,N⟩) :
  cF 255 #[v] K E ⟨F,M,N⟩:=by
 refine za4 za8 Tryz.func255 (by kernel_rfl) (ytu _ E _) (λhw=>?_);refine zb7 hv ?_
 refine zsc (σ:=Nat×Int) (λs=>.int .i64 s.2) (λs=>.int .i64 (s.1:Nat)) (λs h=>h=⟨F,M,N⟩∧s.1≤l.length∧zek (-1) l=zek s.2 (l.drop s.1)) (λs=>l.length - s.1) (0,-1) rfl rfl
  (λhw1=>⟨_,za1 hw1,rfl,Nat.zero_le _,rfl⟩) (λk1 s j h1 hI hw1 next=>?_)
 rw [zsr];obtain ⟨rfl,hi,he⟩:=hI;refine zat (λhlt=>?_) (λhge=>?_)
 ·have i1:s.1<l.length:=by omega
  try simp only [sS]
  refine zfm hv i1 λp=>?_;rw [List.drop_eq_getElem_cons i1,zek] at he;refine zds (λh=>?_) (λh=>?_)
  ·try simp only [sS]
   rw [decide_eq_false (by omega),Bool.false_and] at he;rw [he] at k;exact λhc=>⟨_,za1 hc,k⟩
  ·try simp only [sS]
   refine zg8 (λh2=>?_) (λh2=>?_)
   ·try simp only [sS]
    rw [decide_eq_false (by omega),Bool.false_and] at he;rw [he] at k;exact λhc=>⟨_,za1 hc,k⟩
   ·try simp only [sS]
    rw [decide_eq_true (by omega),Bool.true_and] at he;refine zas (by omega) ?_;exact next (s.1+1,l[s.1]) _ _ (by simp only; omega) (λhw3=>⟨_,za1 hw3,rfl,i1,he⟩)
 ·try simp only [sS]
  try rw [t255_1_1_1]
  rw [List.drop_eq_nil_of_le (by omega)] at he;rw [he] at k;exact λhc=>⟨_,za1 hc,k⟩
section
variable {B p tot:Nat} {e:TypeId} {post:List Value} {v:Value} {bs:List Int}
theorem ymq {ev:Value} {l:List En} (P:zbc M B p e post tot v bs) (hm:za5 M N) (hB:B≤N) (hf:zc6 F ev l) (hl:bs.length+(zc9 l).length≤2097152) (k:zte F M N B p e post tot v bs (zc9 l) K) :
  cF 198 #[.pointer (some ⟨p,0,none⟩),ev] K E ⟨F,M,N⟩:=by
 refine za4 za8 Tryz.func198 (by kernel_rfl) (yu0 _ E _ _) (λhw=>?_);obtain ⟨rows,hf1,hf2⟩:=hf;have hfl:=zgt zdq 8 l λf _=>by unfold zdq; rw [List.length_append,za9]; have := zyd f.2; omega
 unfold zc9 at hl;rw [List.length_append,za9] at hl;refine zb7 hf1 ?_;refine zki (size:=4) P hm hB (by omega) (by omega) (λv1 M1 N1 P1 hfr1 hN1 hm1 hw1=>?_);refine zb7 hf1 ?_
 refine yai (σ:=Nat×Value) (λs=>.int .i64 (s.1:Nat))
  (λs h'=>∃ M' N',h'=⟨F,M',N'⟩∧N≤N'∧za5 M' N'∧s.1≤l.length∧zbc M' B p e post tot s.2 (bs++zam (zb0 (l.length:Nat)) 4++(l.take s.1).flatMap zdq)∧bfr M M' N p v s.2) (λs=>l.length - s.1) (0,v1) rfl
  (λhw2=>⟨_,za1 hw2,M1,N1,rfl,hN1,hm1,Nat.zero_le _,by simpa using P1,hfr1⟩) (λkk s j h1 hI hw2 next=>?_)
 rw [zzb];obtain ⟨M2,N2,rfl,hN2,hm2,hi,P2,hfr⟩:=hI;refine zat (λhlt=>?_) (λhge=>?_)
 ·have i1:s.1<l.length:=by omega
  have et:=zel zdq l i1;have hle:=zjt zdq l (s.1+1);rw [et,List.length_append] at hle;have eE:zdq l[s.1]=zam (zb0 l[s.1].1) 4++zc8 l[s.1].2:=rfl;rw [eE,List.length_append,za9] at hle;have hpl:(bs++zam (zb0 (l.length:Nat)) 4++(l.take s.1).flatMap zdq).length+(4+(zc8 l[s.1].2).length)≤2097152:=by rw [List.length_append,List.length_append,za9]; omega
  generalize hpre:bs++zam (zb0 (l.length:Nat)) 4++(l.take s.1).flatMap zdq=pre at P2 hpl;try simp only [sS]
  refine zih hf1 hf2 (by decide) i1 λp' r _ hR _ _=>?_;obtain ⟨fv,rfl,hfv,hkl⟩:=hR;obtain ⟨ka,kc,e1⟩:=hfv.form;refine zap (cs:=[.int .u32 0,.slice none 0 0]) (λb1 hb1=>?_);refine stM (cs':=[.int .u32 l[s.1].1,fv]) ?_ (za0 _ _ _) rfl rfl (by rw [e1]; exact List.all_eq_true.1 rfl);rw [zan];have P3:=P2.box hm2 hb1 (some (.cells 143 [.int .u32 l[s.1].1,fv] 2));have hb:=za0 M2 b1 (some (.cells 143 [.int .u32 l[s.1].1,fv] 2));have hm3:=hm2.new hb1 (some (.cells 143 [.int .u32 l[s.1].1,fv] 2));have hM3:∀ q,q<N2 -> upd M2 b1 (some (.cells 143 [.int .u32 l[s.1].1,fv] 2)) q=M2 q:=λq hq=>za3 _ _ (by omega);generalize upd M2 b1 _=M3 at *;try simp only [sS]
  refine ldM (v:=.int .u32 l[s.1].1) ?_ hb;refine zwt (size:=4) P3 hm3 (by omega) (by omega) (by omega) (λv4 M4 N4 P4 hfr4 hN4 hm4 hw4=>?_)
  have hvb:b1≠p∧s.2.ownBlock≠some b1:=by
   obtain ⟨lr,hp⟩:=P2.pp;exact ⟨by have := hm2.lt hp; omega,λh=>by have := P2.ow.lt hm2 _ h; omega⟩
  try simp only [sS]
  refine ldM (v:=fv) ?_ ((hfr4 b1 hvb.1 hvb.2 (by omega)).1.trans hb);refine yb5 P4 hm4 (by omega) hfv (by rw [List.length_append,za9]; omega) (λv6 M6 N6 P6 hfr6 hN6 hm6 hw6=>?_);refine zas (by omega) ?_;refine next (s.1+1,v6) _ _ (by simp only; omega) (λhw7=>⟨_,za1 hw7,M6,N6,rfl,by omega,hm6,i1,?_,?_⟩)
  ·simp only;rw [et,← List.append_assoc,hpre,eE,← List.append_assoc];exact P6
  ·exact hfr.trans (λq q1 q2 q3=>by
    have h1:=hfr4 q q1 q2 (by omega);have h2:=hfr6 q q1 h1.2 (by omega);exact ⟨(h2.1.trans h1.1).trans (hM3 q q3),h2.2⟩) hN2
 ·try simp only [sS]
  have es:s.1=l.length:=by omega
  rw [es,List.take_length,List.append_assoc] at P2;exact λhc=>⟨_,za1 hc,λhw'=>k s.2 M2 N2 P2 hfr hN2 hm2 hw'⟩
end
def prv (l:List En) (i:Nat):Int:=if i=0 then -1 else (l.getD (i - 1) (0,[])).1
theorem ybl {l:List En} {i:Nat} (h0:0<i) (hi:i - 1<l.length):prv l i=l[i - 1].1:=by
 unfold prv; rw [if_neg (by omega),List.getD_eq_getElem?_getD,List.getElem?_eq_getElem hi]; rfl
theorem yp5 {v:Value} {l:List En} (hv:zc6 F v l) (hl:l.length≤140737488351232) (ht:∀ x∈l,0≤x.1) (k:∀ M' N',N≤N' -> (∀ q,q<N -> M' q=M q) -> za5 M' N' -> (Hp.mk F M' N').wf -> K (.bool (zg7 l)) ⟨F,M',N'⟩) :
  cF 260 #[v] K E ⟨F,M,N⟩:=by
 refine za4 za8 Tryz.func260 (by kernel_rfl) (ywt _ E _) (λhw=>?_);have hm:za5 M N:=hw.m;obtain ⟨rows,hf1,hf2⟩:=hv;unfold zg7 at k;refine zb7 hf1 ?_
 refine zvz (σ:=Nat) (λi=>.int .i64 (i:Nat)) (λi h=>∃ M' N',h=⟨F,M',N'⟩∧N≤N'∧(∀ q,q<N -> M' q=M q)∧za5 M' N'∧i≤l.length∧zfp (-1) l=zfp (prv l i) (l.drop i)) (λi=>l.length - i) 0 rfl
  (λhw1=>⟨_,za1 hw1,M,N,rfl,Nat.le_refl _,λ_ _=>rfl,hm,Nat.zero_le _,rfl⟩) (λk1 i j h1 hI hw1 next=>?_)
 rw [zww];obtain ⟨M1,N1,rfl,hN1,hM1,hm1,hi,he⟩:=hI;refine zat (λhlt=>?_) (λhge=>?_)
 ·have i1:i<l.length:=by omega
  try simp only [sS]
  refine zih hf1 hf2 (by decide) i1 λp' r _ hR _ _=>?_;obtain ⟨fv,rfl,hfv,hkl⟩:=hR;obtain ⟨ka,kc,e1⟩:=hfv.form;refine zap (cs:=[.int .u32 0,.slice none 0 0]) (λb1 hb1=>?_);refine stM (cs':=[.int .u32 l[i].1,fv]) ?_ (za0 _ _ _) rfl rfl (by rw [e1]; exact List.all_eq_true.1 rfl);rw [zan];have hb:=za0 M1 b1 (some (.cells 143 [.int .u32 l[i].1,fv] 2));have hm3:=hm1.new hb1 (some (.cells 143 [.int .u32 l[i].1,fv] 2));have hM3:∀ q,q<N -> upd M1 b1 (some (.cells 143 [.int .u32 l[i].1,fv] 2)) q=M q:=λq hq=>(za3 _ _ (by omega)).trans (hM1 q hq);generalize upd M1 b1 _=M3 at *;rw [List.drop_eq_getElem_cons i1,zfp] at he
  have no:∀ N',b1+1≤N' -> zfp (-1) l=false -> ∀ h':Hp,h'=⟨F,M3,N'⟩ -> h'.wf -> ∃ h'',h'.wk h''∧(h''.wf -> K (.bool false) h''):=λN' hN h0 h' e' hc=>by
   subst e';rw [h0,Bool.and_false] at k;exact ⟨_,za1 hc,λhw'=>k M3 N' (by omega) hM3 (hm3.up hN) hw'⟩
  try simp only [sS]
  refine ldM (v:=fv) ?_ hb;refine ydm hfv hkl (λN2 hN2 hw2=>?_);cases hbt:zen l[i].2
  ·try simp only [sS]
   exact no _ hN2 (by rw [he,hbt]; rfl) _ rfl
  ·try simp only [sS]
   rw [hbt,Bool.true_and] at he;refine zbw (λh2=>?_) (λh2=>?_)
   ·try simp only [sS]
    refine ldM (v:=.int .u32 l[i].1) ?_ hb;refine zcr (by omega) (by omega) ?_;rw [show ((i:Nat):Int) - 1=((i - 1:Nat):Int) by omega];refine zeb hf1 hf2 (by decide) (show i - 1<l.length by omega) (off:=0) (by decide) λp q r x hR _ hx=>?_;obtain ⟨gv,rfl,_⟩:=hR;have hx':x=.int .u32 l[i - 1].1:=by simpa using hx.symm
    subst hx';have hp:prv l i=l[i - 1].1:=ybl (by omega) (by omega);rw [hp] at he;refine zds (λh3=>?_) (λh3=>?_)
    ·try simp only [sS]
     exact no _ hN2 (by rw [he,decide_eq_false (by omega)]; rfl) _ rfl
    ·try simp only [sS]
     rw [decide_eq_true (by omega),Bool.true_and] at he;refine zas (by omega) ?_;refine next (i+1) _ _ (by omega) (λhw3=>⟨_,za1 hw3,M3,N2,rfl,by omega,hM3,hm3.up hN2,by omega,?_⟩);rw [he,ybl (by omega) (by simpa using i1)]; rfl
   ·try simp only [sS]
    have h0:i=0:=by omega
    have hp:prv l i = -1:=by unfold prv; rw [if_pos h0]
    have := ht l[i] (List.getElem_mem _);rw [hp,decide_eq_true (by omega),Bool.true_and] at he;refine zas (by omega) ?_;refine next (i+1) _ _ (by omega) (λhw3=>⟨_,za1 hw3,M3,N2,rfl,by omega,hM3,hm3.up hN2,by omega,?_⟩);rw [he,ybl (by omega) (by simpa using i1)]; rfl
 ·try simp only [sS]
  try rw [t260_1_1]
  rw [List.drop_eq_nil_of_le (by omega),zfp] at he;rw [he,Bool.and_true] at k;refine zb7 hf1 ?_;refine zds (λh3=>?_) (λh3=>?_)
  ·rw [decide_eq_true (by omega)] at k;exact λhc=>⟨_,za1 hc,λhw'=>k M1 N1 hN1 hM1 hm1 hw'⟩
  ·rw [decide_eq_false (by omega)] at k;exact λhc=>⟨_,za1 hc,λhw'=>k M1 N1 hN1 hM1 hm1 hw'⟩
theorem zmz (hm:za5 M N) (h:∀ q,q<N -> M' q=M q):zex M M':=λq c hq=>by
 rcases Nat.lt_or_ge q N with hl | hl
 ·rw [h q hl]; exact hq
 ·rw [hm q hl] at hq; cases hq
theorem ynl {t lo hi:Int} {na fa sa ea:Option Addr} {nn nc fn fc sc en ec:Nat}
  (k:∀ N',N≤N' -> (Hp.mk F M N').wf -> K (.bool (decide (t=0∧nn=0∧fn=0∧lo=0∧hi=0∧en=0))) ⟨F,M,N'⟩) :
  cF 261 #[.agg #[.int .u8 0,.int .u32 0,.int .u32 t,.slice na nn nc,.slice fa fn fc,.int .u32 0,.slice sa 0 sc,.int .i64 lo,.int .i64 hi,.slice ea en ec]] K E ⟨F,M,N⟩:=by
 refine za4 za8 Tryz.func261 (by kernel_rfl) (yvr _ E _) (λhw=>?_);have hm:za5 M N:=hw.m;refine zap (cs:=[.int .u8 0,.int .u32 0,.int .u32 t,.slice na nn nc,.slice fa fn fc,.int .u32 0,.slice sa 0 sc,.int .i64 lo,.int .i64 hi,.slice ea en ec]) (λb hb=>?_)
 have fin:∀ v',v'=decide (t=0∧nn=0∧fn=0∧lo=0∧hi=0∧en=0) -> ∀ h',h'=(⟨F,upd M b (some (.cells 77 [.int .u8 0,.int .u32 0,.int .u32 t,.slice na nn nc,.slice fa fn fc,.int .u32 0,.slice sa 0 sc,.int .i64 lo,.int .i64 hi,.slice ea en ec] 10)),b+1⟩:Hp) -> h'.wf -> ∃ h'',h'.wk h''∧(h''.wf -> K (.bool v') h''):=λv' e h' e' hc=>by
  subst e; subst e';exact ⟨⟨F,M,b+1⟩,zbl hc (zb5 (zbb _) (hm _ hb)),λhw'=>k _ (by omega) hw'⟩
 try simp only [sS]
 refine ldM (v:=.int .u8 0) ?_ (za0 _ _ _);refine zeg rfl ?_;try simp only [sS]
 refine ldM (v:=.int .u32 0) ?_ (za0 _ _ _);refine zeg rfl ?_;try simp only [sS]
 refine ldM (v:=.int .u32 t) ?_ (za0 _ _ _);refine zau (λh1=>?_) (λh1=>?_)
 rotate_left
 ·try simp only [sS]
  exact fin _ (decide_eq_false λh=>h1 h.1).symm _ rfl
 try simp only [sS]
 refine ldM (v:=.slice na nn nc) ?_ (za0 _ _ _);try simp only [sS]
 refine zau (λh2=>?_) (λh2=>?_)
 rotate_left
 ·try simp only [sS]
  exact fin _ (decide_eq_false λh=>h2 (by have := h.2.1; omega)).symm _ rfl
 try simp only [sS]
 refine ldM (v:=.slice fa fn fc) ?_ (za0 _ _ _);try simp only [sS]
 refine zau (λh3=>?_) (λh3=>?_)
 rotate_left
 ·try simp only [sS]
  exact fin _ (decide_eq_false λh=>h3 (by have := h.2.2.1; omega)).symm _ rfl
 try simp only [sS]
 refine ldM (v:=.int .u32 0) ?_ (za0 _ _ _);refine zeg rfl ?_;try simp only [sS]
 refine ldM (v:=.slice sa 0 sc) ?_ (za0 _ _ _);try simp only [sS]
 refine zeg rfl ?_;try simp only [sS]
 refine ldM (v:=.int .i64 lo) ?_ (za0 _ _ _);refine zau (λh4=>?_) (λh4=>?_)
 rotate_left
 ·try simp only [sS]
  exact fin _ (decide_eq_false λh=>h4 h.2.2.2.1).symm _ rfl
 try simp only [sS]
 refine ldM (v:=.int .i64 hi) ?_ (za0 _ _ _);refine zau (λh5=>?_) (λh5=>?_)
 rotate_left
 ·try simp only [sS]
  exact fin _ (decide_eq_false λh=>h5 h.2.2.2.2.1).symm _ rfl
 try simp only [sS]
 refine ldM (v:=.slice ea en ec) ?_ (za0 _ _ _);try simp only [sS]
 refine zau (λh6=>?_) (λh6=>?_)
 ·try simp only [sS]
  exact fin _ (decide_eq_true ⟨h1,by omega,by omega,h4,h5,by omega⟩).symm _ rfl
 ·try simp only [sS]
  exact fin _ (decide_eq_false λh=>h6 (by have := h.2.2.2.2.2; omega)).symm _ rfl
def zdr (F:Nat -> Option (List Value)) (cs:List Value) (r:zaj):Prop :=
 ∃ na nc fv sa sc ev,cs=[.int .u8 r.kind,.int .u32 r.id,.int .u32 r.tm,.slice na r.ns.length nc,fv,.int .u32 0,.slice sa 0 sc,.int .i64 r.lo,.int .i64 r.hi,ev]∧sF F 1 (.slice na r.ns.length nc) r.ns.length (ic r.ns)∧zbo F fv r.fs∧zc6 F ev r.es
theorem zdr.mono {cs:List Value} {r:zaj} (h:zdr F cs r) (hF:za7 F F'):zdr F' cs r:=let ⟨na,nc,fv,sa,sc,ev,h1,h2,h3,h4⟩:=h; ⟨na,nc,fv,sa,sc,ev,h1,h2.mono hF,h3.mono hF,h4.mono hF⟩
theorem zdr.rec {cs:List Value} {r:zaj} (h:zdr F cs r):zql F cs r:=let ⟨na,nc,fv,sa,sc,ev,h1,h2,h3,h4⟩:=h; ⟨_,fv,_,_,ev,h1,h2,h3,h4,rfl,rfl⟩
structure zaj.lens (r:zaj):Prop where
 nl:r.ns.length≤140737488351232
 fl:r.fs.length≤140737488351232
 el:r.es.length≤140737488351232
 et:∀ x∈r.es,0≤x.1
theorem zla {cs:List Value} {r:zaj} (hr:zdr F cs r) (hL:r.lens) (h6:r.kind≠6) (k:∀ N',N≤N' -> (Hp.mk F M N').wf -> K (.bool (zbn r)) ⟨F,M,N'⟩) :
  cF 192 #[.agg cs.toArray] K E ⟨F,M,N⟩:=by
 refine za4 za8 Tryz.func192 (by kernel_rfl) (yw4 _ E _) (λhw=>?_);have hm:za5 M N:=hw.m;obtain ⟨na,nc,fv,sa,sc,ev,rfl,hn,hf,he⟩:=hr;obtain ⟨fa,fc,rfl⟩:=hf.form;obtain ⟨ea,ec,rfl⟩:∃ ea ec,ev=.slice ea r.es.length ec:=by obtain ⟨rows,h1,_⟩:=he; obtain ⟨a,c,h2,_⟩:=h1.form; exact ⟨a,c,h2⟩
 refine zap (cs:=[.int .u8 r.kind,.int .u32 r.id,.int .u32 r.tm,.slice na r.ns.length nc,.slice fa r.fs.length fc,.int .u32 0,.slice sa 0 sc,.int .i64 r.lo,.int .i64 r.hi,.slice ea r.es.length ec]) (λb1 hb1=>?_)
 have fin:∀ v',v'=zbn r -> ∀ (M2:Nat -> Option zak) N2,(∀ q,q<N -> M2 q=M q) -> N≤N2 -> ∀ h',h'=(⟨F,M2,N2⟩:Hp) -> h'.wf -> ∃ h'',h'.wk h''∧(h''.wf -> K (.bool v') h''):=λv' e M2 N2 hM2 hN2 h' e' hc=>by
  subst e; subst e';exact ⟨⟨F,M,N2⟩,zbl hc (zmz hm hM2),λhw'=>k _ hN2 hw'⟩
 have tail:∀ (b:Bool) (M2:Nat -> Option zak) (N2:Nat) (kd id t lo hi:Int) (na fa ea:Option Addr) (nn nc fn fc en ec:Nat),M2 b1=some (.cells 77 [.int .u8 kd,.int .u32 id,.int .u32 t,.slice na nn nc,.slice fa fn fc,.int .u32 0,.slice sa 0 sc,.int .i64 lo,.int .i64 hi,.slice ea en ec] 10) ->
   (∀ q,q<N -> M2 q=M q) -> b1<N2 -> (b&&decide (t=0∧nn=0∧fn=0∧lo=0∧hi=0∧en=0))=zbn r ->
   pv (faV 0 (.pointer (some ⟨b1,0,none⟩))) (λt1=>st 1 t1 (.int .u8 0) λ_=>pv (faV 1 (.pointer (some ⟨b1,0,none⟩))) λt2=>st 1 t2 (.int .u32 0) λ_=>gdK (.bool b) true (λk=>ld true 10 (.pointer (some ⟨b1,0,none⟩)) k) λt3=>gdK (.bool b) true (λk=>cF 261 #[t3] k E) λt4=>pv (zad (.bool b) t4 (.bool false)) λt5 h=>h.wf -> ∃ h',h.wk h'∧(h'.wf -> K t5 h')) ⟨F,M2,N2⟩:=by
  intro b M2 N2 kd id t lo hi na fa ea nn nc fn fc en ec h1 h2 h3 h4;refine zaa rfl ?_;refine stM (cs':=[.int .u8 0,.int .u32 id,.int .u32 t,.slice na nn nc,.slice fa fn fc,.int .u32 0,.slice sa 0 sc,.int .i64 lo,.int .i64 hi,.slice ea en ec]) ?_ h1 rfl rfl (List.all_eq_true.1 rfl);refine zaa rfl ?_;refine stM (cs':=[.int .u8 0,.int .u32 0,.int .u32 t,.slice na nn nc,.slice fa fn fc,.int .u32 0,.slice sa 0 sc,.int .i64 lo,.int .i64 hi,.slice ea en ec]) ?_ (za0 _ _ _) rfl rfl (List.all_eq_true.1 rfl);rw [zan];have hM3:∀ x,∀ q,q<N -> upd M2 b1 x q=M q:=λx q hq=>(za3 _ _ (by omega)).trans (h2 q hq);cases b with
  | false=>
   try simp only [sS]
   exact fin _ (by rw [← h4]; rfl) _ N2 (hM3 _) (by omega) _ rfl
  | true=>
   try simp only [sS]
   refine zb6 (vs:=[.int .u8 0,.int .u32 0,.int .u32 t,.slice na nn nc,.slice fa fn fc,.int .u32 0,.slice sa 0 sc,.int .i64 lo,.int .i64 hi,.slice ea en ec]) ?_ (za0 _ _ _);refine ynl (λN3 hN3 hw3=>?_);try simp only [sS]
   rw [Bool.true_and] at h4;exact fin _ h4 _ N3 (hM3 _) (by omega) _ rfl
 have hb:=za0 M b1 (some (.cells 77 [.int .u8 r.kind,.int .u32 r.id,.int .u32 r.tm,.slice na r.ns.length nc,.slice fa r.fs.length fc,.int .u32 0,.slice sa 0 sc,.int .i64 r.lo,.int .i64 r.hi,.slice ea r.es.length ec] 10));have hM1:∀ q,q<N -> upd M b1 (some (.cells 77 [.int .u8 r.kind,.int .u32 r.id,.int .u32 r.tm,.slice na r.ns.length nc,.slice fa r.fs.length fc,.int .u32 0,.slice sa 0 sc,.int .i64 r.lo,.int .i64 r.hi,.slice ea r.es.length ec] 10)) q=M q:=λq hq=>za3 _ _ (by omega);have hm1:=hm.new hb1 (some (.cells 77 [.int .u8 r.kind,.int .u32 r.id,.int .u32 r.tm,.slice na r.ns.length nc,.slice fa r.fs.length fc,.int .u32 0,.slice sa 0 sc,.int .i64 r.lo,.int .i64 r.hi,.slice ea r.es.length ec] 10));generalize upd M b1 _=M1 at *;have go:∀ (x:Option zak) q,q<N -> upd M1 b1 x q=M q:=λx q hq=>(za3 _ _ (by omega)).trans (hM1 q hq);unfold zbn at tail fin;try simp only [sS]
 refine ldM (v:=.int .u8 r.kind) ?_ hb;refine zau (λg1=>?_) (λg1=>?_)
 ·simp only [g1,if_true] at tail;try simp only [sS]
  refine ldM (v:=.slice na r.ns.length nc) ?_ hb;refine ycu hn hL.nl (λhw1=>?_);cases hs:zek (-1) r.ns
  ·try simp only [sS]
   refine stM (cs':=[.int .u8 r.kind,.int .u32 r.id,.int .u32 r.tm,.slice none 0 0,.slice fa r.fs.length fc,.int .u32 0,.slice sa 0 sc,.int .i64 r.lo,.int .i64 r.hi,.slice ea r.es.length ec]) ?_ hb rfl rfl (List.all_eq_true.1 rfl);refine stM (cs':=[.int .u8 r.kind,.int .u32 r.id,.int .u32 r.tm,.slice none 0 0,.slice none 0 0,.int .u32 0,.slice sa 0 sc,.int .i64 r.lo,.int .i64 r.hi,.slice ea r.es.length ec]) ?_ (za0 _ _ _) rfl rfl (List.all_eq_true.1 rfl);rw [zan,zgu];refine tail _ _ (b1+1) _ _ _ _ _ _ _ _ _ _ _ _ _ _ (za0 _ _ _) (go _) (by omega) ?_
   simp [hs]
  ·try simp only [sS]
   refine ldM (v:=.slice fa r.fs.length fc) ?_ hb;refine ydm hf hL.fl (λN2 hN2 hw2=>?_);try simp only [sS]
   refine stM (cs':=[.int .u8 r.kind,.int .u32 r.id,.int .u32 r.tm,.slice none 0 0,.slice fa r.fs.length fc,.int .u32 0,.slice sa 0 sc,.int .i64 r.lo,.int .i64 r.hi,.slice ea r.es.length ec]) ?_ hb rfl rfl (List.all_eq_true.1 rfl);refine stM (cs':=[.int .u8 r.kind,.int .u32 r.id,.int .u32 r.tm,.slice none 0 0,.slice none 0 0,.int .u32 0,.slice sa 0 sc,.int .i64 r.lo,.int .i64 r.hi,.slice ea r.es.length ec]) ?_ (za0 _ _ _) rfl rfl (List.all_eq_true.1 rfl);rw [zan,zgu];refine tail _ _ _ _ _ _ _ _ _ _ _ _ _ _ _ _ _ (za0 _ _ _) (go _) (by omega) ?_;cases zen r.fs<;>simp [hs]
 ·simp only [g1,if_false] at tail fin;refine zaq ?_;refine zau (λg2=>?_) (λg2=>?_)
  ·simp only [g2,if_true] at tail;try simp only [sS]
   refine ldM (v:=.slice na r.ns.length nc) ?_ hb;refine ycu hn hL.nl (λhw1=>?_);try simp only [sS]
   refine stM (cs':=[.int .u8 r.kind,.int .u32 r.id,.int .u32 0,.slice na r.ns.length nc,.slice fa r.fs.length fc,.int .u32 0,.slice sa 0 sc,.int .i64 r.lo,.int .i64 r.hi,.slice ea r.es.length ec]) ?_ hb rfl rfl (List.all_eq_true.1 rfl);refine stM (cs':=[.int .u8 r.kind,.int .u32 r.id,.int .u32 0,.slice none 0 0,.slice fa r.fs.length fc,.int .u32 0,.slice sa 0 sc,.int .i64 r.lo,.int .i64 r.hi,.slice ea r.es.length ec]) ?_ (za0 _ _ _) rfl rfl (List.all_eq_true.1 rfl);rw [zan,zgu];refine tail _ _ (b1+1) _ _ _ _ _ _ _ _ _ _ _ _ _ _ (za0 _ _ _) (go _) (by omega) ?_;rw [Bool.and_comm]
   congr 1
   refine decide_eq_decide.2 ?_;simp only [List.length_eq_zero_iff];exact ⟨λ⟨_,_,a,b,c,d⟩=>⟨b,c,d,a⟩,λ⟨a,b,c,d⟩=>⟨by trivial,by trivial,d,a,b,c⟩⟩
  ·simp only [g2,if_false] at tail fin;refine zaq ?_
   have k345:r.kind=3∨r.kind=4∨r.kind=5 -> (true&&decide (r.tm=0∧r.ns.length=0∧r.fs.length=0∧r.lo=0∧r.hi=0∧r.es.length=0))=(if r.kind=3∨r.kind=4∨r.kind=5 then decide (r.tm=0∧r.lo=0∧r.hi=0∧r.es=[]∧r.fs=[]∧r.ns=[]) else if r.kind=7 then decide (r.tm=0∧r.ns=[]∧r.fs=[]∧0≤r.lo∧r.lo≤10000∧0≤r.hi∧r.hi≤10000)&&zg7 r.es else false):=λh=>by
    rw [if_pos h,Bool.true_and];refine decide_eq_decide.2 ?_;simp only [List.length_eq_zero_iff];exact ⟨λ⟨a,b,c,d,e,f⟩=>⟨a,d,e,f,c,b⟩,λ⟨a,b,c,d,e,f⟩=>⟨a,f,e,b,c,d⟩⟩
   refine zau (λg3=>?_) (λg3=>?_)
   ·refine zax ?_;rw [zdj];refine zax ?_;rw [zgu];exact tail _ _ (b1+1) _ _ _ _ _ _ _ _ _ _ _ _ _ _ hb hM1 (by omega) (k345 (by omega))
   refine zaq ?_;refine zau (λg4=>?_) (λg4=>?_)
   ·refine zax ?_;rw [zdj];refine zax ?_;rw [zgu];exact tail _ _ (b1+1) _ _ _ _ _ _ _ _ _ _ _ _ _ _ hb hM1 (by omega) (k345 (by omega))
   refine zaq ?_;refine zau (λg5=>?_) (λg5=>?_)
   ·rw [zdj];refine zax ?_;rw [zgu];exact tail _ _ (b1+1) _ _ _ _ _ _ _ _ _ _ _ _ _ _ hb hM1 (by omega) (k345 (by omega))
   rw [zdj];refine zaq (zbj h6 (zaq ?_));rw [if_neg (by omega)] at fin tail;refine zau (λg7=>?_) (λg7=>?_)
   ·simp only [g7,if_true] at tail;try simp only [sS]
    refine ldM (v:=.slice ea r.es.length ec) ?_ hb;refine yp5 he hL.el hL.et (λM2 N2 hN2 hM2 hm2 hw2=>?_);have hb2:=(hM2 b1 (by omega)).trans hb;have go2:∀ (x:Option zak) q,q<N -> upd M2 b1 x q=M q:=λx q hq=>((za3 _ _ (by omega)).trans (hM2 q (by omega))).trans (hM1 q hq);cases hs:zg7 r.es
    case' true=>
     try simp only [sS]
     refine ldM (v:=.int .i64 r.lo) ?_ hb2;refine zg8 (λl1=>?_) (λl1=>?_)
     case' refine_1=>
      try simp only [sS]
      refine ldM (v:=.int .i64 r.lo) ?_ hb2;refine zds (λl2=>?_) (λl2=>?_)
      case' refine_1=>
       try simp only [sS]
       refine ldM (v:=.int .i64 r.hi) ?_ hb2;refine zg8 (λl3=>?_) (λl3=>?_)
       case' refine_1=>
        try simp only [sS]
        refine ldM (v:=.int .i64 r.hi) ?_ hb2;refine zds (λl4=>?_) (λl4=>?_)
    all_goals try simp only [sS]
    all_goals refine stM (cs':=[.int .u8 r.kind,.int .u32 r.id,.int .u32 r.tm,.slice na r.ns.length nc,.slice fa r.fs.length fc,.int .u32 0,.slice sa 0 sc,.int .i64 0,.int .i64 r.hi,.slice ea r.es.length ec]) ?_ hb2 rfl rfl (List.all_eq_true.1 rfl)
    all_goals refine stM (cs':=[.int .u8 r.kind,.int .u32 r.id,.int .u32 r.tm,.slice na r.ns.length nc,.slice fa r.fs.length fc,.int .u32 0,.slice sa 0 sc,.int .i64 0,.int .i64 0,.slice ea r.es.length ec]) ?_ (za0 _ _ _) rfl rfl (List.all_eq_true.1 rfl)
    all_goals refine stM (cs':=[.int .u8 r.kind,.int .u32 r.id,.int .u32 r.tm,.slice na r.ns.length nc,.slice fa r.fs.length fc,.int .u32 0,.slice sa 0 sc,.int .i64 0,.int .i64 0,.slice none 0 0]) ?_ (za0 _ _ _) rfl rfl (List.all_eq_true.1 rfl)
    all_goals rw [zan,zan,zgu]
    all_goals refine tail _ _ N2 _ _ _ _ _ _ _ _ _ _ _ _ _ _ (za0 _ _ _) (go2 _) (by omega) ?_
    all_goals rw [hs]
    all_goals first
     | rw [Bool.and_false,Bool.false_and]
     | (rw [Bool.and_true,Bool.true_and]; refine decide_eq_decide.2 ?_; simp only [List.length_eq_zero_iff]; exact ⟨λ⟨a,b,c,_⟩=>⟨a,b,c,l1,l2,l3,l4⟩,λ⟨a,b,c,_⟩=>⟨a,b,c,by trivial⟩⟩)
     | (rw [Bool.and_true,Bool.false_and]; exact (decide_eq_false λ⟨_,_,_,a,b,c,d⟩=>by omega).symm)
   ·rw [if_neg g7] at fin;refine zaq ?_;exact fin _ rfl _ _ hM1 (by omega) _ rfl
theorem yb8 {cs:List Value} {r:zaj} (hr:zdr F cs r) (hL:r.lens) (ht:r.typ) (h6:r.kind≠6) (hE:(zah r).length≤2097152)
  (k0:zbn r=false -> ∀ N',N≤N' -> (Hp.mk F M N').wf -> K (.tuple #[.slice none 0 0,.int .u16 1]) ⟨F,M,N'⟩)
  (k1:zbn r=true -> (zah r).length>60000 -> ∀ N',N≤N' -> (Hp.mk F M N').wf -> K (.tuple #[.slice none 0 0,.int .u16 3]) ⟨F,M,N'⟩)
  (k2:zbn r=true -> (zah r).length≤60000 -> ∀ v M' N',own M' N 5 1 v (zah r).length (bts (zah r)) -> (∀ q,q<N -> M' q=M q) -> N≤N' -> za5 M' N' -> (Hp.mk F M' N').wf -> K (.tuple #[v,.int .u16 0]) ⟨F,M',N'⟩) :
  cF 138 #[.agg cs.toArray] K E ⟨F,M,N⟩:=by
 refine za4 za8 Tryz.func138 (by kernel_rfl) (yuo _ E _) (λhw=>?_);have hm:za5 M N:=hw.m;have hr0:=hr;obtain ⟨na,nc,fv,sa,sc,ev,rfl,hn,hf,he⟩:=hr;obtain ⟨fa,fc,e1⟩:=hf.form;obtain ⟨ea,ec,e2⟩:∃ ea ec,ev=.slice ea r.es.length ec:=by obtain ⟨rows,h1,_⟩:=he; obtain ⟨a,c,h2,_⟩:=h1.form; exact ⟨a,c,h2⟩
 refine zap (cs:=[.int .u8 r.kind,.int .u32 r.id,.int .u32 r.tm,.slice na r.ns.length nc,fv,.int .u32 0,.slice sa 0 sc,.int .i64 r.lo,.int .i64 r.hi,ev]) (λb1 hb1=>?_);refine zb6 (vs:=[.int .u8 r.kind,.int .u32 r.id,.int .u32 r.tm,.slice na r.ns.length nc,fv,.int .u32 0,.slice sa 0 sc,.int .i64 r.lo,.int .i64 r.hi,ev]) ?_ (za0 _ _ _);refine zla hr0 hL h6 (λN1 hN1 hw1=>?_);cases hs:zbn r
 ·try simp only [sS]
  exact λhc=>⟨⟨F,M,N1⟩,zbl hc (zb5 (zbb _) (hm _ hb1)),λhw'=>k0 hs _ (by omega) hw'⟩
 have hk:=zpf hs;try simp only [sS]
 refine zaa (v:=.agg #[.slice none 0 0,.int .i64 0,.int .i8 0]) (by kernel_rfl) ?_;refine zap (cs:=[.slice none 0 0,.int .i64 0,.int .i8 0]) (λb2 hb2=>?_)
 have P:zbc (upd (upd M b1 (some (.cells 77 [.int .u8 r.kind,.int .u32 r.id,.int .u32 r.tm,.slice na r.ns.length nc,fv,.int .u32 0,.slice sa 0 sc,.int .i64 r.lo,.int .i64 r.hi,ev] 10))) b2 (some (.cells 116 [.slice none 0 0,.int .i64 0,.int .i8 0] 3))) N b2 116 [] 3 (.slice none 0 0) [] :=
  ⟨⟨0,za0 _ _ _⟩,own.nil,λh=>by simp [Value.ownBlock] at h,by simp⟩
 have hb:upd (upd M b1 (some (.cells 77 [.int .u8 r.kind,.int .u32 r.id,.int .u32 r.tm,.slice na r.ns.length nc,fv,.int .u32 0,.slice sa 0 sc,.int .i64 r.lo,.int .i64 r.hi,ev] 10))) b2 (some (.cells 116 [.slice none 0 0,.int .i64 0,.int .i8 0] 3)) b1=some (.cells 77 [.int .u8 r.kind,.int .u32 r.id,.int .u32 r.tm,.slice na r.ns.length nc,fv,.int .u32 0,.slice sa 0 sc,.int .i64 r.lo,.int .i64 r.hi,ev] 10):=(za3 _ _ (by omega)).trans (za0 _ _ _);have hM2:∀ q,q<N -> upd (upd M b1 (some (.cells 77 [.int .u8 r.kind,.int .u32 r.id,.int .u32 r.tm,.slice na r.ns.length nc,fv,.int .u32 0,.slice sa 0 sc,.int .i64 r.lo,.int .i64 r.hi,ev] 10))) b2 (some (.cells 116 [.slice none 0 0,.int .i64 0,.int .i8 0] 3)) q=M q:=λq hq=>(za3 _ _ (by omega)).trans (za3 _ _ (by omega));have hm2:za5 (upd (upd M b1 (some (.cells 77 [.int .u8 r.kind,.int .u32 r.id,.int .u32 r.tm,.slice na r.ns.length nc,fv,.int .u32 0,.slice sa 0 sc,.int .i64 r.lo,.int .i64 r.hi,ev] 10))) b2 (some (.cells 116 [.slice none 0 0,.int .i64 0,.int .i8 0] 3))) (b2+1):=((hm.new hb1 _).up hN1).new hb2 _;generalize upd (upd M b1 _) b2 _=M2 at *
 have eR:zah r=zam (zb0 r.kind) 1++(zam (zb0 r.id) 4++if r.kind=1 then zco r.ns++zc8 r.fs else if r.kind=2 then zam (zb0 r.tm) 4++zco r.ns else if r.kind=7 then zam (zb0 r.lo) 4++(zam (zb0 r.hi) 4++zc9 r.es) else []):=by
  unfold zah;rw [zgk (x:=r.kind) (by omega) (by omega),zgk (x:=r.id) ht.i0.1 (by have := ht.i0.2; omega),zgk (x:=r.tm) ht.t0.1 (by have := ht.t0.2; omega)]
 have hkeep:∀ {M3:Nat -> Option zak} {v3:Value},bfr M2 M3 (b2+1) b2 (.slice none 0 0) v3 -> M3 b1=some (.cells 77 [.int .u8 r.kind,.int .u32 r.id,.int .u32 r.tm,.slice na r.ns.length nc,fv,.int .u32 0,.slice sa 0 sc,.int .i64 r.lo,.int .i64 r.hi,ev] 10):=λh=>(h b1 (by omega) (by simp [Value.ownBlock]) (by omega)).1.trans hb;try simp only [sS]
 refine ldM (v:=.int .u8 r.kind) ?_ hb;refine yqo (size:=1) P hm2 (by omega) (by omega) (by simp) (λv3 M3 N3 P3 f3 hN3 hm3 hw3=>?_);try simp only [sS]
 refine ldM (v:=.int .u32 r.id) ?_ (hkeep f3);refine zwt (size:=4) P3 hm3 (by omega) (by omega) (by simp [za9]) (λv4 M4 N4 P4 f4 hN4 hm4 hw4=>?_);have f24:=f3.trans f4 hN3;try simp only [sS]
 refine ldM (v:=.int .u8 r.kind) ?_ (hkeep f24);rw [List.nil_append] at P4
 have fin:∀ (v5:Value) (M5:Nat -> Option zak) (N5:Nat),zbc M5 N b2 116 [] 3 v5 (zah r) -> bfr M2 M5 (b2+1) b2 (.slice none 0 0) v5 -> b2+1≤N5 -> za5 M5 N5 ->
   cF 65 #[.pointer (some ⟨b2,0,none⟩)] (λt1=>pv (za2 .none .gtr t1 (.int .i64 60000)) λt2=>cnd t2 (λh=>h.wf -> ∃ h',h.wk h'∧(h'.wf -> K (.tuple #[.slice none 0 0,.int .u16 3]) h'))
    (cF 85 #[.pointer (some ⟨b2,0,none⟩)] (λt3 h=>h.wf -> ∃ h',h.wk h'∧(h'.wf -> K (.tuple #[t3,.int .u16 0]) h')) E)) E ⟨F,M5,N5⟩:=by
  intro v5 M5 N5 P5 f5 hN5 hm5;have hM5:∀ q,q<N -> M5 q=M q:=λq hq=>((f5 q (by omega) (by simp [Value.ownBlock]) (by omega)).1).trans (hM2 q hq);refine zm2 P5 (λhw5=>?_);refine zbw (λh1=>?_) (λh1=>?_)
  ·refine zax ?_;exact λhc=>⟨⟨F,M,N5⟩,zbl hc (zmz hm hM5),λhw'=>k1 hs (by omega) _ (by omega) hw'⟩
  ·refine zaq ?_;refine zzl P5 (λhw6=>?_);exact λhc=>⟨_,za1 hc,λhw'=>k2 hs (by omega) v5 M5 N5 P5.ow hM5 (by omega) hm5 hw'⟩
 have hl0:(zam (zb0 r.kind) 1++zam (zb0 r.id) 4).length=5:=by rw [List.length_append,za9,za9]
 refine zau (λg1=>?_) (λg1=>?_)
 ·simp only [g1,if_true] at eR;rw [g1] at P4 hl0;have hlen:(zah r).length=5+((zco r.ns).length+(zc8 r.fs).length):=by rw [eR]; simp only [List.length_append,za9]; omega
  try simp only [sS]
  refine ldM (v:=.slice na r.ns.length nc) ?_ (hkeep f24);refine zzu P4 hm4 (by omega) hn (by omega) (λv5 M5 N5 P5 f5 hN5 hm5 hw5=>?_);have f25:=f24.trans f5 (by omega);try simp only [sS]
  refine ldM (v:=fv) ?_ (hkeep f25);refine yb5 P5 hm5 (by omega) hf (by simp only [List.length_append,za9]; omega) (λv6 M6 N6 P6 f6 hN6 hm6 hw6=>?_);rw [zgr];refine fin v6 M6 N6 ?_ (f25.trans f6 (by omega)) (by omega) hm6;rw [eR]
  simpa using P6
 ·simp only [g1,if_false] at eR;refine zaq ?_;refine zau (λg2=>?_) (λg2=>?_)
  ·simp only [g2,if_true] at eR;rw [g2] at P4 hl0;have hlen:(zah r).length=5+(4+(zco r.ns).length):=by rw [eR]; simp only [List.length_append,za9]; omega
   try simp only [sS]
   refine ldM (v:=.int .u32 r.tm) ?_ (hkeep f24);refine zwt (size:=4) P4 hm4 (by omega) (by omega) (by omega) (λv5 M5 N5 P5 f5 hN5 hm5 hw5=>?_);have f25:=f24.trans f5 (by omega);try simp only [sS]
   refine ldM (v:=.slice na r.ns.length nc) ?_ (hkeep f25);refine zzu P5 hm5 (by omega) hn (by simp only [List.length_append,za9]; omega) (λv6 M6 N6 P6 f6 hN6 hm6 hw6=>?_);rw [zgr];refine fin v6 M6 N6 ?_ (f25.trans f6 (by omega)) (by omega) hm6;rw [eR]
   simpa using P6
  ·simp only [g2,if_false] at eR;refine zaq (zbj h6 (zaq ?_));refine zau (λg7=>?_) (λg7=>?_)
   ·simp only [g7,if_true] at eR;rw [g7] at P4 hl0;have hlen:(zah r).length=5+(4+(4+(zc9 r.es).length)):=by rw [eR]; simp only [List.length_append,za9]; omega
    try simp only [sS]
    refine ldM (v:=.int .i64 r.lo) ?_ (hkeep f24);refine zki (size:=4) P4 hm4 (by omega) (by omega) (by omega) (λv5 M5 N5 P5 f5 hN5 hm5 hw5=>?_);have f25:=f24.trans f5 (by omega);try simp only [sS]
    refine ldM (v:=.int .i64 r.hi) ?_ (hkeep f25);refine zki (size:=4) P5 hm5 (by omega) (by omega) (by simp only [List.length_append,za9]; omega) (λv6 M6 N6 P6 f6 hN6 hm6 hw6=>?_);have f26:=f25.trans f6 (by omega);try simp only [sS]
    refine ldM (v:=ev) ?_ (hkeep f26);refine ymq P6 hm6 (by omega) he (by simp only [List.length_append,za9]; omega) (λv7 M7 N7 P7 f7 hN7 hm7 hw7=>?_);rw [zgr];refine fin v7 M7 N7 ?_ (f26.trans f7 (by omega)) (by omega) hm7;rw [eR]
    simpa using P7
   ·simp only [g7,if_false] at eR;refine zaq ?_;rw [zgr];refine fin v4 M4 N4 ?_ f24 (by omega) hm4;rw [eR,List.append_nil];exact P4
def zkp:List PanicEntry:=[{ v:=.iface 286 (.agg #[]),recovered:=false }]
structure zdf (F:Nat -> Option (List Value)) (M:Nat -> Option zak) (p:Nat) (v:Value) (l:List Int):Prop where
 pp:M p=some (.cells 289 [v] 1)
 rd:sR F M 1 v l.length (bts l)
 ne:v.ownBlock≠some p
 bt:∀ x∈l,0≤x∧x<256
 ln:l.length≤100000
theorem zdf.keep {p:Nat} {v:Value} {l:List Int} (h:zdf F M p v l) (hF:za7 F F') (hp:M' p=M p) (hM:∀ q c,v.ownBlock=some q -> M q=some c -> M' q=some c):zdf F' M' p v l:=⟨hp.trans h.pp,h.rd.keep hF hM,h.ne,h.bt,h.ln⟩
theorem yly {v:Value} {l:List Int} {i:Nat} {K:Value -> zae} (hv:sR F M 1 v l.length (bts l)) (hi:i<l.length) {m c:Nat} {b o:Nat} (hb:v=.slice (some ⟨b,o,none⟩) l.length c) (him:i<m) (k:∀ p,K p (.int .u8 l[i]) ⟨F,M,N⟩) {c':Nat}:pv (iaV none 1 (.slice (some ⟨b,o,none⟩) m c') (.int .i64 (i:Nat))) (λp=>ld false 1 p (K p)) ⟨F,M,N⟩:=by
 rcases hv.2 with ⟨a,c1,h1,h2⟩ | ⟨b1,o1,c1,cs,h1,h2,h3,h4⟩
 ·rw [h2] at hi; omega
 ·rw [hb] at h1;simp only [Value.slice.injEq,Option.some.injEq,Addr.mk.injEq] at h1;obtain ⟨⟨rfl,rfl,_⟩,_,_⟩:=h1;refine zct him (zfo (zaz (cs:=cs) h3 ?_) (k _));have h5:(bts l)[i]?=some (.int .u8 l[i]):=by simp [bts,hi]
  rw [← h4,List.getElem?_take,if_pos (by omega),List.getElem?_drop] at h5;rw [Nat.mul_one]; exact h5
theorem ybs (l:List Int) (x a:Int):rdV (l++[x]) a=rdV l a*256+x:=by simp [rdV]
theorem yfz:∀ (l:List Int),(∀ x∈l,0≤x∧x<256) -> ∀ a:Nat,∃ m:Nat,rdV l (a:Nat)=(m:Nat)∧m<(a+1)*256 ^ l.length
 | [],_,a=>⟨a,rfl,by simp⟩
 | x::l,h,a=>by
  obtain ⟨y,rfl⟩:∃ y:Nat,x=(y:Nat):=⟨x.toNat,by have := h x (by simp); omega⟩;have hy:=(h _ (List.mem_cons_self ..)).2;obtain ⟨m,h1,h2⟩:=yfz l (λz hz=>h z (by simp [hz])) (a*256+y);refine ⟨m,?_,?_⟩
  ·rw [← h1]; simp [rdV]
  ·rw [List.length_cons,Nat.pow_succ];refine Nat.lt_of_lt_of_le h2 ?_;rw [Nat.mul_comm (256 ^ l.length) 256,← Nat.mul_assoc];exact Nat.mul_le_mul_right _ (by omega)
theorem yg1 {a:Nat} {h:Hp} (ha:a<72057594037927936) (k:K (.int .u64 ((a*256:Nat):Int)) h):pv (za2 .none .shl (.int .u64 (a:Nat)) (.int .u64 8)) K h :=
 ⟨_,by
  have e:za2 .none .shl (.int .u64 (a:Nat)) (.int .u64 8)=zgf .shl .u64 (a:Nat) 8:=rfl;rw [e]; unfold zgf; rw [if_neg (by omega)],by
  have:IntKind.u64.wrap (((a:Nat):Int)*2 ^ (min (8:Int).toNat IntKind.u64.bits))=((a*256:Nat):Int):=by
   rw [show (2:Int) ^ (min (8:Int).toNat IntKind.u64.bits)=256 from rfl,IntKind.wrap_u64];omega
  rw [this]; exact k⟩
theorem yru {a c:Nat} {h:Hp} (ha:a<72057594037927936) (hc:c<256) (k:K (.int .u64 ((a*256+c:Nat):Int)) h):pv (za2 .none .or (.int .u64 ((a*256:Nat):Int)) (.int .u64 (c:Nat))) K h :=
 ⟨_,by
  have e:za2 .none .or (.int .u64 ((a*256:Nat):Int)) (.int .u64 (c:Nat))=zfa .or .u64 ((a*256:Nat):Int) (c:Nat):=by simp [za2]
  rw [e]; rfl,by
  have h1:(BitVec.ofInt IntKind.u64.bits ((a*256:Nat):Int)|||BitVec.ofInt IntKind.u64.bits (c:Nat)).toNat=a*256+c:=by
   show (BitVec.ofInt 64 ((a*256:Nat):Int)|||BitVec.ofInt 64 (c:Nat)).toNat=_
   rw [BitVec.ofInt_natCast,BitVec.ofInt_natCast,BitVec.toNat_or,BitVec.toNat_ofNat,BitVec.toNat_ofNat,Nat.mod_eq_of_lt (by omega),Nat.mod_eq_of_lt (by omega)];have := Nat.shiftLeft_add_eq_or_of_lt (show c<2 ^ 8 by omega) a;rw [Nat.shiftLeft_eq] at this;exact this.symm
  rw [h1,show IntKind.u64.wrap ((a*256+c:Nat):Int)=((a*256+c:Nat):Int) by rw [IntKind.wrap_u64]; omega];exact k⟩
theorem ypc {p size:Nat} {v:Value} {l:List Int} (P:zdf F M p v l) (hs:size≤8) (hs0:0<size)
  (k:∀ v',size≤l.length -> zdf F (upd M p (some (.cells 289 [v'] 1))) p v' (l.drop size) -> v'.ownBlock=v.ownBlock -> (Hp.mk F (upd M p (some (.cells 289 [v'] 1))) N).wf -> K (.int .u64 (rdV (l.take size) 0)) ⟨F,upd M p (some (.cells 289 [v'] 1)),N⟩)
  (kE:l.length<size -> (Hp.mk F M N).wf -> E zkp ⟨F,M,N⟩) :
  cF 250 #[.pointer (some ⟨p,0,none⟩),.int .i64 (size:Nat)] K E ⟨F,M,N⟩:=by
 refine za4 za8 Tryz.func250 (by kernel_rfl) (ytk _ E _ _) (λhw=>?_);have hln:=P.ln;have hlv:zab v=some (.int .i64 (l.length:Nat)):=by obtain ⟨a,c,h,_⟩:=P.rd.form; rw [h]; rfl
 try simp only [sS]
 refine ldM (v:=v) ?_ P.pp;refine zaa hlv ?_;refine zat (λh=>?_) (λh=>?_)
 ·refine zax ?_;refine zaa (v:=.agg #[]) (by kernel_rfl) (zaa rfl ?_);exact kE (by omega) hw
 refine zaq ?_;rw [ylk];have hsl:size≤l.length:=by omega
 rcases P.rd.2 with ⟨a,c1,h1,h2⟩ | ⟨b,o,c,cs,rfl,h2,h3,h4⟩
 ·rw [h2] at hsl; omega
 try simp only [sS]
 refine ldM (v:=.slice (some ⟨b,o,none⟩) l.length c) ?_ P.pp;refine zhj size (by omega) ?_;try simp only [sS]
 refine zqe (σ:=Nat×Nat) (λs=>.int .u64 (s.2:Nat)) (λs=>.int .i64 (s.1:Nat)) (λs h=>h=⟨F,M,N⟩∧s.1≤size∧rdV (l.take s.1) 0=(s.2:Nat)∧s.2<256 ^ s.1) (λs=>size - s.1) (0,0) rfl rfl
  (λhw1=>⟨_,za1 hw1,rfl,Nat.zero_le _,rfl,by simp⟩) (λk1 s j h1 hI hw1 next=>?_)
 rw [zpa];obtain ⟨rfl,hi,he,hlt0⟩:=hI;refine zat (λhlt=>?_) (λhge=>?_)
 ·have i1:s.1<l.length:=by omega
  try simp only [sS]
  refine yly P.rd i1 rfl (by omega) λp'=>?_;have hbt:=P.bt l[s.1] (List.getElem_mem _);obtain ⟨y,hy⟩:∃ y:Nat,l[s.1]=(y:Nat):=⟨l[s.1].toNat,by omega⟩;have h56:s.2<72057594037927936:=Nat.lt_of_lt_of_le hlt0 (Nat.pow_le_pow_right (by omega) (show s.1≤7 by omega));refine yg1 h56 ?_;rw [hy];refine zaa (v:=.int .u64 (y:Nat)) (by have:IntKind.u64.wrap (y:Nat)=(y:Nat):=(by rw [IntKind.wrap_u64]; omega); simp [cvV,this]) ?_;refine yru h56 (by omega) ?_;refine zas (by omega) ?_;refine next (s.1+1,s.2*256+y) _ _ (by simp only; omega) (λhw2=>⟨_,za1 hw2,rfl,by simp only; omega,?_,?_⟩)
  ·rw [List.take_add_one,List.getElem?_eq_getElem i1,Option.toList_some,ybs,he,hy]; simp
  ·rw [Nat.pow_succ]; simp only; omega
 ·try simp only [sS]
  have es:s.1=size:=by omega
  rw [es] at he;try rw [t250_1_1_1_1]
  try simp only [sS]
  refine ldM (v:=.slice (some ⟨b,o,none⟩) l.length c) ?_ P.pp;refine zfj size hsl h2 ?_;try simp only [sS]
  have hpb:b≠p:=λe=>P.ne (by rw [e]; rfl);rw [← he];refine stM (cs':=[.slice (some (if c=size then ⟨b,o,none⟩ else ⟨b,o+size*1,none⟩)) (l.length - size) (c - size)]) ?_ P.pp rfl rfl (List.all_eq_true.1 rfl);have hob:(Value.slice (some (if c=size then ⟨b,o,none⟩ else ⟨b,o+size*1,none⟩)) (l.length - size) (c - size)).ownBlock=some b:=by split<;>rfl
  refine λhc=>⟨_,za1 hc,λhw'=>k _ hsl ⟨za0 _ _ _,?_,by rw [hob]; exact λe=>hpb (by simpa using e),λx hx=>P.bt x (List.mem_of_mem_drop hx),by rw [List.length_drop]; omega⟩ hob hw'⟩;refine ⟨by simp [bts],?_⟩;rw [List.length_drop]
  by_cases hcs:c=size
  ·exact .inl ⟨_,_,by rw [show l.length - size=0 by omega],by omega⟩
  ·refine .inr ⟨b,o+size*1,c - size,cs,by rw [if_neg hcs],by omega,?_,?_⟩
   ·rcases h3 with h3 | ⟨e,tot,h3⟩
    ·exact .inl h3
    ·exact .inr ⟨e,tot,(za3 _ _ hpb).trans h3⟩
   ·have h5:=congrArg (List.drop size) h4;rw [List.drop_take,List.drop_drop] at h5;rw [Nat.mul_one,Nat.mul_one,show (bts (l.drop size))=(bts l).drop size by simp [bts],← h5,Nat.mul_one]
def eOK (E:zb2) (F:Nat -> Option (List Value)) (M:Nat -> Option zak) (N p:Nat):Prop :=
 ∀ F' M' N',za7 F F' -> N≤N' -> (∀ q,q≠p -> q<N -> M' q=M q) -> za5 M' N' -> (Hp.mk F' M' N').wf -> E zkp ⟨F',M',N'⟩
theorem eOK.step {p:Nat} (h:eOK E F M N p) (hF:za7 F F') (hN:N≤N') (hM:∀ q,q≠p -> q<N -> M' q=M q):eOK E F' M' N' p:=λF2 M2 N2 h1 h2 h3 h4 h5=>
 h F2 M2 N2 (hF.trans h1) (by omega) (λq q1 q2=>(h3 q q1 (by omega)).trans (hM q q1 q2)) h4 h5
def rdA {α:Type} (f:List Int -> Option (α×List Int)) (pre:List α) (n:Nat) (l:List Int):Option (List α×List Int):=(rdL f n l).map λx=>(pre++x.1,x.2)
theorem zqs {α:Type} (f:List Int -> Option (α×List Int)) (n:Nat) (l:List Int):rdA f [] n l=rdL f n l:=by
 unfold rdA; cases rdL f n l<;>simp
theorem zj0 {α:Type} {f:List Int -> Option (α×List Int)} {pre:List α} {n:Nat} {l:List Int} (h:f l=none) (hn:0<n):rdA f pre n l=none:=by
 obtain ⟨m,rfl⟩:∃ m,n=m+1:=⟨n - 1,by omega⟩
 simp [rdA,rdL,h]
theorem zon {α:Type} {f:List Int -> Option (α×List Int)} {pre:List α} {n:Nat} {l r:List Int} {x:α} (h:f l=some (x,r)) (hn:0<n):rdA f pre n l=rdA f (pre++[x]) (n - 1) r:=by
 obtain ⟨m,rfl⟩:∃ m,n=m+1:=⟨n - 1,by omega⟩;simp only [rdA,rdL,h,Nat.add_sub_cancel];cases rdL f m r<;>simp
theorem zqt {α:Type} (f:List Int -> Option (α×List Int)) (pre:List α) (l:List Int):rdA f pre 0 l=some (pre,l):=by simp [rdA,rdL]
theorem zfv {size:Nat} {l r:List Int} {x:Int} (h:rd size l=some (x,r)) (hb:∀ x∈l,0≤x∧x<256):0≤x∧x<((256 ^ size:Nat):Int)∧r=l.drop size∧x=rdV (l.take size) 0∧size≤l.length:=by
 unfold rd at h
 split at h
 ·cases h
 ·rename_i hl
  simp only [Option.some.injEq,Prod.mk.injEq] at h;obtain ⟨m,h1,h2⟩:=yfz (l.take size) (λx hx=>hb x (List.mem_of_mem_take hx)) 0;rw [List.length_take,Nat.min_eq_left (by omega)] at h2;have h1':rdV (l.take size) 0=(m:Nat):=h1;rw [h1'] at h;obtain ⟨rfl,rfl⟩:=h;exact ⟨by omega,by omega,rfl,h1'.symm,by omega⟩
theorem zh5 {p size:Nat} {v:Value} {l:List Int} (P:zdf F M p v l) (hm:za5 M N) (hs:size≤8) (hs0:0<size)
  (k:∀ v' M' x r,rd size l=some (x,r) -> zdf F M' p v' r -> v'.ownBlock=v.ownBlock -> (∀ q,q≠p -> M' q=M q) -> za5 M' N -> (Hp.mk F M' N).wf -> K (.int .u64 x) ⟨F,M',N⟩)
  (kE:rd size l=none -> eOK E F M N p) :
  cF 250 #[.pointer (some ⟨p,0,none⟩),.int .i64 (size:Nat)] K E ⟨F,M,N⟩ :=
 ypc P hs hs0 (λv' h1 h2 h3 hw=>k v' _ _ _ (by unfold rd; rw [if_neg (by omega)]) h2 h3 (λq hq=>za3 _ _ hq) (hm.set (hm.lt P.pp) _) hw)
  (λh hw=>kE (by unfold rd; rw [if_pos h]) F M N (za7.refl _) (Nat.le_refl _) (λ_ _ _=>rfl) hm hw)
theorem ztu {x:Int} {h:Hp} (h0:0≤x) (h1:x<9223372036854775808) (k:K (.int .i64 x) h):pv (cvV .i64 (.int .u64 x)) K h:=⟨_,rfl,by rw [IntKind.wrap_i64,show (x+9223372036854775808)%18446744073709551616 - 9223372036854775808=x by omega]; exact k⟩
theorem zqn {p size least:Nat} {v:Value} {l:List Int} (P:zdf F M p v l) (hm:za5 M N) (hs:size≤4) (hs0:0<size) (hl:0<least) (hl1:least≤100)
  (k:∀ v' M' n r,rdM size least l=some (n,r) -> n*least≤r.length -> zdf F M' p v' r -> v'.ownBlock=v.ownBlock -> (∀ q,q≠p -> M' q=M q) -> za5 M' N -> (Hp.mk F M' N).wf -> K (.int .i64 (n:Nat)) ⟨F,M',N⟩)
  (kE:rdM size least l=none -> eOK E F M N p) :
  cF 299 #[.pointer (some ⟨p,0,none⟩),.int .i64 (size:Nat),.int .i64 (least:Nat)] K E ⟨F,M,N⟩:=by
 refine za4 za8 Tryz.func299 (by kernel_rfl) (yuc _ E _ _ _) (λhw=>?_);refine zh5 P hm (by omega) hs0 (λv' M' x r h1 P1 h2 h3 hm1 hw1=>?_) (λh=>kE (by unfold rdM; rw [h]));have hx:=zfv h1 P.bt
 have hx2:x<4294967296:=by
  have:(256 ^ size:Nat)≤256 ^ 4:=Nat.pow_le_pow_right (by omega) hs;omega
 have hlr:=P1.ln;have hlv:zab v'=some (.int .i64 (r.length:Nat)):=by obtain ⟨a,c,h,_⟩:=P1.rd.form; rw [h]; rfl
 try simp only [sS]
 refine ldM (v:=v') ?_ P1.pp;refine zaa hlv ?_;refine yf1 (a:=(r.length:Nat)) (b:=(least:Nat)) (by omega) (by omega) (by omega) ?_;have eq:((r.length:Nat):Int)/((least:Nat):Int)=((r.length/least:Nat):Int):=by simp
 have hle:r.length/least≤r.length:=Nat.div_le_self _ _
 have hu:cvV .u64 (.int .i64 ((r.length/least:Nat):Int))=some (.int .u64 ((r.length/least:Nat):Int)):=by
  generalize r.length/least=y at hle;have:IntKind.u64.wrap (y:Int)=(y:Int):=by rw [IntKind.wrap_u64]; omega
  simp [cvV,this]
 rw [eq];refine zaa hu ?_;refine zbw (λh=>?_) (λh=>?_)
 ·refine zax ?_;refine zaa (v:=.agg #[]) (by kernel_rfl) (zaa rfl ?_);exact kE (by unfold rdM; rw [h1]; simp only; rw [if_pos h]) F M' N (za7.refl _) (Nat.le_refl _) (λq q1 _=>h3 q q1) hm1 hw1
 ·refine zaq ?_;rw [yfu];refine ztu hx.1 (by omega) ?_;obtain ⟨n,rfl⟩:∃ n:Nat,x=(n:Nat):=⟨x.toNat,by omega⟩;refine λhc=>⟨_,za1 hc,λhw'=>k v' M' n r ?_ ?_ P1 h2 h3 hm1 hw'⟩
  ·unfold rdM; rw [h1]; simp only; rw [if_neg h]; simp
  ·exact (Nat.le_div_iff_mul_le hl).1 (by omega)
theorem zz4 {e:TypeId} {z:List Value} {sz bytes n:Nat} (hb:n*bytes≤140737488355328) (hm:n≤maxLen) (k:∀ b,N≤b -> K (.slice (some ⟨b,0,none⟩) n n) ⟨F,upd M b (some (.cells e (List.replicate n z).flatten (n*sz))),b+1⟩):mks e z sz bytes (.int .i64 (n:Nat)) (.int .i64 (n:Nat)) K ⟨F,M,N⟩ :=
 ⟨.i64,n,.i64,n,rfl,rfl,Nat.le_refl _,hb,hm,k⟩
theorem zdf.box {p b:Nat} {v:Value} {l:List Int} (P:zdf F M p v l) (hm:za5 M N) (hb:N≤b) (x:Option zak):zdf F (upd M b x) p v l :=
 P.keep (za7.refl _) (za3 _ _ (by have := hm.lt P.pp; omega)) (λq c _ h=>(za3 _ _ (by have := hm.lt h; omega)).trans h)
theorem ybp {p:Nat} {v:Value} {l:List Int} (P:zdf F M p v l) (hm:za5 M N) (hv:∀ q,v.ownBlock=some q -> q<N)
  (k:∀ nv v' F' M' N' ns r,rdN l=some (ns,r) -> zdf F' M' p v' r -> v'.ownBlock=v.ownBlock -> za7 F F' -> sF F' 1 nv ns.length (ic ns) -> N≤N' -> (∀ q,q≠p -> q<N -> M' q=M q) -> za5 M' N' -> (Hp.mk F' M' N').wf -> K nv ⟨F',M',N'⟩)
  (kE:rdN l=none -> eOK E F M N p) :
  cF 251 #[.pointer (some ⟨p,0,none⟩)] K E ⟨F,M,N⟩:=by
 refine za4 za8 Tryz.func251 (by kernel_rfl) (ys6 _ E _) (λhw=>?_);refine zqn (size:=1) (least:=1) P hm (by omega) (by omega) (by omega) (by omega) (λv1 M1 n r1 h1 hn1 P1 e1 hM1 hm1 hw1=>?_) (λh=>kE (by unfold rdN; rw [h]));have hrN:rdN l=rdL (rd 1) n r1:=by unfold rdN; rw [h1]
 have hln:=P1.ln;have hpN:p<N:=hm.lt P.pp;refine zz4 (by omega) (by unfold maxLen; omega) (λb hb=>?_);try simp only [sS]
 refine zs5 (σ:=Nat) (λi=>.int .i64 (i:Nat)) (λi h=>∃ M' v' pre r,h=⟨F,M',b+1⟩∧zdf F M' p v' r∧v'.ownBlock=v.ownBlock∧M' b=some (.cells 3 (ic pre++List.replicate (n - i) (.int .i64 0)) n)∧pre.length=i∧i≤n∧rdN l=rdA (rd 1) pre (n - i) r∧(∀ q,q≠p -> q<N -> M' q=M q)∧za5 M' (b+1)) (λi=>n - i) 0 rfl
  (λhw2=>⟨_,za1 hw2,_,v1,[],r1,rfl,P1.box hm1 hb _,e1,by rw [za0,Nat.mul_one]; simp [ic],rfl,Nat.zero_le _,by rw [hrN,Nat.sub_zero,zqs],λq q1 q2=>(za3 _ _ (by omega)).trans (hM1 q q1),hm1.new hb _⟩) (λk1 i j h1 hI hw2 next=>?_)
 rw [ztj];obtain ⟨M2,v2,pre,r2,rfl,P2,e2,hb2,hpl,hi,hrd,hM2,hm2⟩:=hI;refine zat (λhlt=>?_) (λhge=>?_)
 ·have i1:i<n:=by omega
  try simp only [sS]
  refine zh5 (size:=1) P2 hm2 (by omega) (by omega) (λv3 M3 x r3 h3 P3 e3 hM3 hm3 hw3=>?_) (λh=>?_)
  ·have hx:=zfv h3 P2.bt;refine ztu hx.1 (by omega) ?_;have hb3:M3 b=some (.cells 3 (ic pre++List.replicate (n - i) (.int .i64 0)) n):=(hM3 b (by omega)).trans hb2;refine zct i1 ?_;have hpi:(ic pre).length=i:=by simp [ic,hpl]
   refine stM (cs':=ic (pre++[x])++List.replicate (n - (i+1)) (.int .i64 0)) ?_ hb3 ?_ rfl (List.all_eq_true.1 rfl) (by simp [hpi]; omega)
   ·refine zas (by omega) ?_;refine next (i+1) _ _ (by omega) (λhw4=>⟨_,za1 hw4,_,v3,pre++[x],r3,rfl,P3.keep (za7.refl _) (za3 _ _ (by omega)) (λq c hq h=>(za3 _ _ (by rw [e3,e2] at hq; have := hv q hq; omega)).trans h),e3.trans e2,za0 _ _ _,by simp [hpl],i1,?_,λq q1 q2=>(za3 _ _ (by omega)).trans ((hM3 q q1).trans (hM2 q q1 q2)),hm3.set (by omega) _⟩);rw [hrd,zon h3 (by omega),show n - i - 1=n - (i+1) by omega]
   ·have := zfu (ic pre) [.int .i64 0] [.int .i64 x] (List.replicate (n - (i+1)) (.int .i64 0)) rfl;rw [hpi] at this;rw [Nat.zero_add,Nat.mul_one,show (Value.int .i64 x).cells.toList=[.int .i64 x] from rfl,show List.replicate (n - i) (Value.int .i64 0)=[.int .i64 0]++List.replicate (n - (i+1)) (.int .i64 0) by rw [show n - i=n - (i+1)+1 by omega,List.replicate_succ]; rfl,← List.append_assoc,this]
    simp [ic]
  ·exact (kE (by rw [hrd,zj0 h (by omega)])).step (za7.refl _) (by omega) hM2
 ·try simp only [sS]
  have es:i=n:=by omega
  subst es;try rw [t251_1_1_1]
  rw [Nat.sub_self,zqt] at hrd;rw [Nat.sub_self,List.replicate_zero,List.append_nil] at hb2;have hsub:zex (upd M2 b none) M2:=λq c h=>by simp only [upd] at h; split at h; cases h; exact h
  refine λhc=>⟨⟨upd F b (some (ic pre)),upd M2 b none,b+1⟩,znb hc hsub (za0 _ _ _) hb2,λhw'=>k _ v2 _ _ _ pre r2 hrd ?_ e2 (znv hw hb _) ?_ (by omega) (λq q1 q2=>(za3 _ _ (by omega)).trans (hM2 q q1 q2)) (hm2.set (by omega) _) hw'⟩
  ·exact P2.keep (znv hw hb _) (za3 _ _ (by omega)) (λq c hq h=>(za3 _ _ (by rw [e2] at hq; have := hv q hq; omega)).trans h)
  ·have := zjz (F:=F) (b:=b) (sz:=1) (m:=pre.length) (c:=pre.length) (cells:=ic pre) (by simp [ic]) (Nat.le_refl _);rw [hpl] at this ⊢; exact this
end Go.Proofs.YtlhlhpgjnjjhnaaGreatDoor.A
