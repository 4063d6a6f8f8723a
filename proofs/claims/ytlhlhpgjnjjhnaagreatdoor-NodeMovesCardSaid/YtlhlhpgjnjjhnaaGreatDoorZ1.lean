import Derived.WalkKit
import Derived.KernelRfl
import Derived.Orders
import Derived.Laws.AppendOwn
import Derived.Laws.OwnMore
import Derived.Maps.AppendAt
import Derived.Laws.StructEq
import Derived.Laws.BytesString
import Derived.Laws.MakeOwn
import Derived.Lib.ConvBytes
import Derived.Scope
import Derived.ChangeArms
import Derived.SizedLaws
import Derived.MapKept
import Derived.StringKeys
import Derived.Recover
import Derived.DefersIn
import Derived.RangeFuncRecord
import Derived.Test.YtlhlhpgjnjjhnaaGreatDoorProg
set_option maxHeartbeats 16000000
set_option maxRecDepth 20000
open Go Go.RowKit
set_option linter.unusedVariables false
set_option linter.unusedSimpArgs false
namespace Go.Proofs.YtlhlhpgjnjjhnaaGreatDoor.K
inductive zak where
 | cells (e:TypeId) (cs:List Value) (tot:Nat)
 | obj (o:Obj)
structure Hp where
 F:Nat -> Option (List Value)
 M:Nat -> Option zak
 nx:Nat
def Obj.noCells:Obj -> Prop
 | .cells .. => False
 | _=>True
structure Rep (w0:World) (h:Hp) (w:World):Prop where
 below:Below w0.heap.size w0 w
 dr:w0.drawn≤w.drawn
 nx:h.nx≤w.heap.size
 base:w0.heap.size≤h.nx
 fr:∀ b cs,h.F b=some cs -> b<h.nx∧∃ arr e z,w.heap[b]?=some (.cells arr e z)∧cs <+: arr.toList
 cl:∀ b e cs tot,h.M b=some (.cells e cs tot) -> b<h.nx∧w0.heap.size≤b∧h.F b=none∧∃ arr,w.heap[b]?=some (.cells arr e (0,0))∧arr.size=tot∧cs <+: arr.toList
 ob:∀ b o,h.M b=some (.obj o) -> b<h.nx∧w0.heap.size≤b∧h.F b=none∧w.heap[b]?=some o∧Obj.noCells o
def Hp.row (h:Hp) (b:Nat) (cs:List Value):Prop:=h.F b=some cs∨∃ e tot,h.M b=some (.cells e cs tot)
def upd {α:Type} (f:Nat -> Option α) (b:Nat) (v:Option α):Nat -> Option α:=λk=>if k=b then v else f k
theorem za0 {α:Type} (f:Nat -> Option α) (b:Nat) (v:Option α):upd f b v b=v:=by simp [upd]
theorem za3 {α:Type} (f:Nat -> Option α) {b k:Nat} (v:Option α) (h:k≠b):upd f b v k=f k:=by simp [upd,h]
theorem Rep.cell {w0 w:World} {h:Hp} (r:Rep w0 h w) {b:Nat} {cs:List Value} (hb:h.row b cs) {o:Nat} {v:Value} (hv:cs[o]?=some v):w.cell? ⟨b,o,none⟩=some v:=by
 have pre:∀ (arr:Array Value) e z,w.heap[b]?=some (.cells arr e z) -> cs <+: arr.toList -> w.cell? ⟨b,o,none⟩=some v:=by
  intro arr e z ha hp;obtain ⟨t,ht⟩:=hp
  have:arr[o]?=some v:=by
   rw [← Array.getElem?_toList,← ht,List.getElem?_append_left (List.getElem?_eq_some_iff.1 hv).1]; exact hv
  simp [World.cell?,ha,this]
 rcases hb with hb | ⟨e,tot,hM⟩
 ·obtain ⟨_,arr,e,z,ha,hp⟩:=r.fr b cs hb;exact pre arr e z ha hp
 ·obtain ⟨_,_,_,arr,ha,_,hp⟩:=r.cl b e _ tot hM;exact pre arr e (0,0) ha hp
def Hp.set (h:Hp) (b:Nat) (c:zak):Hp:={ h with M:=upd h.M b (some c) }
def Hp.new (h:Hp) (b:Nat) (c:zak):Hp:={ h with M:=upd h.M b (some c),nx:=b+1 }
def Hp.del (h:Hp) (b:Nat):Hp:={ h with M:=upd h.M b none }
theorem Rep.drew {w0 w:World} {h:Hp} (r:Rep w0 h w):Rep w0 h w.drew:=⟨r.below.drew,Nat.le_succ_of_le r.dr,r.nx,r.base,r.fr,r.cl,r.ob⟩
theorem zrd {w:World} {b:Nat} {arr:Array Value} {e:TypeId} {z:Nat×Nat} (h:w.heap[b]?=some (.cells arr e z)) (o:Nat) (u:Value) :
  (w.setCell ⟨b,o,none⟩ u).heap[b]?=some (.cells (arr.setIfInBounds o u) e z):=by
 simp [World.setCell,Array.getElem?_modify,h]
theorem Rep.turn {w0 w w':World} {h:Hp} (r:Rep w0 h w) {b:Nat} (hb:w0.heap.size≤b) (hF:h.F b=none) (hos:w'.os=w.os) (htape:w'.tape=w.tape) (hout:w'.output=w.output)
  (hsz:w.heap.size≤w'.heap.size) (hlt:b<w'.heap.size) (hother:∀ k,k≠b -> k<w.heap.size -> w'.heap[k]?=w.heap[k]?) (c:Option zak) (nx:Nat) (hnx:h.nx≤nx) (hnx':nx≤w'.heap.size) (hbn:b<nx)
  (hc:match c with
   | some (.cells e cs tot)=>∃ arr,w'.heap[b]?=some (.cells arr e (0,0))∧arr.size=tot∧cs <+: arr.toList
   | some (.obj o)=>w'.heap[b]?=some o∧Obj.noCells o
   | none=>True) (hdr:w.drawn≤w'.drawn:=by exact Nat.le_refl _):Rep w0 ⟨h.F,upd h.M b c,nx⟩ w':=by
 have lt:∀ k,k<h.nx -> k<w.heap.size:=λk hk=>Nat.lt_of_lt_of_le hk r.nx;refine ⟨?_,Nat.le_trans r.dr hdr,hnx',Nat.le_trans r.base hnx,?_,?_,?_⟩
 ·exact r.below.trans ⟨hos,htape,hout,hsz,λk hk=>hother k (by omega) (Nat.lt_of_lt_of_le hk r.below.size)⟩
 ·intro k cs hk;obtain ⟨h1,arr,e,z,h2,h3⟩:=r.fr k cs hk;refine ⟨Nat.lt_of_lt_of_le h1 hnx,arr,e,z,?_,h3⟩;rw [hother k (λhe=>by subst he; simp only at hk; rw [hF] at hk; cases hk) (lt k h1)]; exact h2
 ·intro k e cs tot hk;simp only [upd] at hk
  split at hk
  ·rename_i he
   subst he;rw [hk] at hc;exact ⟨hbn,hb,hF,hc⟩
  ·rename_i he
   obtain ⟨h1,h2,h3,arr,h4,h5⟩:=r.cl k e cs tot hk;exact ⟨Nat.lt_of_lt_of_le h1 hnx,h2,h3,arr,by rw [hother k he (lt k h1)]; exact h4,h5⟩
 ·intro k o hk;simp only [upd] at hk
  split at hk
  ·rename_i he
   subst he;rw [hk] at hc;exact ⟨hbn,hb,hF,hc⟩
  ·rename_i he
   obtain ⟨h1,h2,h3,h4,h5⟩:=r.ob k o hk;exact ⟨Nat.lt_of_lt_of_le h1 hnx,h2,h3,by rw [hother k he (lt k h1)]; exact h4,h5⟩
theorem Rep.alloc {w0 w:World} {h:Hp} (r:Rep w0 h w) (o:Obj) (c:Option zak)
  (hc:match c with
   | some (.cells e cs tot)=>∃ arr,o=.cells arr e (0,0)∧arr.size=tot∧cs <+: arr.toList
   | some (.obj o')=>o=o'∧Obj.noCells o
   | none=>True):Rep w0 ⟨h.F,upd h.M w.heap.size c,w.heap.size+1⟩ (w.alloc o):=by
 refine r.turn (w':=w.alloc o) (b:=w.heap.size) (Nat.le_trans r.base r.nx) ?_ rfl rfl rfl (by simp) (by simp) (λk _ hk=>Below.heap_alloc w o k hk) c _ (Nat.le_succ_of_le r.nx) (by simp) (by omega) ?_
 ·cases hF:h.F w.heap.size with
  | none=>rfl
  | some cs=>obtain ⟨h1,_⟩:=r.fr _ cs hF; have := r.nx; omega
 ·have hn:=heap_alloc_new w o
  split at hc
  ·obtain ⟨arr,rfl,h2⟩:=hc;exact ⟨arr,hn,h2⟩
  ·obtain ⟨rfl,h2⟩:=hc;exact ⟨hn,h2⟩
  ·trivial
def zb3 (cs:List Value) (o:Nat) (vs:List Value):List Value:=cs.take o++vs++cs.drop (o+vs.length)
theorem ztn (cs:List Value) (o:Nat):zb3 cs o []=cs:=by simp [zb3]
theorem zvc {cs:List Value} {o:Nat} {vs:List Value} (h:o+vs.length≤cs.length) (k:Nat) :
  (zb3 cs o vs)[k]?=if o≤k∧k<o+vs.length then vs[k - o]? else cs[k]?:=by
 unfold zb3
 by_cases h1:k<o
 ·rw [List.getElem?_append_left (by simp; omega),List.getElem?_append_left (by simp; omega),if_neg (by omega),List.getElem?_take,if_pos h1]
 ·by_cases h2:k<o+vs.length
  ·rw [List.getElem?_append_left (by simp; omega),List.getElem?_append_right (by simp; omega),if_pos (by omega)]
   simp [Nat.min_eq_left (by omega:o≤cs.length)]
  ·rw [List.getElem?_append_right (by simp; omega),if_neg (by omega),List.getElem?_drop]
   congr 1
   simp [Nat.min_eq_left (by omega:o≤cs.length)]; omega
theorem zrs {cs:List Value} {o:Nat} {v:Value} {vs:List Value} (h:o+(v::vs).length≤cs.length):zb3 cs o (v::vs)=zb3 (cs.set o v) (o+1) vs:=by
 apply List.ext_getElem?
 intro k;have h':o+1+vs.length≤(cs.set o v).length:=by simp at h ⊢; omega
 rw [zvc h,zvc h',List.getElem?_set];simp only [List.length_cons]
 by_cases h1:k=o
 ·subst h1;rw [if_pos (by omega),if_neg (by omega),if_pos rfl,if_pos (by simp at h; omega)]
  simp
 ·by_cases h2:o≤k∧k<o+(vs.length+1)
  ·rw [if_pos h2,if_pos (by omega)];obtain ⟨j,rfl⟩:∃ j,k=o+1+j:=⟨k - (o+1),by omega⟩;rw [show o+1+j - o=j+1 by omega,List.getElem?_cons_succ]
   congr 1; omega
  ·rw [if_neg h2,if_neg (by omega),if_neg (λe=>h1 e.symm)]
theorem yeg {cs:List Value} {arr:Array Value} (h:cs <+: arr.toList) {o:Nat} (ho:o<cs.length) (v:Value):cs.set o v <+: (arr.setIfInBounds o v).toList:=by
 obtain ⟨t,ht⟩:=h;refine ⟨t,?_⟩;rw [Array.toList_setIfInBounds,← ht,List.set_append_left _ _ ho]
theorem Rep.setCell {w0 w:World} {h:Hp} (r:Rep w0 h w) {b:Nat} {e:TypeId} {cs:List Value} {tot:Nat} (hM:h.M b=some (.cells e cs tot)) {o:Nat} (ho:o<cs.length) (v:Value) :
  Rep w0 (h.set b (.cells e (cs.set o v) tot)) (w.setCell ⟨b,o,none⟩ v):=by
 obtain ⟨h1,h2,h3,arr,h4,h5,h6⟩:=r.cl b e cs tot hM;refine r.turn (w':=w.setCell ⟨b,o,none⟩ v) h2 h3 rfl rfl rfl (by simp) (by simp; have := r.nx; omega) (λk hk _=>Below.heap_setCell _ _ _ _ hk) (some _) h.nx (Nat.le_refl _) (by simpa using r.nx) h1 ?_;exact ⟨_,zrd h4 o v,by simpa using h5,yeg h6 ho v⟩
theorem Addr.add_plain (b o n:Nat):(⟨b,o,none⟩:Addr).add n=⟨b,o+n,none⟩:=by unfold Addr.add; split<;>simp_all
theorem Hp.set_set (h:Hp) (b:Nat) (c c':zak):(h.set b c).set b c'=h.set b c':=by
 simp only [Hp.set]; congr 1; funext k; simp only [upd]; split<;>rfl
theorem Rep.storeCells {P:Program} {w0:World} {b:Nat} {e:TypeId} {tot:Nat}:∀ (vs:List Value) (h:Hp) (w:World) (cs:List Value) (o i:Nat),Rep w0 h w -> h.M b=some (.cells e cs tot) ->
  o+i+vs.length≤cs.length -> (∀ v∈vs,v.oneCell'=true) ->
  ∃ w',(Go.storeCells ⟨b,o,none⟩ vs i).run P w=.ok () w'∧Rep w0 (h.set b (.cells e (zb3 cs (o+i) vs) tot)) w'
 | [],h,w,cs,o,i,r,hM,hl,_=>⟨w,by simp [Go.storeCells],by
   rw [ztn]
   have:h.set b (.cells e cs tot)=h:=by
    simp only [Hp.set];have:upd h.M b (some (.cells e cs tot))=h.M:=by funext k; simp only [upd]; split<;>simp_all
    rw [this]
   rw [this]; exact r⟩
 | v::vs,h,w,cs,o,i,r,hM,hl,hv=>by
  have ho:o+i<cs.length:=by simp at hl; omega
  obtain ⟨h1,h2,h3,arr,h4,h5,h6⟩:=r.cl b e cs tot hM;have hc:w.cell? ⟨b,o+i,none⟩=some (cs[o+i]'ho):=r.cell (cs:=cs) (.inr ⟨e,tot,hM⟩) (by simp [ho]);have hz:w.frozen? ⟨b,o+i,none⟩=false:=by simp [World.frozen?,h4]
  have r':=r.setCell hM ho v;obtain ⟨w',hw',hr'⟩:=Rep.storeCells (P:=P) vs _ _ (cs.set (o+i) v) o (i+1) r' (za0 _ _ _) (by simp at hl ⊢; omega) (λu hu=>hv u (by simp [hu]));refine ⟨w',?_,?_⟩
  ·simp only [Go.storeCells,Addr.add_plain,Sem.run_bind];rw [run_store P w _ v _ (hv v (by simp)),hc];simp only [hz,Bool.false_eq_true,if_false,Result.andThen_ok];exact hw'
  ·rw [Hp.set_set] at hr';rw [zrs (by simp at hl ⊢; omega)];exact hr'
def zex (A M:Nat -> Option zak):Prop:=∀ k c,A k=some c -> M k=some c
structure Hp.wk (h h':Hp):Prop where
 nx:h'.nx=h.nx
 M:zex h'.M h.M
 F:∀ b cs,h'.F b=some cs -> h.F b=some cs∨(h'.M b=none∧∃ e cs' tot,h.M b=some (.cells e cs' tot)∧cs <+: cs')
 d:∀ b cs,h'.F b=some cs -> h'.M b=none
theorem Rep.wk {w0 w:World} {h h':Hp} (r:Rep w0 h w) (k:h.wk h'):Rep w0 h' w:=by
 refine ⟨r.below,r.dr,by rw [k.nx]; exact r.nx,by rw [k.nx]; exact r.base,?_,?_,?_⟩
 ·intro b cs hb
  rcases k.F b cs hb with h1 | ⟨_,e,cs',tot,h1,h2⟩
  ·rw [k.nx]; exact r.fr b cs h1
  ·obtain ⟨a1,a2,a3,arr,a4,a5,a6⟩:=r.cl b e cs' tot h1;exact ⟨by rw [k.nx]; exact a1,arr,e,_,a4,h2.trans a6⟩
 ·intro b e cs tot hb;obtain ⟨a1,a2,a3,a4⟩:=r.cl b e cs tot (k.M _ _ hb);refine ⟨by rw [k.nx]; exact a1,a2,?_,a4⟩;cases hF:h'.F b with
  | none=>rfl
  | some cs'=>rw [k.d b cs' hF] at hb; cases hb
 ·intro b o hb;obtain ⟨a1,a2,a3,a4⟩:=r.ob b o (k.M _ _ hb);refine ⟨by rw [k.nx]; exact a1,a2,?_,a4⟩;cases hF:h'.F b with
  | none=>rfl
  | some cs'=>rw [k.d b cs' hF] at hb; cases hb
structure Hp.wf (h:Hp):Prop where
 M:∀ k,h.nx≤k -> h.M k=none
 F:∀ k,h.nx≤k -> h.F k=none
 d:∀ k cs,h.F k=some cs -> h.M k=none
theorem Rep.wf {w0 w:World} {h:Hp} (r:Rep w0 h w):h.wf:=by
 refine ⟨λk hk=>?_,λk hk=>?_,λk cs hk=>?_⟩
 ·cases hM:h.M k with
  | none=>rfl
  | some c=>
   cases c with
   | cells e cs tot=>have := (r.cl k e cs tot hM).1; omega
   | obj o=>have := (r.ob k o hM).1; omega
 ·cases hF:h.F k with
  | none=>rfl
  | some cs=>have := (r.fr k cs hF).1; omega
 ·cases hM:h.M k with
  | none=>rfl
  | some c=>
   cases c with
   | cells e cs' tot=>have := (r.cl k e cs' tot hM).2.2.1; rw [hk] at this; cases this
   | obj o=>have := (r.ob k o hM).2.2.1; rw [hk] at this; cases this
theorem zbb (M:Nat -> Option zak):zex M M:=λ_ _ h=>h
theorem zb5 {A M:Nat -> Option zak} {b:Nat} {x:Option zak} (h:zex A M) (hb:A b=none):zex A (upd M b x):=λk c hk=>by
 simp only [upd]; split
 ·rename_i e; subst e; rw [hb] at hk; cases hk
 ·exact h k c hk
theorem ygy {A M:Nat -> Option zak} {b:Nat} {x:Option zak} (h:zex A M):zex (upd A b x) (upd M b x):=λk c hk=>by
 simp only [upd] at hk ⊢; split
 ·rename_i e; rw [if_pos e] at hk; exact hk
 ·rename_i e; rw [if_neg e] at hk; exact h k c hk
def zlo (P:Program) (ops:Array Oper) (o:Oper) (v:Value) (a:Act) (w:World):Prop :=
 (Region.wanted o (yielded ops a.tmps)=true∧(execOp a.eval o).run P w=.ok (.value v) w)∨(Region.wanted o (yielded ops a.tmps)=false∧v=undef)
def zra (ops:Array Oper) (j:Nat):List Nat:=match ops[j]? with
 | none=>[]
 | some o=>(o.after.toList.filter (Region.binds .any)).map (·.on)
def yee (ops:Array Oper):Nat -> List Nat -> List Nat
 | 0,s=>s
 | n+1,s=>yee ops n ((s++s.flatMap (zra ops)).eraseDups)
def zr7 (ops:Array Oper) (i j:Nat):Bool:=(yee ops 5 (zra ops j)).contains i
def zj3 (ops:Array Oper) (listed:Array Bool):Prop :=
 ∀ j o,listed.getD j false=true -> ops[j]?=some o -> ∀ e∈o.after,Region.binds .any e=true -> listed.getD e.on false=true
theorem ybu {ops:Array Oper} {listed:Array Bool} (hc:zj3 ops listed) {k:Nat} (hk:listed.getD k false=true):∀ i∈zra ops k,listed.getD i false=true:=by
 intro i hi;unfold zra at hi;cases ho:ops[k]? with
 | none=>simp [ho] at hi
 | some o=>
  simp only [ho,List.mem_map,List.mem_filter] at hi;obtain ⟨e,⟨he,hb⟩,rfl⟩:=hi;exact hc k o hk ho e (by simpa using he) hb
theorem zpy {ops:Array Oper} {listed:Array Bool} (hc:zj3 ops listed):∀ (n:Nat) (s:List Nat),(∀ i∈s,listed.getD i false=true) -> ∀ i∈yee ops n s,listed.getD i false=true
 | 0,_,h,i,hi=>h i hi
 | n+1,s,h,i,hi=>by
  refine zpy hc n _ (λk hk=>?_) i hi;rw [List.mem_eraseDups,List.mem_append,List.mem_flatMap] at hk
  rcases hk with hk | ⟨m,hm,hk⟩
  ·exact h k hk
  ·exact ybu hc (h m hm) k hk
theorem yas {ops:Array Oper} {listed:Array Bool} (hc:zj3 ops listed) {i j:Nat}
  (hj:∀ o,ops[j]?=some o -> ∀ e∈o.after,Region.binds .any e=true -> listed.getD e.on false=true) (h:zr7 ops i j=true):listed.getD i false=true:=by
 refine zpy hc 5 (zra ops j) (λk hk=>?_) i (by simpa [zr7] using h);unfold zra at hk;cases ho:ops[j]? with
 | none=>simp [ho] at hk
 | some o=>
  simp only [ho,List.mem_map,List.mem_filter] at hk;obtain ⟨e,⟨he,hb⟩,rfl⟩:=hk;exact hj o ho e (by simpa using he) hb
theorem zjh {ops:Array Oper} {listed:Array Bool} (hc:zj3 ops listed) {j:Nat} (hj:j∈Region.ready .any ops listed):zj3 ops (listed.setIfInBounds j true):=by
 intro k o hk ho e he hb
 by_cases hjk:j=k
 ·subst hjk;obtain ⟨_,o',ho',hall⟩:=mem_ready.1 hj;rw [ho] at ho';cases ho';exact getD_set_true (hall e he hb)
 ·rw [getD_set_ne false hjk] at hk;exact getD_set_true (hc k o hk ho e he hb)
theorem yc9 (ops:Array Oper) (n:Nat):zj3 ops (Array.replicate n false):=by
 intro j o hj ho
 by_cases h:j<n<;>simp [h] at hj
abbrev zii:=List (Nat×(World -> Prop))
def later (ops:Array Oper) (T:zii) (j:Nat):zii:=T.filter λp=>!zr7 ops p.1 j
def zi9 (P:Program) (ops:Array Oper) (Q:Exit -> Act -> World -> Prop):Nat -> Array Bool -> zii -> Act -> World -> Prop
 | 0,listed,T,a,w=>Region.ready .any ops listed=[]∧Q .normal a w
 | fuel+1,listed,T,a,w=>
  (Region.ready .any ops listed=[] -> Q .normal a w) ∧
  ∀ i∈Region.ready .any ops listed,wpOp P ops Q i (λa' w'=>(∀ p∈later ops T i,p.2 w')∧zi9 P ops Q fuel (listed.setIfInBounds i true) (later ops T i) a' w') a w
theorem ztx {P:Program} {ops:Array Oper} {Q:Exit -> Act -> World -> Prop}:∀ (fuel:Nat) (listed:Array Bool) (T:zii) (a:Act) (w:World),zi9 P ops Q fuel listed T a w -> wpAny P .any ops Q fuel listed a w
 | 0,_,_,_,_,h=>h
 | fuel+1,_,_,_,_,h=>⟨h.1,λi hi=>wpOp_mono (λa' w' h'=>ztx fuel _ _ a' w' h'.2) (h.2 i hi)⟩
theorem zy9 {ops:Array Oper} {T T':zii} {j:Nat} (hs:∀ p∈T',p∈T):∀ p∈later ops T' j,p∈later ops T j:=λp hp=>by
 simp only [later,List.mem_filter] at *;exact ⟨hs p hp.1,hp.2⟩
theorem zmj {P:Program} {ops:Array Oper} {Q:Exit -> Act -> World -> Prop}:∀ (fuel:Nat) (listed:Array Bool) (T T':zii) (a:Act) (w:World),(∀ p∈T',p∈T) -> zi9 P ops Q fuel listed T a w -> zi9 P ops Q fuel listed T' a w
 | 0,_,_,_,_,_,_,h=>h
 | fuel+1,_,_,_,_,_,hs,h=>⟨h.1,λi hi=>wpOp_mono (λa' w' h'=>⟨λp hp=>h'.1 p (zy9 hs p hp),zmj fuel _ _ _ a' w' (zy9 hs) h'.2⟩) (h.2 i hi)⟩
section
variable {P:Program} {ops:Array Oper} {Q:Exit -> Act -> World -> Prop}
theorem zlo.of_same {o:Oper} {v:Value} {a a':Act} {w:World} (hy:zlo P ops o v a w) (he:execOp a'.eval o=execOp a.eval o)
  (hw:Region.wanted o (yielded ops a'.tmps)=Region.wanted o (yielded ops a.tmps)):zlo P ops o v a' w:=by
 unfold zlo at *;rw [he,hw];exact hy
def zfs (P:Program) (ops:Array Oper) (S:World -> Prop) (o:Oper) (v:Value) (a:Act):Prop:=∀ w,S w -> zlo P ops o v a w
theorem zfs.of_same {S:World -> Prop} {o:Oper} {v:Value} {a a':Act} (hy:zfs P ops S o v a) (he:execOp a'.eval o=execOp a.eval o)
  (hw:Region.wanted o (yielded ops a'.tmps)=Region.wanted o (yielded ops a.tmps)):zfs P ops S o v a':=λw hs=>(hy w hs).of_same he hw
theorem zfs.wpOp {S:World -> Prop} {i:Nat} {o:Oper} {v:Value} {a:Act} (hi:ops[i]?=some o) (hy:zfs P ops S o v a)
  {K:Act -> World -> Prop} {w:World} (hS:S w) (h:K (a.put o.dst v) w):wpOp P ops Q i K a w:=by
 unfold Go.wpOp;try simp only [hi]
 rcases hy w hS with ⟨hw,hv⟩ | ⟨hw,rfl⟩
 ·simp only [hw,if_true,Oper.wp,hv,Oper.upon]; exact .inl h
 ·simp only [hw,Bool.false_eq_true,if_false]; exact h
theorem ygq {S:World -> Prop} {j:Nat} {oi oj:Oper} {v:Value} (hj:ops[j]?=some oj) (hap:oi.apart ops oj=true)
  (hsi:∀ cs b,oi.op≠.select cs b) (hsj:∀ cs b,oj.op≠.select cs b)
  (hQ:∀ c a w,Q (.panic c) (a.put oi.dst v) w -> Q (.panic c) a w) {K:Act -> World -> Prop} {a:Act} {w:World}
  (hy:zfs P ops S oi v a) (h:wpOp P ops Q j K (a.put oi.dst v) w) :
  wpOp P ops Q j (λa' w'=>zfs P ops S oi v a'∧K (a'.put oi.dst v) w') a w:=by
 obtain ⟨h1,h2,h3⟩:=Oper.apart_spec hap
 have keep:∀ (a:Act),zfs P ops S oi v a -> ∀ u,zfs P ops S oi v (a.put oj.dst u):=λa hy u=>
  hy.of_same (execOp_put oi hsi a oj.dst u h3) (wanted_put oi a oj.dst u h3)
 have keepD:∀ d,zfs P ops S oi v { a with defers:=d::a.defers }:=λd=>hy.of_same rfl rfl;unfold wpOp at *;simp only [hj] at *;rw [wanted_put oj a oi.dst v h1] at h
 split
 ·rename_i hw
  simp only [hw,if_true] at h
  rcases h with h | ⟨hasks,hlets⟩
  case inr=>exact .inr ⟨by unfold Oper.asks at *; rw [execOp_put oj hsj a oi.dst v h1] at hasks; exact hasks,hlets⟩
  refine .inl ?_;unfold Oper.wp at *;rw [execOp_put oj hsj a oi.dst v h1] at h;generalize (execOp a.eval oj).run P w=r at *;cases r with
  | ok n w'=>
   cases n<;>simp only [Oper.upon] at h ⊢
   case value u=>exact ⟨keep a hy u,by rw [← Act.put_comm a v u h2]; exact h⟩
   case skip=>exact ⟨keep a hy _,by rw [← Act.put_comm a v undef h2]; exact h⟩
   case defer d=>
    refine ⟨keep _ (keepD d) _,?_⟩;rw [← Act.put_comm _ v undef h2,← Act.put_defers];exact h
   case enter f args=>
    refine Calls.mono h λe w'' he=>?_;cases e with
    | returned u=>exact ⟨keep a hy u,by rw [← Act.put_comm a v u h2]; exact he⟩
    | panicked c=>exact hQ _ _ _ he
    | outgrown=>exact he
   case row row args=>exact Rows.mono h λu w'' he=>⟨keep a hy u,by rw [← Act.put_comm a v u h2]; exact he⟩
  | halt x w'=>
   cases x<;>simp only [Oper.upon] at h ⊢
   case panic u=>exact hQ _ _ _ h
 ·rename_i hw
  simp only [hw] at h;exact ⟨keep a hy _,by rw [← Act.put_comm a v undef h2]; exact h⟩
theorem yc0 {S:World -> Prop} {i:Nat} {oi:Oper} {v:Value} (hi:ops[i]?=some oi) (hsel:∀ (j:Nat) (o:Oper) cs b,ops[j]?=some o -> o.op≠.select cs b)
  (hQ:∀ c a w,Q (.panic c) (a.put oi.dst v) w -> Q (.panic c) a w) :
  ∀ (fuel:Nat) (listed:Array Bool) (T:zii) (a:Act) (w:World),zj3 ops listed ->
   (∀ j oj,ops[j]?=some oj -> j≠i -> listed.getD j true=false -> (∀ e∈oj.after,Region.binds .any e=true -> e.on≠i) -> oi.apart ops oj=true) ->
   i∈Region.ready .any ops listed -> zfs P ops S oi v a -> S w -> (∀ p∈T,p.2 w) ->
   zi9 P ops Q fuel (listed.setIfInBounds i true) ((i,S)::T) (a.put oi.dst v) w -> zi9 P ops Q (fuel+1) listed T a w:=by
 intro fuel
 induction fuel with
 | zero=>
  intro listed T a w hcl _ hr hy hS hT H;refine ⟨λh=>(by rw [h] at hr; cases hr),λj hj=>?_⟩
  by_cases hji:j=i
  ·subst hji; exact hy.wpOp hi hS ⟨λp hp=>hT p (List.mem_filter.1 hp).1,zmj _ _ _ _ _ _ (λp hp=>List.mem_cons_of_mem _ (List.mem_filter.1 hp).1) H⟩
  ·have := ready_mono hj hji;rw [H.1] at this;cases this
 | succ fuel ih=>
  intro listed T a w hcl hfree hr hy hS hT H;refine ⟨λh=>(by rw [h] at hr; cases hr),λj hj=>?_⟩
  by_cases hji:j=i
  ·subst hji; exact hy.wpOp hi hS ⟨λp hp=>hT p (List.mem_filter.1 hp).1,zmj _ _ _ _ _ _ (λp hp=>List.mem_cons_of_mem _ (List.mem_filter.1 hp).1) H⟩
  ·have h1:=H.2 j (ready_mono hj hji);obtain ⟨hjun,oj,hoj,hall⟩:=mem_ready.1 hj
   have hnot:∀ e∈oj.after,Region.binds .any e=true -> e.on≠i:=λe he hb heq=>by
    have h1:=hall e he hb;have h0:=(mem_ready.1 hr).1;rw [heq] at h1
    rcases Nat.lt_or_ge i listed.size with h' | h'
    ·simp [h'] at h0 h1; rw [h0] at h1; cases h1
    ·simp [Array.getElem?_eq_none h'] at h1
   have hah:zr7 ops i j=false:=by
    cases hb:zr7 ops i j with
    | false=>rfl
    | true=>
     have := yas hcl (λo ho e he hb=>by rw [hoj] at ho; cases ho; exact hall e he hb) hb;have h0:=(mem_ready.1 hr).1
     rcases Nat.lt_or_ge i listed.size with h' | h'
     ·simp [h'] at h0 this; rw [h0] at this; cases this
     ·simp [Array.getElem?_eq_none h'] at this
   have h2:=ygq hoj (hfree j oj hoj hji hjun hnot) (λcs b=>hsel i oi cs b hi) (λcs b=>hsel j oj cs b hoj) hQ hy h1
   have hfree':∀ k ok,ops[k]?=some ok -> k≠i -> (listed.setIfInBounds j true).getD k true=false ->
     (∀ e∈ok.after,Region.binds .any e=true -> e.on≠i) -> oi.apart ops ok=true:=λk ok hk hki hun hno=>by
    refine hfree k ok hk hki ?_ hno
    by_cases hjk:j=k
    ·subst hjk; exact hjun
    ·rw [getD_set_ne true hjk] at hun; exact hun
   have hl:later ops ((i,S)::T) j=(i,S)::later ops T j:=by simp [later,List.filter_cons,hah]
   refine wpOp_mono (λa' w' h3=>?_) h2;obtain ⟨h4,h5,h6⟩:=h3;rw [hl] at h5 h6;refine ⟨λp hp=>h5 p (List.mem_cons_of_mem _ hp),ih (listed.setIfInBounds j true) _ a' w' (zjh hcl hj) hfree' (ready_mono hr (Ne.symm hji)) h4 (h5 _ (List.mem_cons_self ..)) (λp hp=>h5 p (List.mem_cons_of_mem _ hp)) ?_⟩;rw [Array.setIfInBounds_comm _ _ hji];exact h6
theorem zts {rs:List Nat} {fuel:Nat} {listed:Array Bool} {T:zii} {a:Act} {w:World} (hr:Region.ready .any ops listed=rs) (hne:rs≠[])
  (h:∀ i∈rs,wpOp P ops Q i (λa' w'=>(∀ p∈later ops T i,p.2 w')∧zi9 P ops Q fuel (listed.setIfInBounds i true) (later ops T i) a' w') a w):zi9 P ops Q (fuel+1) listed T a w :=
 ⟨λh0=>absurd (hr ▸ h0) hne,hr ▸ h⟩
theorem ycg {id:Nat} {a:Act} {w:World} (hm:P.follows .mixedOrders=true)
  (h:zi9 P ops Q ops.size (Array.replicate ops.size false) [] a { w with drawn:=w.drawn+1 }):(Code.region id ops true).wp P Q a w :=
 wp_region_any hm (ztx _ _ _ _ _ h)
end
abbrev Env:=Array Value
abbrev zae:=Value -> Hp -> Prop
abbrev ev (env:Env) (x:Operand):Value:=(Act.mk env []).eval x
def zeu (env:Env) (d:Option Tmp) (v:Value):Env:=(Act.put ⟨env,[]⟩ d v).tmps
def zkw {α β:Type} (f:α -> β) (xs:Array α):Array β:=(xs.toList.map f).toArray
theorem zwe {α β:Type} (f:α -> β) (xs:Array α):zkw f xs=xs.map f:=by
 apply Array.toList_inj.1
 simp [zkw]
def zcp (xs ys:Array Value):Array Value:=(xs.toList++ys.toList).toArray
theorem zj4 (xs ys:Array Value):zcp xs ys=xs++ys:=by simp [zcp]
def ldV (h:Hp) (agg:Bool) (sz:Nat) (p v:Value):Prop :=
 match p with
 | .pointer (some ⟨b,o,none⟩)=>∃ cs,h.row b cs∧(if agg=true then o+sz≤cs.length∧v=.agg ((cs.drop o).take sz).toArray else cs[o]?=some v)
 | _=>False
def pv (o:Option Value) (K:zae) (h:Hp):Prop:=∃ v,o=some v∧K v h
def ld (agg:Bool) (sz:Nat) (p:Value) (K:zae) (h:Hp):Prop:=∃ v,ldV h agg sz p v∧K v h
def ynd (p:Value) (vs:List Value) (K:Hp -> Prop) (h:Hp):Prop :=
 ∃ b o e cs tot,p=.pointer (some ⟨b,o,none⟩)∧h.M b=some (.cells e cs tot)∧(∀ c∈vs,c.oneCell'=true)∧o+vs.length≤cs.length∧K (h.set b (.cells e (zb3 cs o vs) tot))
def st (sz:Nat) (p v:Value) (K:zae) (h:Hp):Prop:=v.cells.size=sz∧ynd p v.cells.toList (K undef) h
def nw (t:TypeId) (cells:List Value) (K:zae) (h:Hp):Prop:=∀ b,h.nx≤b -> K (.pointer (some ⟨b,0,none⟩)) (h.new b (.cells t cells cells.length))
def nws (t:TypeId) (n:Nat) (cells:Option (Array Value)) (K:zae) (h:Hp):Prop :=
 ∃ cs,cells=some cs∧∀ b,h.nx≤b -> K (.slice (some ⟨b,0,none⟩) n n) (h.new b (.cells t cs.toList cs.size))
def faV (off:Nat):Value -> Option Value
 | .pointer (some ⟨b,o,none⟩)=>some (.pointer (some ⟨b,o+off,none⟩))
 | _=>none
def fdV (agg:Bool) (off sz:Nat):Value -> Option Value
 | .agg cs=>if agg then some (.agg (cs.extract off (off+sz))) else cs[off]?
 | _=>none
def iaV (arr:Option Nat) (sz:Nat):Value -> Value -> Option Value
 | .slice (some ⟨b,o,none⟩) n _,.int _ i=>if arr=none∧0≤i∧i<n then some (.pointer (some ⟨b,o+i.toNat*sz,none⟩)) else none
 | .pointer (some ⟨b,o,none⟩),.int _ i=>match arr with
  | some n=>if 0≤i∧i<(n:Int) then some (.pointer (some ⟨b,o+i.toNat*sz,none⟩)) else none
  | none=>none
 | _,_=>none
def ixV:Value -> Value -> Option Value
 | .string s,.int _ i=>if 0≤i then (s[i.toNat]?).map (λb=>.int .u8 b.toNat) else none
 | _,_=>none
def zai:Value -> Option Value
 | .pointer none | .nilIface | .nilFunc=>none
 | .func (.method _) _ _=>none
 | v=>some v
def zad:Value -> Value -> Value -> Option Value
 | .bool t,a,b=>some (if t then a else b)
 | _,_,_=>none
def exV (i:Nat):Value -> Option Value
 | .tuple vs=>vs[i]?
 | _=>none
def zfa (op:BinOp) (k:IntKind) (a b:Int):Option Value :=
 match op with
 | .add=>some (.int k (k.wrap (a+b)))
 | .sub=>some (.int k (k.wrap (a - b)))
 | .mul=>some (.int k (k.wrap (a*b)))
 | .quo=>if b=0 then none else some (.int k (k.wrap (a.tdiv b)))
 | .rem=>if b=0 then none else some (.int k (a.tmod b))
 | .and=>some (.int k (k.wrap (BitVec.ofInt k.bits a &&& BitVec.ofInt k.bits b).toNat))
 | .or=>some (.int k (k.wrap (BitVec.ofInt k.bits a|||BitVec.ofInt k.bits b).toNat))
 | .xor=>some (.int k (k.wrap (BitVec.ofInt k.bits a ^^^ BitVec.ofInt k.bits b).toNat))
 | .andNot=>some (.int k (k.wrap (BitVec.ofInt k.bits a &&& ~~~ BitVec.ofInt k.bits b).toNat))
 | .eql=>some (.bool (a == b))
 | .neq=>some (.bool (a != b))
 | .lss=>some (.bool (decide (a<b)))
 | .leq=>some (.bool (decide (a≤b)))
 | .gtr=>some (.bool (decide (a>b)))
 | .geq=>some (.bool (decide (a≥b)))
 | _=>none
def zgf (op:BinOp) (k:IntKind) (x:Int) (y:Int):Option Value :=
 if y<0 then none else match op with
 | .shl=>some (.int k (k.wrap (x*2 ^ (min y.toNat k.bits))))
 | .shr=>some (.int k (x.fdiv (2 ^ (min y.toNat k.bits))))
 | _=>none
inductive EqK | none | bool | ptr | slc | map | fn
def zv3:Nat -> Value -> Value -> Option Bool
 | 0,.int k a,.int k' b=>if k=k' then some (a == b) else none
 | 1,.bool a,.bool b=>some (a == b)
 | 2,.string a,.string b=>some (a.toList == b.toList)
 | _,_,_=>none
def zlb:List Nat -> List Value -> List Value -> Option Bool
 | [],[],[]=>some true
 | c::cs,x::xs,y::ys=>match zv3 c x y with
  | some true=>zlb cs xs ys
  | some false=>some false
  | none=>none
 | _,_,_=>none
def eqV (e:EqK):Value -> Value -> Option Bool
 | .bool a,.bool b=>match e with | .bool=>some (a == b) | _=>none
 | .pointer none,.pointer b=>match e with | .ptr=>some b.isNone | _=>none
 | .pointer (some _),.pointer none=>match e with | .ptr=>some false | _=>none
 | .slice none _ _,.slice b _ _=>match e with | .slc=>some b.isNone | _=>none
 | .slice (some _) _ _,.slice none _ _=>match e with | .slc=>some false | _=>none
 | .map none,.map b=>match e with | .map=>some b.isNone | _=>none
 | .map (some _),.map none=>match e with | .map=>some false | _=>none
 | .nilFunc,.nilFunc=>match e with | .fn=>some true | _=>none
 | .nilFunc,.func _ _ _=>match e with | .fn=>some false | _=>none
 | .func _ _ _,.nilFunc=>match e with | .fn=>some false | _=>none
 | _,_=>none
def zvy (op:BinOp) (x y:ByteArray):Option Value :=
 match op with
 | .add=>if ((x.size+y.size:Nat):Int)>IntKind.i64.max then none else some (.string (x++y))
 | .eql=>some (.bool (x.toList == y.toList))
 | .neq=>some (.bool !(x.toList == y.toList))
 | .lss=>some (.bool (Op.bytesLess x.toList y.toList))
 | .leq=>some (.bool (Op.bytesLess x.toList y.toList||x.toList == y.toList))
 | .gtr=>some (.bool !(Op.bytesLess x.toList y.toList||x.toList == y.toList))
 | .geq=>some (.bool !(Op.bytesLess x.toList y.toList))
 | _=>none
def za2 (e:EqK) (op:BinOp) (x y:Value):Option Value :=
 match x,y with
 | .int k a,.int k' b=>match op with
  | .shl | .shr=>zgf op k a b
  | _=>if k=k' then zfa op k a b else none
 | .string a,.string b=>zvy op a b
 | x,y=>match op with
  | .eql=>(eqV e x y).map .bool
  | .neq=>(eqV e x y).map λb=>.bool !b
  | _=>none
def zo2 (op:BinOp):Value -> Option Value
 | .nilIface=>match op with | .eql=>some (.bool true) | .neq=>some (.bool false) | _=>none
 | .iface _ _=>match op with | .eql=>some (.bool false) | .neq=>some (.bool true) | _=>none
 | _=>none
def taV (t:TypeId) (z:Value):Value -> Option Value
 | .nilIface=>some (.tuple #[z,.bool false])
 | .iface t' v=>some (if t'=t then .tuple #[v,.bool true] else .tuple #[z,.bool false])
 | _=>none
def unV (op:UnOp):Value -> Option Value
 | .bool b=>match op with | .not=>some (.bool !b) | _=>none
 | .int k n=>match op with
  | .neg=>some (.int k (k.wrap (0 - n)))
  | .xor=>zfa .xor k (if k.signed then -1 else k.max) n
  | _=>none
 | _=>none
def cvV (k:IntKind):Value -> Option Value
 | .int _ n=>some (.int k (k.wrap n))
 | _=>none
def znt (t:TypeId) (x:Value):Option Value:=some (.iface t x)
def zz5:Value -> Option Int
 | .int _ i=>some i
 | _=>none
def bnd (d:Option Int):Option Value -> Option Int
 | none=>d
 | some v=>zz5 v
def slV (sz:Nat) (x:Value) (lo hi mx:Option Value):Option Value :=
 match x with
 | .slice a len cap=>
  match bnd (some cap) mx,(bnd (some len) hi),bnd (some 0) lo with
  | some m,some h,some l=>
   if 0≤l∧l≤h∧h≤m∧m≤cap∧(hi=none -> mx=none∧(len:Int)≤cap) then
    some (.slice (if m=l then a else a.map (·.add (l.toNat*sz))) (h - l).toNat (m - l).toNat) else none
  | _,_,_=>none
 | _=>none
def yfa (n:Nat):Value -> Value
 | .pointer (some a)=>.slice (some a) n n
 | _=>undef
def slT (x:Value) (lo hi mx:Option Value):Option Value :=
 match x with
 | .string s=>
  match mx,(bnd (some s.size) hi),bnd (some 0) lo with
  | none,some h,some l=>if 0≤l∧l≤h∧h≤s.size then some (.string (s.extract l.toNat h.toNat)) else none
  | _,_,_=>none
 | _=>none
def zab:Value -> Option Value
 | .slice _ n _=>some (.int .i64 n)
 | _=>none
def ylb:Value -> Option Value
 | .string s=>some (.int .i64 s.size)
 | _=>none
def mm (max:Bool):Value -> Value -> Option Value
 | .int k x,.int _ y=>some (.int k (if max then (if y>x then y else x) else (if y<x then y else x)))
 | _,_=>none
def yp1 (h:Hp) (e:TypeId) (sz:Nat) (s:Value) (n:Nat) (cs:List Value):Prop :=
 cs.length=n*sz∧((s=.slice none 0 0∧n=0)∨∃ b c,s=.slice (some ⟨b,0,none⟩) n c∧n≤c∧c≤maxLen∧∃ rest,h.M b=some (.cells e (cs++rest) (c*sz)))
def zkf (h:Hp) (sz:Nat) (x:Value) (m:Nat) (news:List Value):Prop :=
 news.length=m*sz∧((∃ a c,x=.slice a m c∧m=0)∨∃ b o c cs,x=.slice (some ⟨b,o,none⟩) m c∧(m=0∨h.row b cs∧(cs.drop o).take (m*sz)=news))
def zge (M:Nat -> Option zak) (s:Value):Nat -> Option zak:=match s.ownBlock with
 | some b=>upd M b none
 | none=>M
def Hp.moved (h:Hp) (s:Value) (b:Nat) (c:zak):Hp :=
 ⟨h.F,upd (zge h.M s) b (some c),max h.nx (b+1)⟩
def app (e:TypeId) (sz bytes:Nat) (s x:Value) (K:zae) (h:Hp):Prop :=
 ∃ n cs m news,yp1 h e sz s n cs∧zkf h sz x m news∧(∀ c∈news,c.oneCell'=true)∧(n+m)*bytes≤140737488355328∧n+m≤maxLen ∧
  (s=.slice none 0 0 -> m=0 -> K (.slice none 0 0) h) ∧
  (s≠.slice none 0 0∨m≠0 -> ∀ b c,(h.nx≤b∨s.ownBlock=some b) -> n+m≤c -> c≤maxLen -> K (.slice (some ⟨b,0,none⟩) (n+m) c) (h.moved s b (.cells e (cs++news) (c*sz))))
def cpy (sz:Nat) (d s:Value) (K:zae) (h:Hp):Prop :=
 ∃ b o dn dc e cs tot m news,d=.slice (some ⟨b,o,none⟩) dn dc∧h.M b=some (.cells e cs tot)∧zkf h sz s m news∧(∀ c∈news.take (min m dn*sz),c.oneCell'=true) ∧
  o+(min m dn)*sz≤cs.length∧K (.int .i64 (min m dn:Nat)) (h.set b (.cells e (zb3 cs o (news.take (min m dn*sz))) tot))
def mks (e:TypeId) (z:List Value) (sz bytes:Nat) (l c:Value) (K:zae) (h:Hp):Prop :=
 ∃ kl n kc m,l=.int kl (n:Nat)∧c=.int kc (m:Nat)∧n≤m∧m*bytes≤140737488355328∧m≤maxLen ∧
  ∀ b,h.nx≤b -> K (.slice (some ⟨b,0,none⟩) n m) (h.new b (.cells e (List.replicate n z).flatten (m*sz)))
def bth (A B:Hp -> Prop) (h:Hp):Prop:=A h∧B h
def mkm (K:zae) (h:Hp):Prop:=∀ b,h.nx≤b -> K (.map (some b)) (h.new b (.obj (.map #[] 0)))
def lkp (P:Program) (t:TypeId) (x ix:Value) (ok:Bool) (K:zae) (h:Hp):Prop :=
 ∃ b es clock v,x=.map (some b)∧h.M b=some (.obj (.map es clock))∧(∀ w:World,w.heap[b]?=some (.map es clock) -> (Instr.lookup t x ix ok).run P w=.ok v w)∧K v h
def mup (P:Program) (t:TypeId) (m k x:Value) (K:zae) (h:Hp):Prop :=
 ∃ b es clock es' clock',m=.map (some b)∧h.M b=some (.obj (.map es clock)) ∧
  (∀ w:World,w.heap[b]?=some (.map es clock) -> (Instr.mapUpdate t m k x).run P w=.ok () { w with heap:=w.heap.setIfInBounds b (.map es' clock') })∧K undef (h.set b (.obj (.map es' clock')))
def bsV (h:Hp) (x v:Value):Prop:=∃ (m:Nat) (ns:List Int),zkf h 1 x m (ns.map (λn=>.int .u8 n))∧v=.string ⟨(ns.map (λn=>UInt8.ofNat (Int.toNat n))).toArray⟩
def bs (x:Value) (K:zae) (h:Hp):Prop:=∃ v,bsV h x v∧K v h
def ym3 (e:TypeId) (sz:Nat) (s x:Value) (K:zae) (h:Hp):Prop :=
 ∃ b n c cs m news,s=.slice (some ⟨b,0,none⟩) n c∧h.M b=some (.cells e cs (c*sz))∧zkf h sz x m news∧(∀ c∈news,c.oneCell'=true)∧n+m≤c∧(n+m)*sz≤cs.length ∧
  K (.slice (some ⟨b,0,none⟩) (n+m) c) (h.set b (.cells e (zb3 cs (n*sz) news) (c*sz)))
def zpj (e:TypeId) (z:List Value) (sz bytes:Nat) (s x:Value) (K:zae) (h:Hp):Prop :=
 ∃ (a:Option Addr) (n c:Nat) (olds:List Value) (m:Nat) (k:IntKind),s=.slice a n c∧x=.int k (m:Nat)∧zkf h sz s n olds∧n≤c∧c<n+m∧(n+m)*bytes≤140737488355328∧n+m≤maxLen ∧
  ∀ b' c',h.nx≤b' -> n+m≤c' -> c'≤maxLen -> K (.slice (some ⟨b',0,none⟩) (n+m) c') (h.new b' (.cells e (olds++(List.replicate m z).flatten) (c'*sz)))
def zdl (e:TypeId) (sz bytes:Nat) (s x:Value) (K:zae) (h:Hp):Prop:=app e sz bytes s x K h∨ym3 e sz s x K h
def clr (e:TypeId) (z:List Value) (sz:Nat) (x:Value) (K:zae) (h:Hp):Prop :=
 (∃ a c,x=.slice a 0 c∧K (.tuple #[]) h) ∨
 ∃ b o n c e' cs tot,x=.slice (some ⟨b,o,none⟩) n c∧0<n∧h.M b=some (.cells e' cs tot)∧(∀ c∈z,c.oneCell'=true)∧o+n*sz≤cs.length ∧
  K (.tuple #[]) (h.set b (.cells e' (zb3 cs o (List.replicate n z).flatten) tot))
def zjv:Value -> Option Value
 | .slice _ _ n=>some (.int .i64 n)
 | _=>none
def Hp.frz (h:Hp) (b:Nat) (cs:List Value):Hp:=⟨upd h.F b (some cs),upd h.M b none,h.nx⟩
def mk (x:Value) (K:zae) (h:Hp):Prop:=∃ b n c e cs tot,x=.slice (some ⟨b,0,none⟩) n c∧h.M b=some (.cells e cs tot)∧K x (h.frz b cs)
def sb (s:Value) (K:zae) (h:Hp):Prop:=∃ t,s=.string t∧∀ b c,h.nx≤b -> t.size≤c -> K (.slice (some ⟨b,0,none⟩) t.size c) ⟨upd h.F b (some (t.data.toList.map λx=>.int .u8 x.toNat)),h.M,b+1⟩
def zcu:Hp:=⟨λ_=>some [],λ_=>none,0⟩
def call (P:Program) (f:FuncId) (args:Array Value) (K:zae) (E:List PanicEntry -> Hp -> Prop) (h:Hp):Prop :=
 ∀ w0 w,(E [] zcu -> w0.drawn=0) -> Rep w0 h w -> Calls P f args w λe w'=>∃ h',Rep w0 h' w'∧match e with
  | .returned v=>K v h'
  | .panicked c=>E c h'
  | .outgrown=>False
def yr4 (P:Program) (f:FuncId) (args:Array Value) (K:zae) (h:Hp):Prop :=
 ∀ w0 w,Rep w0 h w -> ∃ v w' h',(callFunc f args).run P w=.ok (.value v) w'∧Rep w0 h' w'∧K v h'
def zbs (P:Program) (f:Value) (args:Array Value) (K:zae) (E:List PanicEntry -> Hp -> Prop) (h:Hp):Prop :=
 match f with
 | .func (.func f) first captured=>((((P.funcs[f]?).map λfn=>fn.name != "runtime.NumGoroutine" && fn.body.isSome).getD false)=true∧call P f (zcp (zcp first args) captured) K E h)∨yr4 P f (zcp (zcp first args) captured) K h
 | _=>False
def isB (v:Value) (want:Bool):Bool:=match v with
 | .bool b=>b == want
 | _=>false
def gdK (v:Value) (want:Bool) (A:zae -> Hp -> Prop) (K:zae) (h:Hp):Prop :=
 if isB v want=true then A K h else K undef h
def cnd (v:Value) (A B:Hp -> Prop) (h:Hp):Prop:=∃ t,v=.bool t∧(if t=true then A h else B h)
abbrev zb2:=List PanicEntry -> Hp -> Prop
abbrev QD:=Exit -> Env -> Hp -> Prop
def zmv (P:Program) (t:TypeId):Option Bool:=(P.underlying t).map λd=>match d with | .struct _ | .array _ _=>true | _=>false
def eqk (P:Program) (t:TypeId):EqK:=match P.underlying t with
 | some .bool=>.bool
 | some (.pointer _)=>.ptr
 | some (.slice _)=>.slc
 | some (.map ..)=>.map
 | some (.func ..)=>.fn
 | _=>.none
def zr1 (P:Program) (t:TypeId):Option Nat:=match P.underlying t with
 | some (.int _)=>some 0
 | some .bool=>some 1
 | some .string=>some 2
 | _=>none
def yf7 (P:Program) (t:TypeId):Option (List Nat):=match P.underlying t with
 | some (.struct fs)=>if !P.stoodInHeld t && !P.eqGuardType P.depth t&&(fs.toList.zipIdx.all λ(f,i)=>f.name != "_" && f.offset == i) then fs.toList.mapM (λf=>zr1 P f.type) else none
 | _=>none
def zkb (P:Program) (t:TypeId):Option (Array Value):=((P.info? t).bind (·.zero)).map (·.cells)
def bdC (zero:Array Value) (places:List (Nat×Nat)) (parts:Array (Nat×Value)):Option Value:=(Instr.fill (λi=>places[i]?) zero parts.toList).map .agg
def zli (P:Program) (fs:List Field):Option (List (Nat×Nat)):=fs.mapM λf=>(P.info? f.type).map λi=>(f.offset,i.size)
def bsC (zero:Array Value) (sz len:Nat) (parts:Array (Nat×Value)):Option (Array Value):=Instr.fill (λi=>some (i*sz,sz)) ((Array.range (len*sz)).map (zero[· % zero.size]!)) parts.toList
def bsA (zero:Array Value) (sz:Nat) (parts:Array (Nat×Value)):Option Value:=(Instr.fill (λi=>some (i*sz,sz)) zero parts.toList).map .agg
def zx5 (op:BinOp) (n:List Nat) (x y:Value):Option Value:=match x,y with
 | .agg xs,.agg ys=>match op with | .eql=>(zlb n xs.toList ys.toList).map .bool | .neq=>(zlb n xs.toList ys.toList).map λb=>.bool !b | _=>none
 | _,_=>none
def yl1 (P:Program) (t:TypeId) (y:Operand):Bool:=match y,P.underlying t with
 | .const .nilIface,some (.interface _)=>true
 | _,_=>false
section
variable (P:Program) (env:Env)
def opD (o:Oper) (K:zae) (E:zb2) (h:Hp):Prop :=
 match o.op with
 | .move x | .assign x=>K (ev env x) h
 | .pick c a b=>pv (zad (ev env c) (ev env a) (ev env b)) K h
 | .alloc t=>match zkb P t with
  | some z=>nw t z.toList K h
  | none=>False
 | .box t x=>nw t (ev env x).cells.toList K h
 | .build t parts=>match P.underlying t,zkb P t with
  | some (.struct fs),some z=>match zli P fs.toList with
   | some pl=>pv (bdC z pl (zkw (λp=>(p.1,ev env p.2)) parts)) K h
   | none=>False
  | some (.array _ e),some z=>match P.info? e with
   | some i=>pv ((bsA z i.size (zkw (λp=>(p.1,ev env p.2)) parts))) K h
   | none=>False
  | _,_=>False
 | .buildSlice t len parts=>match P.underlying t with
  | some (.slice e)=>match P.info? e,zkb P e with
   | some i,some z=>if len*i.size≤2 ^ 24 then nws e len (bsC z i.size len (zkw (λp=>(p.1,ev env p.2)) parts)) K h else False
   | _,_=>False
  | _=>False
 | .load t x=>match zmv P t,P.info? t with
  | some g,some i=>ld g i.size (ev env x) K h
  | _,_=>False
 | .store t a x=>match P.info? t with
  | some i=>st i.size (ev env a) (ev env x) K h
  | none=>False
 | .nilCheck x=>pv (zai (ev env x)) K h
 | .binOp op t x y _=>if yl1 P t y=true then pv (zo2 op (ev env x)) K h else match yf7 P t with
  | some n=>pv (zx5 op n (ev env x) (ev env y)) K h
  | none=>pv (za2 (eqk P t) op (ev env x) (ev env y)) K h
 | .typeAssert x _ t true=>match P.underlying t,(P.info? t).bind (·.zero) with
  | some (.interface _),_=>False
  | some _,some z=>pv (taV t z (ev env x)) K h
  | _,_=>False
 | .unOp op _ x=>pv (unV op (ev env x)) K h
 | .convert src dst x=>match P.underlying src,P.underlying dst with
  | some (.int _),some (.int k)=>pv (cvV k (ev env x)) K h
  | some .string,some .string=>match ev env x with
   | .string s=>K (.string s) h
   | _=>False
  | some (.slice e),some .string=>match P.underlying e with
   | some (.int .u8)=>bs (ev env x) K h
   | _=>False
  | some (.slice e),some (.slice e')=>match P.underlying e' with
   | some (.int .u8)=>if src=dst then mk (ev env x) K h else False
   | _=>False
  | some .string,some (.slice e)=>match P.underlying e with
   | some (.int .u8)=>sb (ev env x) K h
   | _=>False
  | _,_=>False
 | .makeInterface t x=>match P.underlying t with
  | some (.interface _)=>False
  | some _=>pv (znt t (ev env x)) K h
  | none=>False
 | .makeFunc fn first captured=>K (.func fn (zkw (ev env) first) (zkw (ev env) captured)) h
 | .makeMap _ none=>mkm K h
 | .lookup t x ix ok=>lkp P t (ev env x) (ev env ix) ok K h
 | .mapUpdate t m k x=>mup P t (ev env m) (ev env k) (ev env x) K h
 | .makeSlice t l c=>match P.underlying t with
  | some (.slice e)=>match P.info? e,zkb P e with
   | some i,some z=>if z.size=i.size∧0<i.size then mks e z.toList i.size i.bytes (ev env l) (ev env c) K h else False
   | _,_=>False
  | _=>False
 | .slice t x lo hi mx=>match P.underlying t with
  | some (.slice e)=>match P.info? e with
   | some i=>pv (slV i.size (ev env x) (lo.map (ev env)) (hi.map (ev env)) (mx.map (ev env))) K h
   | none=>False
  | some .string=>pv (slT (ev env x) (lo.map (ev env)) (hi.map (ev env)) (mx.map (ev env))) K h
  | some (.array n e)=>match P.info? e,mx with
   | some i,none=>pv (slV i.size (yfa n (ev env x)) (lo.map (ev env)) (hi.map (ev env)) none) K h
   | _,_=>False
  | _=>False
 | .fieldAddr s x f=>match P.underlying s with
  | some (.struct fs)=>match fs[f]? with
   | some fd=>match P.info? fd.type with
    | some i=>if i.size=0 then False else pv (faV fd.offset (ev env x)) K h
    | none=>False
   | none=>False
  | _=>False
 | .field t x f=>match P.underlying t with
  | some (.struct fs)=>match fs[f]? with
   | some fd=>match zmv P fd.type,P.info? fd.type with
    | some g,some i=>pv (fdV g fd.offset i.size (ev env x)) K h
    | _,_=>False
   | none=>False
  | _=>False
 | .indexAddr t x ix=>match P.underlying t with
  | some (.slice e)=>match P.info? e with
   | some i=>pv (iaV none i.size (ev env x) (ev env ix)) K h
   | none=>False
  | some (.array n e)=>match P.info? e with
   | some i=>pv (iaV (some n) i.size (ev env x) (ev env ix)) K h
   | none=>False
  | _=>False
 | .index t x ix=>match P.underlying t with
  | some .string=>pv (ixV (ev env x) (ev env ix)) K h
  | _=>False
 | .extract t i=>pv (exV i (ev env t)) K h
 | .panic x=>match ev env x with
  | .iface t v=>E [{ v:=.iface t v,recovered:=false }] h
  | _=>False
 | .call c=>match c.callee with
  | .value (.func f)=>zbs P (.func (.func f) #[] #[]) (zkw (ev env) c.args) K E h
  | .value x=>zbs P (ev env x) (zkw (ev env) c.args) K E h
  | .invoke _ _=>False
  | .builtin b=>match b,c.argTypes.toList,(zkw (ev env) c.args).toList with
   | .len,[t],[x]=>(match P.underlying t with
    | some (.slice _)=>pv (zab x) K h
    | some .string=>pv (ylb x) K h
    | _=>False)
   | .append,[t,u],[s,x]=>(match P.underlying t with
    | some (.slice e)=>(match P.info? e,zkb P e with
     | some i,some z=>if z.size=i.size∧0<i.size then (if t=u then zdl e i.size i.bytes s x K h else match P.underlying u with
      | some (.int _)=>zpj e z.toList i.size i.bytes s x K h
      | some (.slice _)=>zdl e i.size i.bytes s x K h
      | _=>False) else False
     | _,_=>False)
    | _=>False)
   | .copy,[t,u],[d,s]=>(match P.underlying t with
    | some (.slice e)=>(match P.info? e with
     | some i=>cpy i.size d s K h
     | none=>False)
    | _=>False)
   | .clear,[t],[x]=>(match P.underlying t with
    | some (.slice e)=>(match P.info? e,zkb P e with
     | some i,some z=>if z.size=i.size∧0<i.size then clr e z.toList i.size x K h else False
     | _,_=>False)
    | _=>False)
   | .cap,[t],[x]=>(match P.underlying t with
    | some (.slice _)=>pv (zjv x) K h
    | _=>False)
   | .min,_,[x,y]=>pv (mm false x y) K h
   | .max,_,[x,y]=>pv (mm true x y) K h
   | _,_,_=>False
 | _=>False
def keepD (o:Oper) (v:Value) (h:Hp):Prop :=
 match o.op with
 | .load t x=>match zmv P t,P.info? t with
  | some g,some i=>ldV h g i.size (ev env x) v
  | _,_=>False
 | .convert src dst x=>match P.underlying src,P.underlying dst with
  | some (.slice _),some .string=>bsV h (ev env x) v
  | _,_=>True
 | _=>True
end
def zzt:Op -> Bool
 | .move _ | .assign _ | .pick .. | .build .. | .load .. | .nilCheck _ | .binOp .. | .unOp .. | .makeInterface .. | .makeFunc .. | .slice .. | .fieldAddr .. | .field .. | .indexAddr .. | .index .. | .extract .. => true
 | .call { callee:=.builtin .len,.. } | .call { callee:=.builtin .cap,.. } | .call { callee:=.builtin .min,.. } | .call { callee:=.builtin .max,.. }=>true
 | _=>false
def zpi (P:Program) (o:Op):Bool:=zzt o||match o with
 | .convert src dst _=>(match P.underlying src,P.underlying dst with | some (.int _),some (.int _) | some .string,some .string | some (.slice _),some .string=>true | _,_=>false)
 | _=>false
def gv (ops:Array Oper) (env:Env) (j:Nat):Value:=match ((ops[j]?).bind (·.dst)).bind (env[·]?) with
 | some v=>v
 | none=>.tuple #[]
def opG (P:Program) (ops:Array Oper) (env:Env) (o:Oper) (K:zae) (E:zb2):Hp -> Prop :=
 match o.guard with
 | none=>opD P env o K E
 | some (j,want)=>gdK (gv ops env j) want (λK=>opD P env o K E) K
def zjf (P:Program) (ops:Array Oper) (Q:QD):List Oper -> Env -> Hp -> Prop
 | [],env=>Q .normal env
 | o::r,env=>opG P ops env o (λv=>zjf P ops Q r (zeu env o.dst v)) (λc=>Q (.panic c) env)
inductive zlh | fin | take (i:Nat) (p:zlh) | exec (i:Nat) (p:zlh) | two (i:Nat) (p:zlh) (j:Nat) (q:zlh)
def yf9 (P:Program) (ops:Array Oper) (listed:Array Bool) (i:Nat):Bool:=(match ops[i]? with | some o=>zpi P o.op | none=>false)&&Region.free .any ops listed i
def zh3 (P:Program) (ops:Array Oper):Nat -> Array Bool -> Option zlh
 | 0,listed=>if Region.ready .any ops listed=[] then some .fin else none
 | n+1,listed=>match Region.ready .any ops listed with
  | []=>some .fin
  | rs=>match rs.find? (yf9 P ops listed) with
   | some i=>(zh3 P ops n (listed.setIfInBounds i true)).map (zlh.take i)
   | none=>match rs with
    | [i]=>(zh3 P ops n (listed.setIfInBounds i true)).map (zlh.exec i)
    | [i,j]=>match zh3 P ops n (listed.setIfInBounds i true),zh3 P ops n (listed.setIfInBounds j true) with
     | some p,some q=>some (zlh.two i p j q)
     | _,_=>none
    | _=>none
abbrev TK:=List (Nat×(Hp -> Prop))
def zh0 (ops:Array Oper) (T:TK) (j:Nat):TK:=T.filter λp=>!zr7 ops p.1 j
def ztd:TK -> Hp -> Prop -> Prop
 | [],_,X=>X
 | p::r,h,X=>p.2 h∧ztd r h X
def zlc (P:Program):Op -> Bool
 | .load .. => true
 | .convert src dst _=>(match P.underlying src,P.underlying dst with | some (.slice _),some .string=>true | _,_=>false)
 | _=>false
def zox (P:Program) (ops:Array Oper) (env:Env) (o:Oper) (v:Value) (h:Hp):Prop :=
 match o.guard with
 | none=>keepD P env o v h
 | some (j,want)=>isB (gv ops env j) want=true -> keepD P env o v h
def zf7 (P:Program) (ops:Array Oper) (Q:QD):zlh -> TK -> Env -> Hp -> Prop
 | .fin,_,env=>Q .normal env
 | .take i r,T,env=>match ops[i]? with
  | some o=>opG P ops env o (λv=>zf7 P ops Q r (if zlc P o.op then (i,zox P ops env o v)::T else T) (zeu env o.dst v)) (λc=>Q (.panic c) env)
  | none=>λ_=>False
 | .exec i r,T,env=>match ops[i]? with
  | some o=>opG P ops env o (λv h=>ztd (zh0 ops T i) h (zf7 P ops Q r (zh0 ops T i) (zeu env o.dst v) h)) (λc=>Q (.panic c) env)
  | none=>λ_=>False
 | .two i p j q,T,env=>bth
  (match ops[i]? with
   | some o=>opG P ops env o (λv h=>ztd (zh0 ops T i) h (zf7 P ops Q p (zh0 ops T i) (zeu env o.dst v) h)) (λc=>Q (.panic c) env)
   | none=>λ_=>False)
  (match ops[j]? with
   | some o=>opG P ops env o (λv h=>ztd (zh0 ops T j) h (zf7 P ops Q q (zh0 ops T j) (zeu env o.dst v) h)) (λc=>Q (.panic c) env)
   | none=>λ_=>False)
def za6 (K:Env -> Hp -> Prop) (Q:QD):QD
 | .normal=>K
 | e=>Q e
def blk (id:Nat) (Q:QD):QD
 | .exit i=>if i=id then Q .normal else Q (.exit i)
 | e=>Q e
def scp (Q:QD):QD
 | .goto _=>λ_ _=>False
 | e=>Q e
def lpn (B:(Env -> Hp -> Prop) -> Env -> Hp -> Prop):Nat -> Env -> Hp -> Prop
 | 0=>λ_ _=>False
 | n+1=>λenv h=>h.wf -> ∃ h',h.wk h'∧(h'.wf -> B (lpn B n) env h')
def lp (B:(Env -> Hp -> Prop) -> Env -> Hp -> Prop) (env:Env) (h:Hp):Prop:=∃ n,lpn B n env h
def den (P:Program):Code -> QD -> Env -> Hp -> Prop
 | .skip,Q=>Q .normal
 | .label _,Q=>Q .normal
 | .region _ ops draw,Q=>if draw then
   (match zh3 P ops ops.size (Array.replicate ops.size false) with
    | some l=>if Region.noSelect ops then zf7 P ops Q l [] else λ_ _=>False
    | none=>λ_ _=>False)
  else zjf P ops Q ops.toList
 | .seq a b,Q=>den P a (za6 (den P b Q) Q)
 | .cond c a b,Q=>λenv=>cnd (ev env c) (den P a Q env) (den P b Q env)
 | .block id c,Q=>den P c (blk id Q)
 | .loop c,Q=>lp (λK=>den P c (za6 K Q))
 | .exit id,Q=>Q (.exit id)
 | .scope c,Q=>den P c (scp Q)
 | .ret,Q=>Q .ret
 | _,_=>λ_ _=>False
theorem zib (env:Env) (d:Option Tmp) (v:Value) {ds:List Deferred}:(Act.mk env ds).put d v=⟨zeu env d v,ds⟩:=by cases d<;>rfl
theorem zba {P:Program} {t:TypeId} {i:TypeInfo} (h:P.info? t=some i) (w:World):(sizeOf t).run P w=.ok i.size w:=by simp [sizeOf,typeInfo,h]
theorem zoa {P:Program} {t:TypeId} {g:Bool} (h:zmv P t=some g) (w:World):(isAgg t).run P w=.ok g w:=by
 unfold zmv at h;cases hu:P.underlying t with
 | none=>simp [hu] at h
 | some d=>
  simp only [hu,Option.map_some,Option.some.injEq] at h;simp only [isAgg,Sem.run_bind,run_underlying hu,Result.andThen_ok];cases d<;>simp_all
theorem zqh {P:Program} {w0 w:World} {h:Hp} (r:Rep w0 h w) {t:TypeId} {g:Bool} {i:TypeInfo} (hg:zmv P t=some g) (hi:P.info? t=some i) {p v:Value} (hv:ldV h g i.size p v) :
  (Instr.loadAt t p).run P w=.ok v w:=by
 unfold ldV at hv
 split at hv
 case h_2=>cases hv
 rename_i b o
 simp only [Instr.loadAt,Instr.sureAddr,Sem.run_bind,Sem.run_pure,Result.andThen_ok,loadVar,zoa hg];obtain ⟨cs,hr,hv⟩:=hv;cases g with
 | false=>
  simp only [Bool.false_eq_true,if_false] at hv ⊢;have := r.cell hr hv
  simp [this]
 | true=>
  simp only [if_true] at hv ⊢;obtain ⟨hl,rfl⟩:=hv;simp only [Sem.run_bind,zba hi,Result.andThen_ok]
  have := run_loadCells_list (P:=P) w ⟨b,o,none⟩ ((cs.drop o).take i.size) (λj u hu=>by
   rw [Addr.add_plain];refine r.cell hr ?_;rw [List.getElem?_take] at hu
   split at hu
   ·rwa [List.getElem?_drop] at hu
   ·cases hu)
  have hlen:((cs.drop o).take i.size).length=i.size:=by simp; omega
  rw [hlen] at this;rw [this]
  rfl
theorem zzi {P:Program} {s:TypeId} {fs:Array Field} {f:Nat} {fd:Field} {i:TypeInfo} (hs:P.underlying s=some (.struct fs)) (hf:fs[f]?=some fd) (hi:P.info? fd.type=some i) (hz:i.size≠0) {p v:Value}
  (hv:faV fd.offset p=some v) (w:World):(Instr.fieldAt s p f).run P w=.ok v w:=by
 unfold faV at hv
 split at hv
 ·cases hv
  simp [Instr.fieldAt,run_underlying hs,hf,Instr.sureAddr,fieldPlace,zba hi,hz,Addr.add_plain]
 ·cases hv
theorem ylp {P:Program} {t:TypeId} {g:Bool} {i:TypeInfo} (hg:zmv P t=some g) (hi:P.info? t=some i) {off:Nat} {cs:Array Value} {v:Value} (hv:fdV g off i.size (.agg cs)=some v) (w:World) :
  (part t cs off).run P w=.ok v w:=by
 simp only [part,Sem.run_bind,zoa hg,Result.andThen_ok];unfold fdV at hv;cases g with
 | true=>
  simp only [if_true,Option.some.injEq] at hv;subst hv
  simp [zba hi]
 | false=>
  simp only [Bool.false_eq_true,if_false] at hv ⊢;rw [hv]; rfl
theorem zq9 {P:Program} {t e:TypeId} {i:TypeInfo} (ht:P.underlying t=some (.slice e)) (hi:P.info? e=some i) {x ix v:Value} (hv:iaV none i.size x ix=some v) (w:World) :
  (Instr.indexAt t x ix).run P w=.ok v w:=by
 unfold iaV at hv
 split at hv
 ·rename_i b o n c k q
  split at hv
  ·rename_i hc
   cases hv
   simp [Instr.indexAt,run_underlying ht,asIntOf,zba hi,hc.2.1,hc.2.2,Addr.add_plain]
  ·cases hv
 ·cases hv
 ·cases hv
theorem zpo {P:Program} {t e:TypeId} {n:Nat} {i:TypeInfo} (ht:P.underlying t=some (.array n e)) (hi:P.info? e=some i) {x ix v:Value} (hv:iaV (some n) i.size x ix=some v) (w:World) :
  (Instr.indexAt t x ix).run P w=.ok v w:=by
 unfold iaV at hv
 split at hv
 ·simp at hv
 ·rename_i b o k q
  simp only at hv
  split at hv
  ·rename_i hc
   cases hv
   simp [Instr.indexAt,run_underlying ht,asIntOf,Instr.sureAddr,zba hi,hc.1,hc.2,Addr.add_plain]
  ·cases hv
 ·cases hv
theorem zrh {P:Program} {t:TypeId} (ht:P.underlying t=some .string) {x ix v:Value} (hv:ixV x ix=some v) (w:World):(Instr.index t x ix).run P w=.ok v w:=by
 unfold ixV at hv
 split at hv
 ·rename_i s k q
  split at hv
  ·rename_i hc
   obtain ⟨b,hb,rfl⟩:=Option.map_eq_some_iff.1 hv
   simp [Instr.index,asIntOf,run_underlying ht,hc,hb]
  ·cases hv
 ·cases hv
theorem zc1 {P:Program} (w:World) {v:Value} {n:Int} (hn:zz5 v=some n) {y:Nat} (code:BoundsCode) (h0:0≤n) (h1:n≤y):(Instr.sliceBound v y code).run P w=.ok n.toNat w:=by
 cases v<;>simp [zz5] at hn
 subst hn
 simp [Instr.sliceBound,asIntOf,h0,h1]
theorem yep {P:Program} {t e:TypeId} {i:TypeInfo} (ht:P.underlying t=some (.slice e)) (hi:P.info? e=some i) {a:Option Addr} {len cap:Nat} {lo hi' mx:Option Value} {v:Value} (hv:slV i.size (.slice a len cap) lo hi' mx=some v) (w:World) :
  (Instr.sliceAt t (.slice a len cap) lo hi' mx).run P w=.ok v w:=by
 unfold slV at hv;simp only at hv
 split at hv
 case h_2=>cases hv
 rename_i m h l hm hh hl
 split at hv
 case isFalse=>cases hv
 rename_i hc
 cases hv;obtain ⟨h0,h1,h2,h3,h4⟩:=hc;obtain ⟨l',rfl⟩:∃ l':Nat,l=l':=⟨l.toNat,by omega⟩;obtain ⟨h',rfl⟩:∃ h':Nat,h=h':=⟨h.toNat,by omega⟩;obtain ⟨m',rfl⟩:∃ m':Nat,m=m':=⟨m.toNat,by omega⟩;have e1:((h':Int) - (l':Int)).toNat=h' - l':=by omega
 have e2:((m':Int) - (l':Int)).toNat=m' - l':=by omega
 rw [e1,e2];simp only [Instr.sliceAt,Instr.slice,Sem.run_bind,run_underlying ht,Result.andThen_ok,Instr.sliceBounds];have fin:∀ (x y:Nat),(((x:Int)=(y:Int))↔x=y):=λx y=>by omega
 cases mx with
 | none=>
  simp [bnd] at hm
  have hm':cap=m':=by omega
  subst hm';cases hi' with
  | none=>
   simp [bnd] at hh
   have:len=h':=by omega
   subst this;cases lo with
   | none=>
    simp [bnd] at hl
    have:l'=0:=by omega
    subst this
    simp [zba hi]
   | some lv=>
    simp [bnd] at hl
    simp [zc1 (P:=P) w hl (y:=len) .sliceB h0 h1,zba hi]
    all_goals (split<;>split<;>first | rfl | (exfalso; omega))
  | some hv2=>
   simp [bnd] at hh
   have hhi:=zc1 (P:=P) w hh (y:=cap) .sliceAcap (by omega) (by omega);cases lo with
   | none=>
    simp [bnd] at hl
    have:l'=0:=by omega
    subst this
    simp [hhi,zba hi]
   | some lv=>
    simp [bnd] at hl
    simp [hhi,zc1 (P:=P) w hl (y:=h') .sliceB h0 h1,zba hi]
    all_goals (split<;>split<;>first | rfl | (exfalso; omega))
 | some mv=>
  simp [bnd] at hm
  have hmx:=zc1 (P:=P) w hm (y:=cap) .slice3Acap (by omega) (by omega);cases hi' with
  | none=>exact absurd (h4 rfl).1 (by simp)
  | some hv2=>
   simp [bnd] at hh
   have hhi:=zc1 (P:=P) w hh (y:=m') .slice3B (by omega) (by omega);cases lo with
   | none=>
    simp [bnd] at hl
    have:l'=0:=by omega
    subst this
    simp [hmx,hhi,zba hi]
   | some lv=>
    simp [bnd] at hl
    simp [hmx,hhi,zc1 (P:=P) w hl (y:=h') .slice3C h0 h1,zba hi]
    all_goals (split<;>split<;>first | rfl | (exfalso; omega))
theorem zw6 {P:Program} {t:TypeId} (ht:P.underlying t=some .string) {s:ByteArray} {lo hi' mx:Option Value} {v:Value} (hv:slT (.string s) lo hi' mx=some v) (w:World) :
  (Instr.sliceAt t (.string s) lo hi' mx).run P w=.ok v w:=by
 unfold slT at hv;simp only at hv
 split at hv
 case h_2=>cases hv
 rename_i h l hh hl
 split at hv
 case isFalse=>cases hv
 rename_i hc
 cases hv;obtain ⟨h0,h1,h2⟩:=hc;obtain ⟨l',rfl⟩:∃ l':Nat,l=l':=⟨l.toNat,by omega⟩;obtain ⟨h',rfl⟩:∃ h':Nat,h=h':=⟨h.toNat,by omega⟩;simp only [Instr.sliceAt,Instr.slice,Sem.run_bind,run_underlying ht,Result.andThen_ok,Instr.sliceBounds,Option.isSome_none,Bool.false_eq_true,if_false];cases hi' with
 | none=>
  simp [bnd] at hh
  have:s.size=h':=by omega
  subst this;cases lo with
  | none=>
   simp [bnd] at hl
   have:l'=0:=by omega
   subst this
   simp
  | some lv=>
   simp [bnd] at hl
   simp [zc1 (P:=P) w hl (y:=s.size) .sliceB h0 h1]
 | some hv2=>
  simp [bnd] at hh
  have hhi:=zc1 (P:=P) w hh (y:=s.size) .sliceAlen (by omega) (by omega);cases lo with
  | none=>
   simp [bnd] at hl
   have:l'=0:=by omega
   subst this
   simp [hhi]
  | some lv=>
   simp [bnd] at hl
   simp [hhi,zc1 (P:=P) w hl (y:=h') .sliceB h0 h1]
theorem zw2 {P:Program} {t e:TypeId} {n:Nat} {i:TypeInfo} (ht:P.underlying t=some (.array n e)) (hi:P.info? e=some i) {a:Addr} {lo hi':Option Value} {v:Value} (hv:slV i.size (.slice (some a) n n) lo hi' none=some v) (w:World) :
  (Instr.sliceAt t (.pointer (some a)) lo hi' none).run P w=.ok v w:=by
 unfold slV at hv;simp only at hv
 split at hv
 case h_2=>cases hv
 rename_i m h l hm hh hl
 split at hv
 case isFalse=>cases hv
 rename_i hc
 cases hv;obtain ⟨h0,h1,h2,h3,h4⟩:=hc;obtain ⟨l',rfl⟩:∃ l':Nat,l=l':=⟨l.toNat,by omega⟩;obtain ⟨h',rfl⟩:∃ h':Nat,h=h':=⟨h.toNat,by omega⟩;obtain ⟨m',rfl⟩:∃ m':Nat,m=m':=⟨m.toNat,by omega⟩;have e1:((h':Int) - (l':Int)).toNat=h' - l':=by omega
 have e2:((m':Int) - (l':Int)).toNat=m' - l':=by omega
 rw [e1,e2]
 simp [bnd] at hm
 have hm':n=m':=by omega
 subst hm';simp only [Instr.sliceAt,Instr.sureAddr,Sem.run_bind,run_underlying ht,Result.andThen_ok,Instr.sliceBounds];cases hi' with
 | none=>
  simp [bnd] at hh
  have:n=h':=by omega
  subst this;cases lo with
  | none=>
   simp [bnd] at hl
   have:l'=0:=by omega
   subst this
   simp [zba hi]
   all_goals (split<;>rfl)
  | some lv=>
   simp [bnd] at hl
   simp [zc1 (P:=P) w hl (y:=n) .sliceB h0 h1,zba hi]
   all_goals (split<;>split<;>first | rfl | (exfalso; omega))
 | some hv2=>
  simp [bnd] at hh
  have hhi:=zc1 (P:=P) w hh (y:=n) .sliceAlen (by omega) (by omega);cases lo with
  | none=>
   simp [bnd] at hl
   have:l'=0:=by omega
   subst this
   simp [hhi,zba hi]
   all_goals (split<;>rfl)
  | some lv=>
   simp [bnd] at hl
   simp [hhi,zc1 (P:=P) w hl (y:=h') .sliceB h0 (by omega),zba hi]
   all_goals (split<;>split<;>first | rfl | (exfalso; omega))
theorem yl9 {P:Program} {op:BinOp} {t:TypeId} {k:IntKind} {a b:Int} {v:Value} (hv:zfa op k a b=some v) (w:World):(binOp op t (.int k a) (.int k b)).run P w=.ok v w:=by
 cases op<;>simp [zfa] at hv
 case quo=>obtain ⟨h0,rfl⟩:=hv; simp [binOp,Op.intDiv,h0]
 case rem=>obtain ⟨h0,rfl⟩:=hv; simp [binOp,Op.intDiv,h0]
 all_goals (subst hv; first | (simp [binOp,Op.intArith]; done) | (simp [binOp,Op.intBits]; done) | (simp [binOp,Op.intCmp]; done))
theorem ztm {P:Program} {op:BinOp} {t:TypeId} {k k':IntKind} {a b:Int} {v:Value} (hv:zgf op k a b=some v) (w:World):(binOp op t (.int k a) (.int k' b)).run P w=.ok v w:=by
 unfold zgf at hv
 split at hv
 ·cases hv
 ·rename_i hb
  cases op<;>simp at hv
  all_goals (subst hv; simp [binOp,Op.shift,hb])
theorem yj6 {P:Program} {op:BinOp} {t:TypeId} {a b:ByteArray} {v:Value} (hv:zvy op a b=some v) (w:World):(binOp op t (.string a) (.string b)).run P w=.ok v w:=by
 cases op<;>simp only [zvy] at hv
 case add=>
  split at hv
  ·cases hv
  ·rename_i h
   cases hv;simp only [binOp,Op.stringOp,if_neg h]
   rfl
 all_goals first | (cases hv; done) | (simp only [Option.some.injEq] at hv; subst hv; rfl)
theorem yih {P:Program} (d:Nat) {t:TypeId} {x y:Value} {b:Bool} (hv:eqV (eqk P t) x y=some b) (w:World):(Op.equalIn (d+1) t x y).run P w=.ok b w:=by
 unfold eqk at hv;cases hu:P.underlying t with
 | none=>rw [hu] at hv; unfold eqV at hv; simp at hv; split at hv<;>cases hv
 | some de=>
  rw [hu] at hv;have hr:=λw=>run_underlying (P:=P) hu w;unfold eqV at hv;unfold Op.equalIn;simp only [Sem.run_bind,hr,Result.andThen_ok];cases de<;>simp only at hv
  all_goals (split at hv<;>first | (cases hv; done) | (simp only [Option.some.injEq] at hv; subst hv; simp))
theorem ycq {P:Program} {t:TypeId} {x y:Value} {b:Bool} (hv:eqV (eqk P t) x y=some b) (w:World):(Op.equal t x y).run P w=.ok b w:=yih 9999 hv w
theorem yjk {P:Program} {op:BinOp} {t:TypeId} {x y v:Value} (hf:True) (hv:za2 (eqk P t) op x y=some v) (w:World):(binOp op t x y).run P w=.ok v w:=by
 have gen:∀ x y,(∀ k a k' b,x=.int k a -> y=.int k' b -> False) -> (∀ a b,x=.string a -> y=.string b -> False) ->
   (match op with | .eql=>(eqV (eqk P t) x y).map .bool | .neq=>(eqV (eqk P t) x y).map λb=>.bool !b | _=>none)=some v -> (binOp op t x y).run P w=.ok v w:=by
  intro x y h1 h2 hv;cases op<;>simp only at hv
  case eql=>
   obtain ⟨b,hb,rfl⟩:=Option.map_eq_some_iff.1 hv;have := ycq hb w;unfold binOp;cases x<;>cases y<;>first | (simp [eqV] at hb; done) | (exact (h1 _ _ _ _ rfl rfl).elim) | (exact (h2 _ _ rfl rfl).elim) | (simp only [Sem.run_bind,this]; rfl) | (unfold eqV at hb; simp at hb; done)
  case neq=>
   obtain ⟨b,hb,rfl⟩:=Option.map_eq_some_iff.1 hv;have := ycq hb w;unfold binOp;cases x<;>cases y<;>first | (simp [eqV] at hb; done) | (exact (h1 _ _ _ _ rfl rfl).elim) | (exact (h2 _ _ rfl rfl).elim) | (simp only [Sem.run_bind,this]; rfl) | (unfold eqV at hb; simp at hb; done)
  all_goals cases hv
 unfold za2 at hv
 split at hv
 ·rename_i k a k' b
  split at hv
  ·exact ztm hv w
  ·exact ztm hv w
  ·split at hv
   ·rename_i hk; subst hk; exact yl9 hv w
   ·cases hv
 ·exact yj6 hv w
 ·rename_i h1 h2
  exact gen x y (λk a k' b e1 e2=>h1 k a k' b e1 e2) (λa b e1 e2=>h2 a b e1 e2) hv
theorem yfy {P:Program} {op:BinOp} {t:TypeId} {x y:Operand} {a b:Value} (h1:a≠.nilIface∨b≠.nilIface) (h2:(∀ xs ys,a=.agg xs -> b=.agg ys -> P.eqGuardType P.depth t=false)) (w:World) :
  (eqGuard op t x y a b).run P w=.ok () w:=by
 cases op<;>simp only [eqGuard,Bool.not_true,Bool.not_false,Bool.false_eq_true,if_true,if_false,Sem.run_pure]
 all_goals
  split
  ·rcases h1 with h | h<;>exact absurd rfl h
  ·have := h2 _ _ rfl rfl
   simp [this]
  ·rfl
theorem ygi {P:Program} {t:TypeId} {x y:Value} {op:BinOp} {v:Value} (hv:za2 (eqk P t) op x y=some v):(x≠.nilIface∨y≠.nilIface)∧(∀ xs ys,x=.agg xs -> y=.agg ys -> False):=by
 constructor
 ·by_cases h:x=.nilIface
  ·by_cases h':y=.nilIface
   ·subst h; subst h'; cases op<;>simp [za2,eqV] at hv
   ·exact Or.inr h'
  ·exact Or.inl h
 ·rintro xs ys rfl rfl;cases op<;>simp [za2,eqV] at hv
theorem zxs {P:Program} (d:Nat) {t:TypeId} {c:Nat} (hc:zr1 P t=some c) {a b:Value} {q:Bool} (hq:zv3 c a b=some q) (w:World):(Op.equalIn (d+1) t a b).run P w=.ok q w:=by
 unfold zr1 at hc
 split at hc
 ·rename_i k' hu
  cases hc;cases a<;>cases b<;>simp only [zv3,reduceCtorEq] at hq
  split at hq
  ·rename_i hk; subst hk; cases hq
   exact run_equalIn_int w d t _ _ _ _ hu
  ·cases hq
 ·rename_i hu
  cases hc;cases a<;>cases b<;>simp only [zv3,reduceCtorEq] at hq
  cases hq; exact run_equalIn_bool' w d t _ _ hu
 ·rename_i hu
  cases hc;cases a<;>cases b<;>simp only [zv3,reduceCtorEq] at hq
  cases hq; exact run_equalIn_string w d t _ _ hu
 ·cases hc
theorem yj8 {P:Program} {t:TypeId} {c:Nat} (hc:zr1 P t=some c):zmv P t=some false:=by
 unfold zr1 at hc;unfold zmv
 split at hc<;>simp_all
theorem zvk {P:Program} (d:Nat) (xs ys:Array Value) (w:World):∀ (fs:List Field) (cs:List Nat) (k:Nat) (q:Bool),(fs.zipIdx k).all (λ(f,i)=>f.name != "_" && f.offset == i)=true -> fs.mapM (λf=>zr1 P f.type)=some cs ->
  zlb cs (xs.toList.drop k) (ys.toList.drop k)=some q -> (Op.eqFields (d+1) xs ys fs).run P w=.ok q w
 | [],cs,k,q,_,hm,hq=>by
  simp at hm
  subst hm;unfold zlb at hq
  split at hq<;>simp_all [Op.eqFields]
 | f::fs,cs,k,q,ha,hm,hq=>by
  simp only [List.zipIdx_cons,List.all_cons,Bool.and_eq_true,bne_iff_ne,beq_iff_eq] at ha;obtain ⟨⟨hn,ho⟩,ha⟩:=ha;simp only [List.mapM_cons,Option.bind_eq_bind,Option.bind_eq_some_iff] at hm;obtain ⟨c,hc,cs',hcs,hm⟩:=hm;cases hm
  have hx:∀ (zs:Array Value) (z:Value) (r:List Value),zs.toList.drop k=z::r -> zs[k]?=some z∧zs.toList.drop (k+1)=r:=λzs z r h=>by
   have h1:zs.toList[k]?=some z:=by have := congrArg (·[0]?) h; simpa using this
   refine ⟨by simpa using h1,?_⟩;have := congrArg (List.drop 1) h
   simpa using this
  unfold zlb at hq
  split at hq
  ·rename_i heq _ _; cases heq
  ·rename_i c0 cs0 x xr y yr e1 e2 e3
   cases e1;obtain ⟨hx1,hx2⟩:=hx xs _ _ e2;obtain ⟨hy1,hy2⟩:=hx ys _ _ e3
   have pa:∀ (zs:Array Value) z,zs[k]?=some z -> (part f.type zs f.offset).run P w=.ok z w:=λzs z hz=>by
    simp only [part,Sem.run_bind,zoa (yj8 hc),Result.andThen_ok,Bool.false_eq_true,if_false,ho,hz]; rfl
   simp only [Op.eqFields,ne_eq,hn,not_false_eq_true,if_true,Sem.run_bind,pa xs _ hx1,pa ys _ hy1,Result.andThen_ok]
   split at hq
   ·rename_i hf
    rw [zxs d hc hf w];simp only [Result.andThen_ok,Bool.not_true,Bool.false_eq_true,if_false];exact zvk d xs ys w fs cs' (k+1) q ha hcs (by rw [hx2,hy2]; exact hq)
   ·rename_i hf
    cases hq;rw [zxs d hc hf w]
    simp
   ·cases hq
  ·cases hq
theorem yc6 {P:Program} {op:BinOp} {t:TypeId} {n:List Nat} (hf:yf7 P t=some n) {a b v:Value} (hv:zx5 op n a b=some v) (x y:Operand) (w:World) :
  (do eqGuard op t x y a b; binOp op t a b:Sem Value).run P w=.ok v w:=by
 unfold yf7 at hf
 split at hf
 case h_2=>cases hf
 rename_i fs hu
 split at hf
 case isFalse=>cases hf
 rename_i hall
 simp only [Bool.and_eq_true,Bool.not_eq_true'] at hall;obtain ⟨⟨hs,hg⟩,hz⟩:=hall;unfold zx5 at hv
 split at hv
 case h_2=>cases hv
 rename_i xs ys
 have hfo:P.fieldsOf t=fs:=by simp [Program.fieldsOf,hu]
 have hu':P.underlying t=some (.struct (P.fieldsOf t)):=by rw [hfo]; exact hu
 have heq:∀ q,zlb n xs.toList ys.toList=some q -> (Op.equalIn 10000 t (.agg xs) (.agg ys)).run P w=.ok q w:=λq hq=>by
  rw [run_equalIn_struct w 9999 t xs ys hu' hs,hfo];exact zvk 9998 xs ys w fs.toList n 0 q hz hf (by simpa using hq)
 simp only [Sem.run_bind,run_eqGuard_agg w op t x y xs ys hg,Result.andThen_ok];cases op<;>simp only at hv
 case eql=>
  obtain ⟨q,hq,rfl⟩:=Option.map_eq_some_iff.1 hv;rw [run_eql_struct,heq q hq]; rfl
 case neq=>
  obtain ⟨q,hq,rfl⟩:=Option.map_eq_some_iff.1 hv;rw [run_neq_struct,heq q hq]; rfl
 all_goals cases hv
theorem zrr {P:Program} {w:World}:∀ (fs:List Field) (pl:List (Nat×Nat)),zli P fs=some pl ->
  (fs.mapM (λf=>(do pure (f.offset,← sizeOf f.type):Sem (Nat×Nat)))).run P w=.ok pl w
 | [],pl,h=>by simp [zli] at h; subst h; simp
 | f::fs,pl,h=>by
  simp only [zli,List.mapM_cons,Option.bind_eq_bind,Option.bind_eq_some_iff] at h;obtain ⟨p,hp,ps,hps,h⟩:=h;cases h;obtain ⟨i,hi,rfl⟩:=Option.map_eq_some_iff.1 hp;have ih:=zrr (P:=P) (w:=w) fs ps hps;simp only [List.mapM_cons,Sem.run_bind,zba hi,Result.andThen_ok,Sem.run_pure];rw [ih]
  rfl
theorem zhg {P:Program} {t:TypeId} {z:Array Value} (h:zkb P t=some z):∃ i v,P.info? t=some i∧i.zero=some v∧v.cells=z:=by
 unfold zkb at h;obtain ⟨v,hv,rfl⟩:=Option.map_eq_some_iff.1 h;obtain ⟨i,hi,hz⟩:=Option.bind_eq_some_iff.1 hv;exact ⟨i,v,hi,hz,rfl⟩
theorem zf0 {P:Program} {t:TypeId} {i:TypeInfo} {v:Value} (hi:P.info? t=some i) (hz:i.zero=some v) (w:World):(zeroValue t).run P w=.ok v w:=by
 simp [zeroValue,typeInfo,hi,hz]
theorem yeo {P:Program} {t:TypeId} {fs:Array Field} {z:Array Value} {pl:List (Nat×Nat)} (hu:P.underlying t=some (.struct fs)) (hz:zkb P t=some z) (hp:zli P fs.toList=some pl)
  {parts:Array (Nat×Value)} {v:Value} (hv:bdC z pl parts=some v) (w:World):(Instr.build t parts).run P w=.ok v w:=by
 obtain ⟨i,zv,hi,hzv,rfl⟩:=zhg hz;unfold bdC at hv;obtain ⟨cs,hcs,rfl⟩:=Option.map_eq_some_iff.1 hv
 have hm:(fs.mapM (λf=>(do pure (f.offset,← sizeOf f.type):Sem (Nat×Nat)))).run P w=.ok pl.toArray w:=by
  have h1:=zrr (P:=P) (w:=w) fs.toList pl hp;rw [Array.mapM_eq_mapM_toList];simp only [Sem.run_map,h1,Result.andThen_ok]
 simp only [Instr.build,Sem.run_bind,zf0 hi hzv,Result.andThen_ok,run_underlying hu,Sem.run_pure];simp only [Sem.run_bind,Sem.run_pure,bind_pure_comp] at hm;simp only [bind_pure_comp,hm,Result.andThen_ok];have:(λx:Nat=>pl.toArray[x]?)=λi:Nat=>pl[i]?:=by funext x; simp
 simp only [this,hcs,Sem.run_pure]
theorem yey {P:Program} {t e:TypeId} {n:Nat} {i:TypeInfo} {z:Array Value} (hu:P.underlying t=some (.array n e)) (hz:zkb P t=some z) (hi:P.info? e=some i)
  {parts:Array (Nat×Value)} {v:Value} (hv:bsA z i.size parts=some v) (w:World):(Instr.build t parts).run P w=.ok v w:=by
 obtain ⟨i',zv,hi',hzv,rfl⟩:=zhg hz;unfold bsA at hv;obtain ⟨cs,hcs,rfl⟩:=Option.map_eq_some_iff.1 hv;simp only [Instr.build,Sem.run_bind,zf0 hi' hzv,Result.andThen_ok,run_underlying hu,Sem.run_pure,sizeOf,typeInfo,hi,hcs]
 simp [hi,hcs]
theorem ypj {P:Program} {w0 w:World} {h:Hp} (r:Rep w0 h w) {src dst e:TypeId} (hs:P.underlying src=some (.slice e)) (hdst:P.underlying dst=some .string) (hu8:P.underlying e=some (.int .u8)) {x v:Value} (hv:bsV h x v) :
  (convert src dst x).run P w=.ok v w:=by
 obtain ⟨m,ns,hx,rfl⟩:=hv
 rcases hx.2 with ⟨a0,c,rfl,rfl⟩ | ⟨b,o,c,cs,rfl,hrow⟩
 ·have:ns=[]:=by have := hx.1; simpa using this
  subst this;cases a0 with
  | none=>
   simp [convert,run_underlying hs,run_underlying hdst,run_underlying hu8,Conv.bytesToString]
   rfl
  | some ad=>
   rw [run_convert_bytes_string w src dst e _ _ _ hs hu8 hdst,run_bytesToString w ad 0 c []]
   ·rfl
   ·have := run_loadCells_list (P:=P) w ad [] (λj u hu=>by simp at hu)
    simpa using this
 ·rw [run_convert_bytes_string w src dst e _ _ _ hs hu8 hdst,run_bytesToString w ⟨b,o,none⟩ m c ns]
  ·congr 2
   have:∀ (ns:List Int) (s:ByteArray),ns.foldl (λr n=>r.push (UInt8.ofNat n.toNat)) s=⟨s.data++(ns.map (λn=>UInt8.ofNat (Int.toNat n))).toArray⟩:=by
    intro ns
    induction ns with
    | nil=>intro s; simp
    | cons n ns ih=>intro s; rw [List.foldl_cons,ih]; simp [ByteArray.push]
   rw [this]
   simp [ByteArray.empty,ByteArray.emptyWithCapacity]
   try rfl
  ·have hl:=hx.1
   have := run_loadCells_list (P:=P) w ⟨b,o,none⟩ (ns.map (Value.int .u8)) (by
    rcases hrow with h0 | ⟨hr,hn⟩
    ·subst h0;have:ns=[]:=by simpa using hl
     subst this;intro j u hu; simp at hu
    ·intro j u hu;rw [Addr.add_plain];refine r.cell hr ?_;rw [← hn,List.getElem?_take] at hu
     split at hu
     ·rwa [List.getElem?_drop] at hu
     ·cases hu)
   rw [show (ns.map (Value.int .u8)).length=m by simpa using hl] at this;exact this
theorem yg5 {P:Program} (d:Nat) {t:TypeId} {ms:Array (String×TypeId)} {u:Value} {b:Bool} (hu:P.underlying t=some (.interface ms)) (hb:zo2 .eql u=some (.bool b)) (w:World):(Op.equalIn (d+1) t u .nilIface).run P w=.ok b w:=by
 unfold Op.equalIn;simp only [Sem.run_bind,run_underlying hu,Result.andThen_ok];unfold zo2 at hb
 split at hb<;>simp only [reduceCtorEq,Option.some.injEq,Value.bool.injEq] at hb<;>subst hb<;>rfl
theorem ynb {P:Program} {op:BinOp} {t:TypeId} {x y:Operand} {env:Env} {v:Value} (hn:yl1 P t y=true) (hv:zo2 op (ev env x)=some v) (w:World):(do eqGuard op t x y (ev env x) (ev env y); binOp op t (ev env x) (ev env y):Sem Value).run P w=.ok v w:=by
 unfold yl1 at hn
 split at hn
 ·rename_i ms hu
  have hy:ev env (.const .nilIface)=.nilIface:=rfl;rw [hy];generalize ev env x=u at hv ⊢;have key:∀ b,zo2 .eql u=some (.bool b) -> (Op.equal t u .nilIface).run P w=.ok b w:=λb hb=>yg5 9999 hu hb w
  have hg:(eqGuard op t x (.const .nilIface) u .nilIface).run P w=.ok () w:=by
   cases op<;>cases u<;>simp [eqGuard]
  simp only [Sem.run_bind,hg,Result.andThen_ok];cases u<;>cases op<;>simp only [zo2,reduceCtorEq,Option.some.injEq] at hv<;>subst hv<;>simp only [binOp,Sem.run_bind,key _ rfl,Result.andThen_ok,Sem.run_pure]<;>rfl
 ·cases hn
theorem zmw {P:Program} {env:Env} {o:Oper} {K:zae} {E:zb2} {h:Hp} (hq:zpi P o.op=true) (hd:opD P env o K E h) :
  ∃ v,K v h∧keepD P env o v h∧∀ w0 h' w,Rep w0 h' w -> keepD P env o v h' -> (execOp (ev env) o).run P w=.ok (.value v) w:=by
 obtain ⟨dst,op,type,pos,after,guard⟩:=o
 have val:∀ (s:Sem Value) (v:Value) (w:World),s.run P w=.ok v w -> (do pure (.value (← s)):Sem Next).run P w=.ok (.value v) w:=λs v w hs=>by
  simp only [Sem.run_bind,hs,Result.andThen_ok,Sem.run_pure]
 cases op<;>simp only [zpi,zzt,Bool.false_or,Bool.or_false,Bool.or_eq_true,reduceCtorEq] at hq<;>simp only [opD,zwe] at hd<;>simp only [keepD]
 case move x=>exact ⟨_,hd,trivial,λ_ _ w _ _=>by simp only [execOp]; rfl⟩
 case assign x=>exact ⟨_,hd,trivial,λ_ _ w _ _=>by simp only [execOp]; rfl⟩
 case pick c a b=>
  obtain ⟨v,hv,hk⟩:=hd;refine ⟨v,hk,trivial,λ_ _ w _ _=>?_⟩;unfold zad at hv
  split at hv
  ·rename_i t _ _ hc
   cases hv;simp only [execOp,hc,asBool,Sem.run_bind,Sem.run_pure,Result.andThen_ok]
  ·cases hv
 case build t parts=>
  split at hd
  ·rename_i fs z hu hz
   split at hd
   ·rename_i pl hp
    obtain ⟨v,hv,hk⟩:=hd;exact ⟨v,hk,trivial,λ_ _ w _ _=>by simp only [execOp]; exact val _ _ _ (yeo hu hz hp hv w)⟩
   ·cases hd
  ·rename_i n e z hu hz
   split at hd
   ·rename_i i hi
    obtain ⟨v,hv,hk⟩:=hd;exact ⟨v,hk,trivial,λ_ _ w _ _=>by simp only [execOp]; exact val _ _ _ (yey hu hz hi hv w)⟩
   ·cases hd
  ·cases hd
 case load t x=>
  split at hd
  ·rename_i g i hg hi
   obtain ⟨v,hv,hk⟩:=hd;refine ⟨v,hk,hv,λ_ h' w r hv'=>?_⟩;simp only [execOp];exact val _ _ _ (zqh r hg hi hv')
  ·cases hd
 case nilCheck x=>
  obtain ⟨v,hv,hk⟩:=hd;refine ⟨v,hk,trivial,λ_ _ w _ _=>?_⟩;simp only [execOp];unfold zai at hv
  split at hv<;>first | (cases hv; done) | skip
  rename_i h1 h2 h3 h4
  cases hv
  split<;>first | (rename_i hx; exact (h1 hx).elim) | (rename_i hx; exact (h2 hx).elim) | (rename_i hx; exact (h3 hx).elim) | (rename_i hx; exact (h4 _ _ _ hx).elim) | rfl
 case binOp op t x y yt=>
  split at hd
  ·rename_i hnif
   obtain ⟨v,hv,hk⟩:=hd;refine ⟨v,hk,trivial,λ_ _ w _ _=>?_⟩;simp only [execOp];refine val _ _ _ ?_;exact ynb hnif hv w
  split at hd
  ·rename_i n hf
   obtain ⟨v,hv,hk⟩:=hd;exact ⟨v,hk,trivial,λ_ _ w _ _=>by simp only [execOp]; exact val _ _ _ (yc6 hf hv x y w)⟩
  ·obtain ⟨v,hv,hk⟩:=hd;refine ⟨v,hk,trivial,λ_ _ w _ _=>?_⟩;simp only [execOp];refine val _ _ _ ?_;have hg:=ygi hv;simp only [Sem.run_bind,yfy (P:=P) (op:=op) (t:=t) (x:=x) (y:=y) hg.1 (λxs ys e1 e2=>(hg.2 xs ys e1 e2).elim) w,Result.andThen_ok];exact yjk trivial hv w
 case unOp op t x=>
  obtain ⟨v,hv,hk⟩:=hd;refine ⟨v,hk,trivial,λ_ _ w _ _=>?_⟩;simp only [execOp];refine val _ _ _ ?_;unfold unV at hv;generalize ev env x=u at *
  split at hv
  ·split at hv<;>cases hv
   rfl
  ·split at hv
   ·cases hv; rfl
   ·simp only [zfa,Option.some.injEq] at hv;subst hv; rfl
   ·cases hv
  ·cases hv
 case convert src dst x=>
  split at hd
  ·rename_i k0 k hs hdst
   try simp only [hs,hdst]
   obtain ⟨v,hv,hk⟩:=hd;refine ⟨v,hk,trivial,λ_ _ w _ _=>?_⟩;simp only [execOp];refine val _ _ _ ?_;unfold cvV at hv
   split at hv
   ·rename_i hx
    cases hv;simp only [convert,Sem.run_bind,run_underlying hs,run_underlying hdst,Result.andThen_ok,hx,Conv.intToInt]; rfl
   ·cases hv
  ·rename_i hs hdst
   try simp only [hs,hdst]
   split at hd
   ·rename_i s hx
    refine ⟨_,hd,trivial,λ_ _ w _ _=>?_⟩;simp only [execOp];refine val _ _ _ ?_;simp only [convert,Sem.run_bind,run_underlying hs,run_underlying hdst,Result.andThen_ok,hx]; rfl
   ·cases hd
  ·rename_i e hs hdst
   try simp only [hs,hdst]
   split at hd
   ·rename_i hu8
    obtain ⟨v,hv,hk⟩:=hd;refine ⟨v,hk,hv,λ_ h' w r hv'=>?_⟩;simp only [execOp];refine val _ _ _ ?_;exact ypj r hs hdst hu8 hv'
   ·cases hd
  ·rename_i hs hdst; simp [hs,hdst] at hq
  ·rename_i hs hdst; simp [hs,hdst] at hq
  ·cases hd
 case makeInterface t x=>
  split at hd
  ·cases hd
  ·rename_i d hni hu
   obtain ⟨v,hv,hk⟩:=hd;refine ⟨v,hk,trivial,λ_ _ w _ _=>?_⟩;simp only [execOp];refine val _ _ _ ?_;simp only [znt,Option.some.injEq] at hv;subst hv;simp only [Instr.makeInterface,Sem.run_bind,run_underlying hu,Result.andThen_ok]
   rfl
  ·cases hd
 case makeFunc fn first captured=>exact ⟨_,hd,trivial,λ_ _ w _ _=>by simp only [execOp,Instr.makeFunc]; rfl⟩
 case slice t x lo hi mx=>
  split at hd
  ·rename_i e hu
   split at hd
   ·rename_i i hi'
    obtain ⟨v,hv,hk⟩:=hd;refine ⟨v,hk,trivial,λ_ _ w _ _=>?_⟩;simp only [execOp];refine val _ _ _ ?_;have hv':=hv;unfold slV at hv
    split at hv
    ·rename_i a len cap hx; rw [hx] at hv' ⊢; exact yep hu hi' hv' w
    ·cases hv
   ·cases hd
  ·rename_i hu
   obtain ⟨v,hv,hk⟩:=hd;refine ⟨v,hk,trivial,λ_ _ w _ _=>?_⟩;simp only [execOp];refine val _ _ _ ?_;have hv':=hv;unfold slT at hv
   split at hv
   ·rename_i s hx; rw [hx] at hv' ⊢; exact zw6 hu hv' w
   ·cases hv
  ·rename_i n e hu
   split at hd
   ·rename_i i hi'
    obtain ⟨v,hv,hk⟩:=hd;refine ⟨v,hk,trivial,λ_ _ w _ _=>?_⟩;simp only [execOp];refine val _ _ _ ?_;generalize hx:ev env x=xv at hv;cases xv<;>first | (simp [yfa,slV,undef] at hv; done) | skip
    rename_i p
    cases p with
    | none=>simp [yfa,slV,undef] at hv
    | some ad=>exact zw2 hu hi' hv w
   ·cases hd
  ·cases hd
 case fieldAddr s x f=>
  split at hd
  ·rename_i fs hu
   split at hd
   ·rename_i fd hf
    split at hd
    ·rename_i i hi
     split at hd
     ·cases hd
     ·rename_i hz
      obtain ⟨v,hv,hk⟩:=hd;exact ⟨v,hk,trivial,λ_ _ w _ _=>by simp only [execOp]; exact val _ _ _ (zzi hu hf hi hz hv w)⟩
    ·cases hd
   ·cases hd
  ·cases hd
 case field t x f=>
  split at hd
  ·rename_i fs hu
   split at hd
   ·rename_i fd hf
    split at hd
    ·rename_i g i hg hi
     obtain ⟨v,hv,hk⟩:=hd;refine ⟨v,hk,trivial,λ_ _ w _ _=>?_⟩;simp only [execOp];refine val _ _ _ ?_;have hv':=hv;unfold fdV at hv
     split at hv
     ·rename_i cs hx
      rw [hx] at hv' ⊢;simp only [Instr.field,Sem.run_bind,run_underlying hu,Result.andThen_ok,hf,asAgg,Sem.run_pure];exact ylp hg hi hv' w
     ·cases hv
    ·cases hd
   ·cases hd
  ·cases hd
 case indexAddr t x ix=>
  split at hd
  ·rename_i e hu
   split at hd
   ·rename_i i hi
    obtain ⟨v,hv,hk⟩:=hd;exact ⟨v,hk,trivial,λ_ _ w _ _=>by simp only [execOp]; exact val _ _ _ (zq9 hu hi hv w)⟩
   ·cases hd
  ·rename_i n e hu
   split at hd
   ·rename_i i hi
    obtain ⟨v,hv,hk⟩:=hd;exact ⟨v,hk,trivial,λ_ _ w _ _=>by simp only [execOp]; exact val _ _ _ (zpo hu hi hv w)⟩
   ·cases hd
  ·cases hd
 case index t x ix=>
  split at hd
  ·rename_i hu
   obtain ⟨v,hv,hk⟩:=hd;exact ⟨v,hk,trivial,λ_ _ w _ _=>by simp only [execOp]; exact val _ _ _ (zrh hu hv w)⟩
  ·cases hd
 case extract t i=>
  obtain ⟨v,hv,hk⟩:=hd;refine ⟨v,hk,trivial,λ_ _ w _ _=>?_⟩;simp only [execOp];refine val _ _ _ ?_;unfold exV at hv
  split at hv
  ·rename_i vs hx
   simp only [hx,Instr.extract,hv]; rfl
  ·cases hv
 case call c=>
  obtain ⟨callee,args,ats⟩:=c;cases callee with
  | value f=>simp at hq
  | invoke r m=>simp at hq
  | builtin b=>
   cases b<;>simp at hq
   all_goals simp only at hd
   case len=>
    split at hd
    case h_1 t x hb ha hx=>
     have ea:args.map (ev env) = #[x]:=by rw [← Array.toList_inj]; exact hx
     have et:ats = #[t]:=by rw [← Array.toList_inj]; exact ha
     split at hd
     ·rename_i e hu
      obtain ⟨v,hv,hk⟩:=hd;refine ⟨v,hk,trivial,λ_ _ w _ _=>?_⟩;cases x<;>simp [zab] at hv
      subst hv
      simp [execOp,resolve,invoke,builtin,ea,et,Builtin.len_,run_underlying hu,goInt]
     ·rename_i hu
      obtain ⟨v,hv,hk⟩:=hd;refine ⟨v,hk,trivial,λ_ _ w _ _=>?_⟩;cases x<;>simp [ylb] at hv
      subst hv
      simp [execOp,resolve,invoke,builtin,ea,et,Builtin.len_,run_underlying hu,goInt]
     ·cases hd
    all_goals first | (cases hd; done) | (rename_i hb _ _; cases hb; done) | (rename_i hb _; cases hb; done)
   case cap=>
    split at hd
    case h_5 t x hb ha hx=>
     have ea:args.map (ev env) = #[x]:=by rw [← Array.toList_inj]; exact hx
     have et:ats = #[t]:=by rw [← Array.toList_inj]; exact ha
     split at hd
     ·rename_i e hu
      obtain ⟨v,hv,hk⟩:=hd;refine ⟨v,hk,trivial,λ_ _ w _ _=>?_⟩;cases x<;>simp [zjv] at hv
      subst hv
      simp [execOp,resolve,invoke,builtin,ea,et,Builtin.cap_,run_underlying hu,goInt]
     ·cases hd
    all_goals first | (cases hd; done) | (rename_i hb _ _; cases hb; done) | (rename_i hb _; cases hb; done)
   case min=>
    split at hd
    case h_6 ats x y ha hx=>
     have ea:args.map (ev env) = #[x,y]:=by rw [← Array.toList_inj]; exact hx
     obtain ⟨v,hv,hk⟩:=hd;refine ⟨v,hk,trivial,λ_ _ w _ _=>?_⟩;unfold mm at hv
     split at hv
     ·cases hv
      simp [execOp,resolve,invoke,builtin,ea,Builtin.min_,Builtin.min2]
     ·cases hv
    all_goals first | (cases hd; done) | (rename_i hb _ _; cases hb; done) | (rename_i hb _; cases hb; done)
   case max=>
    split at hd
    case h_7 ats x y ha hx=>
     have ea:args.map (ev env) = #[x,y]:=by rw [← Array.toList_inj]; exact hx
     obtain ⟨v,hv,hk⟩:=hd;refine ⟨v,hk,trivial,λ_ _ w _ _=>?_⟩;unfold mm at hv
     split at hv
     ·cases hv
      simp [execOp,resolve,invoke,builtin,ea,Builtin.max_,Builtin.max2]
     ·cases hv
    all_goals first | (cases hd; done) | (rename_i hb _ _; cases hb; done) | (rename_i hb _; cases hb; done)
def yye (P:Program) (w0:World) (env:Env) (o:Oper) (K:zae) (w:World):Prop :=
 ∃ v w' h',((execOp (ev env) o).run P w=.ok (.value v) w'∨((execOp (ev env) o).run P w=.ok .skip w'∧v=undef))∧Rep w0 h' w'∧K v h'
theorem zrt {P:Program} {w0 w:World} {h:Hp} (r:Rep w0 h w) (t:TypeId) (cs:Array Value):∃ b,h.nx≤b∧(newRow t cs).run P w=.ok ⟨b,0,none⟩ (w.alloc (.cells cs t))∧Rep w0 (h.new b (.cells t cs.toList cs.size)) (w.alloc (.cells cs t)):=by
 refine ⟨w.heap.size,r.nx,?_,?_⟩
 ·simp [newRow]
 ·exact r.alloc (.cells cs t) (some (.cells t cs.toList cs.size)) ⟨cs,rfl,rfl,List.prefix_refl _⟩
theorem ya3 {P:Program} {w0 w:World} {h:Hp} {K:zae} (r:Rep w0 h w) {t:TypeId} {v:Value} (hd:nw t v.cells.toList K h) :
  ∃ u w' h',(do pure (.pointer (some (← newVar t v))):Sem Value).run P w=.ok u w'∧Rep w0 h' w'∧K u h':=by
 obtain ⟨b,hb,hr,hrep⟩:=zrt (P:=P) r t v.cells;refine ⟨_,_,_,?_,hrep,by have := hd b hb; simpa using this⟩;simp only [newVar,Sem.run_bind,hr,Result.andThen_ok,Sem.run_pure]
theorem zrx {w0 w:World} {h:Hp} (r:Rep w0 h w) {sz m:Nat} {b o c:Nat} {cs news:List Value} (hr:h.row b cs) (hn:(cs.drop o).take (m*sz)=news) :
  ∀ j u,news[j]?=some u -> w.cell? ((⟨b,o,none⟩:Addr).add j)=some u:=by
 intro j u hu;rw [Addr.add_plain];refine r.cell hr ?_;rw [← hn,List.getElem?_take] at hu
 split at hu
 ·rwa [List.getElem?_drop] at hu
 ·cases hu
theorem yht {w0 w:World} {h:Hp} (r:Rep w0 h w) {e:TypeId} {sz n:Nat} {s:Value} {cs:List Value} (ho:yp1 h e sz s n cs):w.ownsRow w0.heap.size e sz s n cs:=by
 obtain ⟨hl,ho⟩:=ho;refine ⟨hl,?_⟩
 rcases ho with ho | ⟨b,c,rfl,hnc,hcm,hM⟩
 ·exact .inl ho
 ·obtain ⟨rest,hM⟩:=hM;obtain ⟨h1,h2,h3,arr,h4,h5,h6⟩:=r.cl b e _ _ hM;exact .inr ⟨b,c,arr,rfl,h2,h4,hnc,hcm,h5,by rw [← hl]; exact (List.prefix_iff_eq_take.1 ((List.prefix_append _ _).trans h6)).symm⟩
theorem zru {M:Nat -> Option zak} {s:Value} {k:Nat} {c:zak} (h:zge M s k=some c):M k=some c:=by
 unfold zge at h;cases ho:s.ownBlock with
 | none=>rw [ho] at h; exact h
 | some b=>
  rw [ho] at h;simp only [upd] at h
  split at h
  ·cases h
  ·exact h
theorem ybv {P:Program} {w w':World} {base:Nat} {t ty e:TypeId} {i:TypeInfo} {z v' s:Value} (ht:P.underlying t=some (.slice e)) (hi:P.info? e=some i) (hz:i.zero=some z) (hzs:z.cells.size=i.size) (hsz:0<i.size)
  {n m c:Nat} {cs news:List Value} {a:Addr} (how:w.ownsRow base e i.size s n cs) (hl:news.length=m*i.size) (hnews:∀ j u,news[j]?=some u -> w.cell? (a.add j)=some u) (h1:∀ u∈news,u.oneCell'=true)
  (hmx:n+m≤maxLen) (hby:(n+m)*i.bytes≤140737488355328) (hrun:(Builtin.append_ #[t,t] ty #[s,.slice (some a) m c]).run P w=.ok v' w'):w.drawn≤w'.drawn:=by
 have hsmall:n+m≤9223372036854775807:=by simp only [maxLen] at hmx; omega
 have one:∀ (o:Obj),w.drawn≤(w.drew.alloc o).drawn:=λo=>Nat.le_succ _
 rcases how.2 with ⟨rfl,rfl⟩ | ⟨g,cap,cur,rfl,hbg,hg,hnc,hcm,hcs,htake⟩
 ·by_cases hm:m=0
  ·subst hm;have hn:news=[]:=List.eq_nil_of_length_eq_zero (by simpa using hl);subst hn
   have hr:(Builtin.append_ #[t,t] ty #[.slice none 0 0,.slice (some a) 0 c]).run P w=.ok (.slice none 0 0) w:=by
    simp [Builtin.append_,run_underlying ht,sizeOf,typeInfo,hi,Builtin.lenOf,Builtin.firstCells,loadCells,loadCellsFrom]
   rw [hr] at hrun;cases hrun;exact Nat.le_refl _
  ·have hb:m*i.bytes≤140737488355328:=by simpa using hby
   rw [run_append_nil (P:=P) w t ty e i z ht hi hz a m c news hl hnews (by omega) (by omega) (by omega)] at hrun;cases hrun;exact one _
 ·by_cases hroom:n+m≤cap
  ·have hfit:n*i.size+news.length≤cur.size:=by rw [hl,hcs,← Nat.add_mul]; exact Nat.mul_le_mul_right _ hroom
   rw [run_append_room (P:=P) w t ty e i ht hi g n cap cur hg a m c news hl hnews h1 hroom hfit] at hrun;cases hrun;exact Nat.le_refl _
  ·rw [run_append_grow (P:=P) w t ty e i z ht hi hz ⟨g,0,none⟩ n cap cs how.1 (how.cells (g:=g) rfl) a m c news hl hnews (by omega) (by omega) (growslice_fits (by omega) hby)] at hrun;cases hrun;exact one _
theorem zy6 {P:Program} {w0 w:World} {h:Hp} {K:zae} (r:Rep w0 h w) {t ty e:TypeId} {i:TypeInfo} {z:Value} (ht:P.underlying t=some (.slice e)) (hi:P.info? e=some i) (hz:i.zero=some z) (hzs:z.cells.size=i.size) (hsz:0<i.size)
  {s x:Value} (hd:app e i.size i.bytes s x K h):∃ v w' h',(Builtin.append_ #[t,t] ty #[s,x]).run P w=.ok v w'∧Rep w0 h' w'∧K v h':=by
 obtain ⟨n,cs,m,news,hs,hx,h1,hby,hmx,hk1,hk2⟩:=hd;have how:=yht r hs
 have hnil:∀ c,x=.slice none 0 c -> m=0 -> ∃ v w' h',(Builtin.append_ #[t,t] ty #[s,x]).run P w=.ok v w'∧Rep w0 h' w'∧K v h':=by
  rintro c rfl rfl;have hnews:news=[]:=List.eq_nil_of_length_eq_zero (by simpa using hx.1);subst hnews
  rcases hs.2 with ⟨rfl,rfl⟩ | ⟨b,c',rfl,hnc,hcm,hM⟩
  ·refine ⟨_,w,h,?_,r,hk1 rfl rfl⟩
   simp [Builtin.append_,run_underlying ht,sizeOf,typeInfo,hi,Builtin.lenOf,Builtin.firstCells]
  ·obtain ⟨rest,hM⟩:=hM;refine ⟨_,w,_,?_,?_,hk2 (Or.inl (by simp)) b c' (Or.inr rfl) (by simpa using hnc) hcm⟩
   ·simp [Builtin.append_,run_underlying ht,sizeOf,typeInfo,hi,Builtin.lenOf,Builtin.firstCells,hnc,storeCells]
   ·obtain ⟨h1,h2,h3,arr,h4,h5,h6⟩:=r.cl b e _ _ hM
    have e1:h.moved (.slice (some ⟨b,0,none⟩) n c') b (.cells e (cs++[]) (c'*i.size))=⟨h.F,upd h.M b (some (.cells e cs (c'*i.size))),h.nx⟩:=by
     have:upd (upd h.M b none) b (some (.cells e cs (c'*i.size)))=upd h.M b (some (.cells e cs (c'*i.size))):=by
      funext k
      simp only [upd]
      split<;>rfl
     simp only [Hp.moved,zge,Value.ownBlock,List.append_nil,this,Nat.max_eq_left (show b+1≤h.nx from h1)]
    rw [e1];exact r.turn (w':=w) h2 h3 rfl rfl rfl (Nat.le_refl _) (Array.getElem?_eq_some_iff.1 h4).1 (λ_ _ _=>rfl) (some (.cells e cs (c'*i.size))) h.nx (Nat.le_refl _) r.nx h1 ⟨arr,h4,h5,(List.prefix_append _ _).trans h6⟩
 have hsome:∀ a c,x=.slice (some a) m c -> (∀ j u,news[j]?=some u -> w.cell? (a.add j)=some u) -> ∃ v w' h',(Builtin.append_ #[t,t] ty #[s,x]).run P w=.ok v w'∧Rep w0 h' w'∧K v h':=by
  rintro a c rfl hcell;obtain ⟨v',w',hrun,hown',hgr,hiff,hat⟩:=run_append_own_at w w0.heap.size t ty e i z i.size i.bytes ht hi hz rfl rfl hzs hsz s n cs how a m c news hx.1 hcell h1 hmx hby (Nat.le_trans r.base r.nx);have hdr:w.drawn≤w'.drawn:=ybv ht hi hz hzs hsz how hx.1 hcell h1 hmx hby hrun
  by_cases hn0:s=.slice none 0 0∧m=0
  ·have := hiff.2 hn0;subst this;refine ⟨_,w',h,hrun,?_,hk1 hn0.1 hn0.2⟩
   have hr2:(Builtin.append_ #[t,t] ty #[s,.slice (some a) m c]).run P w=.ok (.slice none 0 0) w:=by
    rw [hn0.1,hn0.2]
    simp [Builtin.append_,run_underlying ht,sizeOf,typeInfo,hi,Builtin.lenOf,Builtin.firstCells,loadCells,loadCellsFrom]
   rw [hr2] at hrun;cases hrun;exact r
  ·have hne:¬ v'=.slice none 0 0:=λe=>hn0 (hiff.1 e);obtain ⟨hlen',hform⟩:=hown'
   rcases hform with ⟨e,_⟩ | ⟨g,cap,cur,rfl,hbg,hg,hnc,hcm,hcs,htake⟩
   ·exact (hne e).elim
   have hpre:(cs++news) <+: cur.toList:=by rw [← htake]; exact List.take_prefix _ _
   have hatg:s.ownBlock=some g∨g=w.heap.size:=by
    rcases hat with h | h
    ·left; simpa [Value.ownBlock] using h.symm
    ·right; simpa [Value.ownBlock] using h
   have hd2:s≠.slice none 0 0∨m≠0:=by
    by_cases h0:s=.slice none 0 0
    ·exact Or.inr (λh=>hn0 ⟨h0,h⟩)
    ·exact Or.inl h0
   refine ⟨_,w',_,hrun,?_,hk2 hd2 g cap (by rcases hatg with h | h; exact Or.inr h; exact Or.inl (h ▸ r.nx)) hnc hcm⟩
   have hgF:h.F g=none:=by
    rcases hatg with ho | ho
    ·rcases hs.2 with ⟨rfl,_⟩ | ⟨b,c',rfl,_,_,rest,hM⟩
     ·simp [Value.ownBlock] at ho
     ·simp [Value.ownBlock] at ho
      subst ho;exact (r.cl b e _ _ hM).2.2.1
    ·cases hF:h.F g with
     | none=>rfl
     | some q=>have := (r.fr g q hF).1; have := r.nx; omega
   have hglt:g<w'.heap.size:=(Array.getElem?_eq_some_iff.1 hg).1
   have r1:Rep w0 ⟨h.F,zge h.M s,h.nx⟩ w:=by
    refine ⟨r.below,r.dr,r.nx,r.base,r.fr,?_,?_⟩
    ·intro k e' c2 tot hk;exact r.cl k e' c2 tot (zru hk)
    ·intro k o hk;exact r.ob k o (zru hk)
   have hold:∀ k,some k=s.ownBlock -> (zge h.M s) k=none:=by
    intro k hk
    rcases hs.2 with ⟨rfl,_⟩ | ⟨b,c',rfl,_,_,rest,hM⟩
    ·simp [Value.ownBlock] at hk
    ·simp [Value.ownBlock] at hk
     subst hk
     simp [zge,Value.ownBlock,upd]
   have hoF:∀ k,some k=s.ownBlock -> h.F k=none:=by
    intro k hk
    rcases hs.2 with ⟨rfl,_⟩ | ⟨b,c',rfl,_,_,rest,hM⟩
    ·simp [Value.ownBlock] at hk
    ·simp [Value.ownBlock] at hk
     subst hk;exact (r.cl _ e _ _ hM).2.2.1
   have hob:∀ k,some k=s.ownBlock -> w0.heap.size≤k:=λk hk=>(how.lt k hk.symm).1;have hgb:w0.heap.size≤g:=hbg
   have r2:Rep w0 ⟨h.F,zge h.M s,h.nx⟩ w':=by
    refine ⟨r1.below.trans ⟨hgr.os,hgr.tape,hgr.output,hgr.size,λk hk=>hgr.block k (Nat.lt_of_lt_of_le hk r.below.size) (λhe=>by have := hob k he; omega)⟩,Nat.le_trans r.dr hdr,Nat.le_trans r.nx hgr.size,r.base,?_,?_,?_⟩
    ·intro k c2 hk;obtain ⟨a1,arr,e',z',a2,a3⟩:=r1.fr k c2 hk;exact ⟨a1,arr,e',z',(hgr.block k (Nat.lt_of_lt_of_le a1 r.nx) (λhe=>by have := hoF k he; simp only at hk; rw [this] at hk; cases hk)).trans a2,a3⟩
    ·intro k e' c2 tot hk;obtain ⟨a1,a2,a3,arr,a4,a5⟩:=r1.cl k e' c2 tot hk;exact ⟨a1,a2,a3,arr,(hgr.block k (Nat.lt_of_lt_of_le a1 r.nx) (λhe=>by have := hold k he; simp only at hk; rw [this] at hk; cases hk)).trans a4,a5⟩
    ·intro k o hk;obtain ⟨a1,a2,a3,a4,a5⟩:=r1.ob k o hk;exact ⟨a1,a2,a3,(hgr.block k (Nat.lt_of_lt_of_le a1 r.nx) (λhe=>by have := hold k he; simp only at hk; rw [this] at hk; cases hk)).trans a4,a5⟩
   have := r2.turn (w':=w') (b:=g) hgb hgF rfl rfl rfl (Nat.le_refl _) hglt (λk _ _=>rfl) (some (.cells e (cs++news) (cap*i.size))) (max h.nx (g+1)) (Nat.le_max_left _ _) (by have := r2.nx; simp only at this; omega) (by omega) ⟨cur,hg,hcs,hpre⟩;exact this
 rcases hx.2 with ⟨a0,c,rfl,rfl⟩ | ⟨b,o,c,cs2,rfl,hrow⟩
 ·cases a0 with
  | none=>exact hnil c rfl rfl
  | some ad=>
   have hnews:news=[]:=List.eq_nil_of_length_eq_zero (by simpa using hx.1);subst hnews;exact hsome ad c rfl (λj u hu=>by simp at hu)
 ·refine hsome ⟨b,o,none⟩ c rfl ?_
  rcases hrow with hm0 | ⟨hr2,hn2⟩
  ·subst hm0;have hnews:news=[]:=List.eq_nil_of_length_eq_zero (by simpa using hx.1);subst hnews;intro j u hu; simp at hu
  ·exact zrx (c:=c) r hr2 hn2
theorem yl0 {P:Program} {w0 w:World} {h:Hp} (r:Rep w0 h w) {t:TypeId} {i:TypeInfo} (hi:P.info? t=some i) {p v:Value} {K:zae} (hd:st i.size p v K h) :
  ∃ w' h',(Instr.storeAt t p v).run P w=.ok () w'∧Rep w0 h' w'∧K undef h':=by
 obtain ⟨hs,b,o,e,cs,tot,rfl,hM,h1,hl,hk⟩:=hd;obtain ⟨w',hw',hr'⟩:=Rep.storeCells (P:=P) v.cells.toList h w cs o 0 r hM (by simpa using hl) h1;refine ⟨w',_,?_,hr',by simpa using hk⟩;simp only [Instr.storeAt,Instr.sureAddr,Sem.run_bind,Sem.run_pure,Result.andThen_ok,storeVar,zba hi,ne_eq,hs,not_true_eq_false,if_false];exact hw'
theorem zix {P:Program} {w0 w:World} {h:Hp} (r:Rep w0 h w) {sz m k:Nat} {x:Value} {news:List Value} (hx:zkf h sz x m news) (hk:k≤m) :
  (Builtin.firstCells sz k x).run P w=.ok (news.take (k*sz)).toArray w:=by
 obtain ⟨hl,hx⟩:=hx
 rcases hx with ⟨a,c,rfl,rfl⟩ | ⟨b,o,c,cs,rfl,hrow⟩
 ·have:news=[]:=List.eq_nil_of_length_eq_zero (by simpa using hl);subst this;obtain rfl:k=0:=by omega
  cases a with
  | none=>simp [Builtin.firstCells]
  | some ad=>
   have := run_loadCells_list (P:=P) w ad [] (λj u hu=>by simp at hu);simp only [List.length_nil] at this;simp only [Builtin.firstCells,Nat.zero_mul,List.take_nil,this]
 ·have hkl:(news.take (k*sz)).length=k*sz:=by rw [List.length_take,hl]; exact Nat.min_eq_left (Nat.mul_le_mul_right _ hk)
  have := run_loadCells_list (P:=P) w ⟨b,o,none⟩ (news.take (k*sz)) (λj u hu=>by
   rw [List.getElem?_take] at hu
   split at hu
   ·rcases hrow with h0 | ⟨hr,hn⟩
    ·subst h0;have:news=[]:=List.eq_nil_of_length_eq_zero (by simpa using hl);subst this
     simp at hu
    ·exact zrx (c:=c) r hr hn j u hu
   ·cases hu)
  rw [hkl] at this;simp only [Builtin.firstCells,this]
theorem yhe {P:Program} {w0 w:World} {h:Hp} {K:zae} (r:Rep w0 h w) {t u ty e:TypeId} {i:TypeInfo} (ht:P.underlying t=some (.slice e)) (hi:P.info? e=some i) {d s:Value} (hd:cpy i.size d s K h) :
  ∃ v w' h',(Builtin.copy_ #[t,u] ty #[d,s]).run P w=.ok v w'∧Rep w0 h' w'∧K v h':=by
 obtain ⟨b,o,dn,dc,e',cs,tot,m,news,rfl,hM,hs,h1,hl,hk⟩:=hd;have hf:=zix (P:=P) r hs (Nat.min_le_left m dn)
 have hlen:(news.take (min m dn*i.size)).length=min m dn*i.size:=by
  rw [List.length_take,hs.1]; exact Nat.min_eq_left (Nat.mul_le_mul_right _ (Nat.min_le_left m dn))
 obtain ⟨w',hw',hr'⟩:=Rep.storeCells (P:=P) (news.take (min m dn*i.size)) h w cs o 0 r hM (by rw [hlen]; simpa using hl) (λv hv=>h1 v hv);refine ⟨_,w',_,?_,hr',by simpa using hk⟩
 have hm:(Builtin.lenOf s).run P w=.ok m w:=by
  rcases hs.2 with ⟨_,c,rfl,rfl⟩ | ⟨b,o,c,cs,rfl,_⟩<;>simp [Builtin.lenOf]
 have hmin:Nat.min m dn=min m dn:=rfl
 simp [Builtin.copy_,run_underlying ht,hm,zba hi,hmin,hf,hw',goInt]
theorem zsi (n:Nat) (z:Array Value) (hp:0<z.size) (m:Nat) (hm:n≤m):(List.replicate n z.toList).flatten <+: (madeCells z (m*z.size)).toList:=by
 rw [List.prefix_iff_eq_take];have hl:(List.replicate n z.toList).flatten.length=n*z.size:=by simp
 rw [hl]
 apply List.ext_getElem?
 intro k
 have:∀ (m:Nat) (l:List Value) (k:Nat),0<l.length -> k<m*l.length -> ((List.replicate m l).flatten)[k]?=l[k%l.length]?:=by
  intro m
  induction m with
  | zero=>intro l k _ h; simp at h
  | succ m ih=>
   intro l k hl h;rw [List.replicate_succ,List.flatten_cons]
   by_cases h1:k<l.length
   ·rw [List.getElem?_append_left h1,Nat.mod_eq_of_lt h1]
   ·rw [List.getElem?_append_right (by omega),ih l (k - l.length) hl (by rw [Nat.succ_mul] at h; omega)];rw [← Nat.mod_eq_sub_mod (by omega)]
 by_cases hkl:k<n*z.size
 ·rw [this n z.toList k (by simpa using hp) (by simpa using hkl),List.getElem?_take,if_pos hkl];have hmod:k%z.size<z.size:=Nat.mod_lt _ hp;have hk2:k<m*z.size:=Nat.lt_of_lt_of_le hkl (Nat.mul_le_mul_right _ hm)
  simp [madeCells,hk2,hmod]
 ·rw [List.getElem?_eq_none (by rw [hl]; omega),List.getElem?_take,if_neg hkl]
theorem zyj {P:Program} {t u ty e e':TypeId} {i:TypeInfo} (ht:P.underlying t=some (.slice e)) (hi:P.info? e=some i) (hu:P.underlying u=some (.slice e')) (s x:Value) (w:World):(Builtin.append_ #[t,u] ty #[s,x]).run P w=(Builtin.append_ #[t,t] ty #[s,x]).run P w:=by
 cases s<;>simp [Builtin.append_,run_underlying ht,run_underlying hu,zba hi]
theorem zrl {P:Program} {w0 w:World} {h:Hp} {K:zae} (r:Rep w0 h w) {t ty e:TypeId} {i:TypeInfo} (ht:P.underlying t=some (.slice e)) (hi:P.info? e=some i)
  {s x:Value} (hd:ym3 e i.size s x K h):∃ v w' h',(Builtin.append_ #[t,t] ty #[s,x]).run P w=.ok v w'∧Rep w0 h' w'∧K v h':=by
 obtain ⟨b,n,c,cs,m,news,rfl,hM,hx,h1,hnc,hl,hk⟩:=hd;have hf:=zix (P:=P) r hx (Nat.le_refl m);rw [← hx.1,List.take_length] at hf;obtain ⟨w',hw',hr'⟩:=Rep.storeCells (P:=P) news h w cs (n*i.size) 0 r hM (by rw [hx.1,Nat.add_zero,← Nat.add_mul]; exact hl) h1;refine ⟨_,w',_,?_,hr',by simpa using hk⟩
 have hm:(Builtin.lenOf x).run P w=.ok m w:=by
  rcases hx.2 with ⟨_,c,rfl,rfl⟩ | ⟨b,o,c,cs,rfl,_⟩<;>simp [Builtin.lenOf]
 simp [Builtin.append_,run_underlying ht,zba hi,hm,hnc,hf,Addr.add_plain,hw']
theorem yfs {P:Program} {w0 w:World} {h:Hp} {K:zae} (r:Rep w0 h w) {t tn ty e:TypeId} {kn:IntKind} {i:TypeInfo} {z:Value} (ht:P.underlying t=some (.slice e)) (htn:P.underlying tn=some (.int kn)) (hi:P.info? e=some i) (hz:i.zero=some z) (hzs:z.cells.size=i.size) (hsz:0<i.size)
  {s x:Value} (hd:zpj e z.cells.toList i.size i.bytes s x K h):∃ v w' h',(Builtin.append_ #[t,tn] ty #[s,x]).run P w=.ok v w'∧Rep w0 h' w'∧K v h':=by
 obtain ⟨a,n,c,olds,m,k,rfl,rfl,hrd,hnc,hc,hby,hmx,hk⟩:=hd;have hmx':=hmx;simp only [maxLen] at hmx';have hw:IntKind.i64.wrap (m:Int)=m:=by rw [IntKind.wrap_i64]; omega
 have hge:=grownCap_ge w (n+m) c e;have hcm:grownCap w (n+m) c e≤maxLen:=grownCap_le_maxLen w (n+m) c e hmx;have hfits:=Nat.not_lt.2 (growslice_fits (need:=n+m) (old:=c) hc hby);have holn:olds.length=n*i.size:=hrd.1;have htk:olds.take (n*i.size)=olds:=List.take_of_length_le (by omega)
 have hzc:(Builtin.zeroCells z.cells m).toList=(List.replicate m z.cells.toList).flatten:=by
  have h:=zsi m z.cells (by omega) m (Nat.le_refl m);have h2:(madeCells z.cells (m*z.cells.size)).toList.length=(List.replicate m z.cells.toList).flatten.length:=by simp [size_madeCells]
  exact (List.IsPrefix.eq_of_length h h2.symm).symm
 have hneg:¬ ((m:Int)<0):=by omega
 have hbm:¬ (281474976710656<(m:Int)*(i.bytes:Int)):=by
  have:((m*i.bytes:Nat):Int)≤140737488355328:=by
   have h1:m*i.bytes≤(n+m)*i.bytes:=Nat.mul_le_mul_right _ (Nat.le_add_left _ _);omega
  rw [Int.natCast_mul] at this;omega
 have hn:¬ (n+m≤c):=by omega
 have h63':¬ (9223372036854775807<((n:Int)+(m:Int))):=by omega
 have h48':¬ (281474976710656<Builtin.nextslicecap (n+m) c*i.bytes):=by
  have := growslice_fits (need:=n+m) (old:=c) (bytes:=i.bytes) (by omega) hby
  omega
 have hfd:(Builtin.firstCells i.size n (.slice a n c)).run P w.drew=.ok olds.toArray w.drew:=by
  have := zix (P:=P) (sz:=i.size) (m:=n) (k:=n) (x:=.slice a n c) (news:=olds) r.drew hrd (Nat.le_refl _)
  rwa [htk] at this
 have hrun:(Builtin.append_ #[t,tn] ty #[.slice a n c,.int k (m:Int)]).run P w=.ok (.slice (some ⟨w.heap.size,0,none⟩) (n+m) (grownCap w (n+m) c e))
   (w.drew.alloc (.cells (olds.toArray++Builtin.zeroCells z.cells m++Builtin.zeroCells z.cells (grownCap w (n+m) c e - (n+m))) e)):=by
  by_cases hm0:m*i.size=0
  ·have hm1:m=0:=by rcases Nat.mul_eq_zero.1 hm0 with h | h; exact h; omega
   omega
  ·simp [Builtin.append_,run_underlying ht,run_underlying htn,sizeOf,typeInfo,zeroValue,hi,hz,asInt,asIntOf,hw,hn,hneg,hm0,h63',h48',hbm,Question.forced,hfd,newRow,grownCap]
 refine ⟨_,_,h.new w.heap.size (.cells e (olds++(List.replicate m z.cells.toList).flatten) (grownCap w (n+m) c e*i.size)),hrun,?_,hk _ _ r.nx hge hcm⟩;refine r.drew.alloc _ (some (.cells e _ _)) ⟨_,rfl,?_,?_⟩
 ·simp only [Array.size_append,List.size_toArray,size_zeroCells,hzs,holn,← Nat.add_mul]
  congr 1
  omega
 ·simp only [Array.toList_append,hzc];exact List.prefix_append _ _
theorem ygj {P:Program} {w0 w:World} {h:Hp} {K:zae} (r:Rep w0 h w) {t ty e:TypeId} {i:TypeInfo} {z:Value} (ht:P.underlying t=some (.slice e)) (hi:P.info? e=some i) (hz:i.zero=some z) (hzs:z.cells.size=i.size) (hsz:0<i.size)
  {x:Value} (hd:clr e z.cells.toList i.size x K h):∃ v w' h',(Builtin.clear_ #[t] ty #[x]).run P w=.ok v w'∧Rep w0 h' w'∧K v h':=by
 rcases hd with ⟨a,c,rfl,hk⟩ | ⟨b,o,n,c,e',cs,tot,rfl,hn,hM,h1,hl,hk⟩
 ·refine ⟨_,w,h,?_,r,hk⟩;cases a<;>simp [Builtin.clear_,run_underlying ht]
 ·have hzc:(Builtin.zeroCells z.cells n).toList=(List.replicate n z.cells.toList).flatten:=by
   have h:=zsi n z.cells (by omega) n (Nat.le_refl n);have h2:(madeCells z.cells (n*z.cells.size)).toList.length=(List.replicate n z.cells.toList).flatten.length:=by simp [size_madeCells]
   exact (List.IsPrefix.eq_of_length h h2.symm).symm
  have hlen:((List.replicate n z.cells.toList).flatten).length=n*i.size:=by simp [hzs]
  obtain ⟨w',hw',hr'⟩:=Rep.storeCells (P:=P) (List.replicate n z.cells.toList).flatten h w cs o 0 r hM (by rw [hlen]; simpa using hl) (λv hv=>by
   obtain ⟨l,hl1,hl2⟩:=List.mem_flatten.1 hv;rw [(List.mem_replicate.1 hl1).2] at hl2;exact h1 v hl2)
  refine ⟨_,w',_,?_,hr',by simpa using hk⟩;cases n with
  | zero=>omega
  | succ n=>simp [Builtin.clear_,run_underlying ht,zf0 hi hz,hzc,hw']
theorem Rep.frz {w0 w:World} {h:Hp} (r:Rep w0 h w) {b:Nat} {e:TypeId} {cs:List Value} {tot:Nat} (hM:h.M b=some (.cells e cs tot)):Rep w0 (h.frz b cs) w:=by
 obtain ⟨h1,h2,h3,arr,h4,h5,h6⟩:=r.cl b e cs tot hM;refine ⟨r.below,r.dr,r.nx,r.base,?_,?_,?_⟩
 ·intro k cs' hk;simp only [Hp.frz,upd] at hk
  split at hk
  ·rename_i he; subst he; cases hk; exact ⟨h1,arr,e,_,h4,h6⟩
  ·exact r.fr k cs' hk
 ·intro k e' cs' tot' hk;simp only [Hp.frz,upd] at hk
  split at hk
  ·cases hk
  ·rename_i he
   obtain ⟨a1,a2,a3,a4⟩:=r.cl k e' cs' tot' hk;exact ⟨a1,a2,by simp only [Hp.frz,upd,if_neg he]; exact a3,a4⟩
 ·intro k o hk;simp only [Hp.frz,upd] at hk
  split at hk
  ·cases hk
  ·rename_i he
   obtain ⟨a1,a2,a3,a4⟩:=r.ob k o hk;exact ⟨a1,a2,by simp only [Hp.frz,upd,if_neg he]; exact a3,a4⟩
theorem Rep.freeze {w0 w:World} {h:Hp} (r:Rep w0 h w) {b o n:Nat} (hb:w0.heap.size≤b) (hM:h.M b=none):Rep w0 h (w.freeze ⟨b,o,none⟩ n):=by
 by_cases hn:n=0
 ·subst hn; exact r
 have hsz:(w.freeze ⟨b,o,none⟩ n).heap.size=w.heap.size:=by simp [World.freeze,hn]
 have hot:∀ k,k≠b -> (w.freeze ⟨b,o,none⟩ n).heap[k]?=w.heap[k]?:=λk hk=>by
  simp only [World.freeze,hn,if_false,Array.getElem?_modify];rw [if_neg (λe=>hk e.symm)]
 refine ⟨r.below.trans ⟨by simp [World.freeze,hn],by simp [World.freeze,hn],by simp [World.freeze,hn],by rw [hsz]; exact Nat.le_refl _,λk hk=>hot k (by omega)⟩,by simpa [World.freeze,hn] using r.dr,by rw [hsz]; exact r.nx,r.base,?_,?_,?_⟩
 ·intro k cs hk;obtain ⟨a1,arr,e,z,a2,a3⟩:=r.fr k cs hk
  by_cases he:k=b
  ·subst he;refine ⟨a1,arr,e,?_⟩;simp only [World.freeze,hn,if_false,Array.getElem?_modify,if_true,a2,Option.map_some];exact ⟨_,rfl,a3⟩
  ·exact ⟨a1,arr,e,z,(hot k he).trans a2,a3⟩
 ·intro k e cs tot hk;obtain ⟨a1,a2,a3,arr,a4,a5⟩:=r.cl k e cs tot hk;exact ⟨a1,a2,a3,arr,(hot k (λhe=>by subst he; rw [hM] at hk; cases hk)).trans a4,a5⟩
 ·intro k ob hk;obtain ⟨a1,a2,a3,a4,a5⟩:=r.ob k ob hk;exact ⟨a1,a2,a3,(hot k (λhe=>by subst he; rw [hM] at hk; cases hk)).trans a4,a5⟩
theorem yii {P:Program} {w0 w:World} {h:Hp} {K:zae} (r:Rep w0 h w) {t e:TypeId} (ht:P.underlying t=some (.slice e)) (hu8:P.underlying e=some (.int .u8)) {x:Value} (hd:mk x K h) :
  ∃ v w' h',(convert t t x).run P w=.ok v w'∧Rep w0 h' w'∧K v h':=by
 obtain ⟨b,n,c,e',cs,tot,rfl,hM,hk⟩:=hd;obtain ⟨h1,h2,h3,arr,h4,h5,h6⟩:=r.cl b e' cs tot hM;have r1:=r.frz hM;refine ⟨_,w.freeze ⟨b,arr.size,none⟩ 1,_,?_,r1.freeze h2 (by simp [Hp.frz,upd]),hk⟩;have hs:w.shape? b=some (e',arr.size):=by simp [World.shape?,h4]
 simp [convert,run_underlying ht,run_underlying hu8,markStringish,hs]
theorem yjw {P:Program} {w0 w:World} {h:Hp} {K:zae} (r:Rep w0 h w) {src dst e:TypeId} (hs:P.underlying src=some .string) (ht:P.underlying dst=some (.slice e)) (hu8:P.underlying e=some (.int .u8)) {x:Value} (hd:sb x K h) :
  ∃ v w' h',(convert src dst x).run P w=.ok v w'∧Rep w0 h' w'∧K v h':=by
 obtain ⟨t,rfl,hk⟩:=hd;refine ⟨_,_,_,Go.Lib.run_convert_string_bytes w src dst e t hs ht hu8,?_,hk w.heap.size (grownCap w t.size 0 e) r.nx (grownCap_ge w t.size 0 e)⟩;have hold:=λk (hk:k<w.heap.size)=>Go.Lib.bytesWorld_at_old w e t k hk;have hnew:=Go.Lib.bytesWorld_at_new w e t;have hnb:∀ k,k<h.nx -> k≠w.heap.size:=λk hk=>by have := r.nx; omega
 refine ⟨r.below.trans ⟨?_,?_,?_,by rw [Go.Lib.bytesWorld_size]; omega,λk hk=>hold k (Nat.lt_of_lt_of_le hk r.below.size)⟩,?_,by rw [Go.Lib.bytesWorld_size]; exact Nat.le_refl _,by have := r.base; have := r.nx; simp only; omega,?_,?_,?_⟩
 ·simp [Go.Lib.bytesWorld,World.freeze,World.alloc,World.drew,-World.alloc_eq,-World.drew_eq]
 ·simp [Go.Lib.bytesWorld,World.freeze,World.alloc,World.drew,-World.alloc_eq,-World.drew_eq]
 ·simp [Go.Lib.bytesWorld,World.freeze,World.alloc,World.drew,-World.alloc_eq,-World.drew_eq]
 ·have := r.dr
  simp [Go.Lib.bytesWorld,World.freeze,World.alloc,World.drew,-World.alloc_eq,-World.drew_eq]; omega
 ·intro k cs hk;simp only [upd] at hk
  split at hk
  ·rename_i he
   subst he;cases hk;refine ⟨Nat.lt_succ_self _,_,e,_,hnew,?_⟩
   simp [Go.Lib.bytesCells]
  ·obtain ⟨a1,arr,e',z,a2,a3⟩:=r.fr k cs hk;exact ⟨by have := r.nx; simp only; omega,arr,e',z,(hold k (Nat.lt_of_lt_of_le a1 r.nx)).trans a2,a3⟩
 ·intro k e' cs tot hk;obtain ⟨a1,a2,a3,arr,a4,a5⟩:=r.cl k e' cs tot hk;exact ⟨by have := r.nx; simp only; omega,a2,by simp only [upd,if_neg (hnb k a1)]; exact a3,arr,(hold k (Nat.lt_of_lt_of_le a1 r.nx)).trans a4,a5⟩
 ·intro k o hk;obtain ⟨a1,a2,a3,a4,a5⟩:=r.ob k o hk;exact ⟨by have := r.nx; simp only; omega,a2,by simp only [upd,if_neg (hnb k a1)]; exact a3,(hold k (Nat.lt_of_lt_of_le a1 r.nx)).trans a4,a5⟩
theorem yhz {P:Program} {w0 w:World} {h:Hp} {K:zae} (r:Rep w0 h w) {t e:TypeId} {i:TypeInfo} {z:Value} (ht:P.underlying t=some (.slice e)) (hi:P.info? e=some i) (hz:i.zero=some z) (hzs:z.cells.size=i.size) (hsz:0<i.size)
  {l c:Value} (hd:mks e z.cells.toList i.size i.bytes l c K h):∃ v w' h',(Instr.makeSlice t l c).run P w=.ok v w'∧Rep w0 h' w'∧K v h':=by
 obtain ⟨kl,n,kc,m,rfl,rfl,hnm,hby,hmx,hk⟩:=hd
 have hb':(i.bytes:Int)*(m:Int)≤281474976710656:=by
  have h:((i.bytes*m:Nat):Int)≤281474976710656:=by rw [Nat.mul_comm]; omega
  rwa [Int.natCast_mul] at h
 have hr:=run_make (P:=P) w t e i z ht hi hz kl kc n m (by omega) (by omega) hb' (by simp [maxLen] at hmx; omega);simp only [Int.toNat_natCast] at hr;refine ⟨_,_,h.new w.heap.size (.cells e (List.replicate n z.cells.toList).flatten (m*i.size)),hr,?_,hk _ r.nx⟩;refine r.alloc _ (some (.cells e _ _)) ⟨_,rfl,by rw [size_madeCells],?_⟩;rw [← hzs];exact zsi n z.cells (by omega) m hnm
theorem yg2 {P:Program} {w0 w:World} {h:Hp} {K:zae} (r:Rep w0 h w) {t:TypeId} (hd:mkm K h):∃ v w' h',(Instr.makeMap t none).run P w=.ok v w'∧Rep w0 h' w'∧K v h' :=
 ⟨.map (some w.heap.size),w.alloc (.map #[] 0),_,rfl,r.alloc (.map #[] 0) (some (.obj (.map #[] 0))) ⟨rfl,trivial⟩,hd w.heap.size r.nx⟩
theorem yhy {P:Program} {w0 w:World} {h:Hp} {K:zae} (r:Rep w0 h w) {t:TypeId} {x ix:Value} {ok:Bool} (hd:lkp P t x ix ok K h):∃ v w' h',(Instr.lookup t x ix ok).run P w=.ok v w'∧Rep w0 h' w'∧K v h':=by
 obtain ⟨b,es,clock,v,hx,hM,hr,hk⟩:=hd;exact ⟨v,w,h,hr w (r.ob b _ hM).2.2.2.1,r,hk⟩
theorem ygv {P:Program} {w0 w:World} {h:Hp} {K:zae} (r:Rep w0 h w) {t:TypeId} {m k x:Value} (hd:mup P t m k x K h):∃ w' h',(Instr.mapUpdate t m k x).run P w=.ok () w'∧Rep w0 h' w'∧K undef h':=by
 obtain ⟨b,es,clock,es',clock',hx,hM,hr,hk⟩:=hd;obtain ⟨h1,h2,h3,h4,_⟩:=r.ob b _ hM;have hlt:b<w.heap.size:=(Array.getElem?_eq_some_iff.1 h4).1;refine ⟨_,_,hr w h4,?_,hk⟩;refine r.turn (w':={ w with heap:=w.heap.setIfInBounds b (.map es' clock') }) (b:=b) h2 h3 rfl rfl rfl (by simp) (by simpa using hlt) (λq hq _=>?_) (some (.obj (.map es' clock'))) h.nx (Nat.le_refl _) (by simpa using r.nx) h1 ⟨?_,trivial⟩
 ·simp [Array.getElem?_setIfInBounds,Ne.symm hq]
 ·simp [Array.getElem?_setIfInBounds,hlt]
section
variable {P:Program} {w0 w:World} {env:Env} {ds:List Deferred} {o:Oper} {h:Hp} {next:Act -> World -> Prop} {Q:Exit -> Act -> World -> Prop}
theorem zg3 {v:Value} {w':World} (hr:(execOp (ev env) o).run P w=.ok (.value v) w') (hn:next ⟨zeu env o.dst v,ds⟩ w'):o.wp P ⟨env,ds⟩ w next Q:=by
 have hr':(execOp (Act.mk env ds).eval o).run P w=.ok (.value v) w':=hr;unfold Oper.wp;rw [hr'];show next ((Act.mk env ds).put o.dst v) w';rw [zib]; exact hn
theorem zzn {w':World} (hr:(execOp (ev env) o).run P w=.ok .skip w') (hn:next ⟨zeu env o.dst undef,ds⟩ w'):o.wp P ⟨env,ds⟩ w next Q:=by
 have hr':(execOp (Act.mk env ds).eval o).run P w=.ok .skip w':=hr;unfold Oper.wp;rw [hr'];show next ((Act.mk env ds).put o.dst undef) w';rw [zib]; exact hn
theorem ykb {f:FuncId} {args:Array Value} (hr:(execOp (ev env) o).run P w=.ok (.enter f args) w) {K:zae} {E:zb2} (r:Rep w0 h w) (hl:E [] zcu -> w0.drawn=0) (hc:call P f args K E h)
  (hn:∀ v w' h',Rep w0 h' w' -> K v h' -> next ⟨zeu env o.dst v,ds⟩ w') (hE:∀ c w' h',Rep w0 h' w' -> E c h' -> Q (.panic c) ⟨env,ds⟩ w'):o.wp P ⟨env,ds⟩ w next Q:=by
 have hr':(execOp (Act.mk env ds).eval o).run P w=.ok (.enter f args) w:=hr;unfold Oper.wp;rw [hr'];show Calls P f args w _;refine (hc w0 w hl r).mono λe w' he=>?_;obtain ⟨h',r',he⟩:=he;cases e with
 | returned v=>show next ((Act.mk env ds).put o.dst v) w'; rw [zib]; exact hn v w' h' r' he
 | panicked c=>exact hE c w' h' r' he
 | outgrown=>exact he.elim
theorem yc7 {fv:Value} {args:Array Value} {K:zae} {E:zb2} (hc:zbs P fv args K E h) :
  (∃ f args',(∀ w,(do let d ← Deferred.ofValue fv args; invoke d.target d.args:Sem Next).run P w=.ok (.enter f args') w)∧call P f args' K E h) ∨
  (∀ w0 w,Rep w0 h w -> ∃ v w' h',(do let d ← Deferred.ofValue fv args; invoke d.target d.args:Sem Next).run P w=.ok (.value v) w'∧Rep w0 h' w'∧K v h'):=by
 unfold zbs at hc
 split at hc
 ·rename_i f first captured
  rw [zj4,zj4] at hc
  rcases hc with ⟨hf,hc⟩ | hc
  ·left
   refine ⟨f,_,λw=>?_,hc⟩;cases hfn:P.funcs[f]? with
   | none=>simp [hfn] at hf
   | some fn=>
    simp [hfn] at hf
    obtain ⟨bd,hb⟩:=Option.isSome_iff_exists.1 hf.2
    simp [Deferred.ofValue,invoke,callFunc,hfn,hf.1,hb]
  ·right
   intro w0 w r;obtain ⟨v,w',h',hr,r',hk⟩:=hc w0 w r;refine ⟨v,w',h',?_,r',hk⟩
   simpa [Deferred.ofValue,invoke] using hr
 ·cases hc
theorem zum {P:Program} {w0 w:World} {h:Hp} (r:Rep w0 h w) {t e:TypeId} {i:TypeInfo} {v:Value} {len:Nat} {parts:Array (Nat×Value)} (hu:P.underlying t=some (.slice e)) (hi:P.info? e=some i) (hzv:i.zero=some v)
  (hle:len*i.size≤2 ^ 24) {K:zae} (hd:nws e len (bsC v.cells i.size len parts) K h):∃ u w' h',(Instr.buildSlice t len parts).run P w=.ok u w'∧Rep w0 h' w'∧K u h':=by
 obtain ⟨cs,hcs,hk⟩:=hd;obtain ⟨b,hb,hrun,hrep⟩:=zrt (P:=P) r e cs;refine ⟨_,_,_,?_,hrep,hk b hb⟩;unfold bsC at hcs;have hn:¬ (len*i.size>2 ^ 24):=Nat.not_lt.2 hle
 by_cases h0:len*i.size=0
 ·have hr:(Array.range (len*i.size)).map (λx=>v.cells[x%v.cells.size]!)=(Array.range (len*i.size)).map (λx=>(#[]:Array Value)[x%(#[]:Array Value).size]!):=by rw [h0]; simp
  rw [hr] at hcs;unfold Instr.buildSlice;rw [Sem.run_bind,run_underlying hu];simp only [Result.andThen_ok,Sem.run_bind,zba hi];rw [if_neg hn,if_pos h0];simp only [Result.andThen_ok,Sem.run_bind,Sem.run_pure];rw [hcs];simp only [Result.andThen_ok,Sem.run_bind,Sem.run_pure,hrun]
 ·unfold Instr.buildSlice;rw [Sem.run_bind,run_underlying hu];simp only [Result.andThen_ok,Sem.run_bind,zba hi];rw [if_neg hn,if_neg h0];simp only [Result.andThen_ok,Sem.run_bind,Sem.run_pure,zf0 hi hzv];rw [hcs];simp only [Result.andThen_ok,Sem.run_bind,Sem.run_pure,hrun]
theorem ypw {P:Program} {t xt:TypeId} {d:TypeDesc} {i:TypeInfo} {z u v:Value} (hu:P.underlying t=some d) (hni:∀ ms,d≠.interface ms) (hi:P.info? t=some i) (hz:i.zero=some z) (hv:taV t z u=some v) (w:World):(Instr.typeAssert u xt t true).run P w=.ok v w:=by
 have hzr:=zf0 hi hz w;unfold Instr.typeAssert;simp only [Sem.run_bind,run_underlying hu,Result.andThen_ok];cases u<;>simp only [taV,reduceCtorEq,Option.some.injEq] at hv
 ·subst hv
  rename_i t' x
  by_cases h:t'=t<;>(cases d<;>first | (exact absurd rfl (hni _)) | simp [h,hzr])
 ·subst hv;cases d<;>first | (exact absurd rfl (hni _)) | simp [hzr]
theorem zp6 {K:zae} {E:zb2} (r:Rep w0 h w) (hl:E [] zcu -> w0.drawn=0) (hd:opD P env o K E h) (hn:∀ v w' h',Rep w0 h' w' -> K v h' -> next ⟨zeu env o.dst v,ds⟩ w') (hE:∀ c w' h',Rep w0 h' w' -> E c h' -> Q (.panic c) ⟨env,ds⟩ w'):o.wp P ⟨env,ds⟩ w next Q:=by
 cases hq:zpi P o.op with
 | true=>
  obtain ⟨v,hk,hkd,hrun⟩:=zmw hq hd;exact zg3 (hrun w0 h w r hkd) (hn v w h r hk)
 | false=>
  have val:∀ (s:Sem Value) (v:Value) (w':World),s.run P w=.ok v w' -> (do pure (.value (← s)):Sem Next).run P w=.ok (.value v) w':=λs v w' hs=>by
   simp only [Sem.run_bind,hs,Result.andThen_ok,Sem.run_pure]
  have fin:∀ (s:Sem Value),execOp (ev env) o=(do pure (.value (← s)):Sem Next) -> (∃ v w' h',s.run P w=.ok v w'∧Rep w0 h' w'∧K v h') -> o.wp P ⟨env,ds⟩ w next Q:=λs he ⟨v,w',h',hr,hrep,hk⟩=>
   zg3 (by rw [he]; exact val s v w' hr) (hn v w' h' hrep hk)
  obtain ⟨dst,op,type,pos,after,guard⟩:=o;cases op<;>simp only [zpi,zzt,Bool.false_or,Bool.or_false,reduceCtorEq,Bool.or_eq_false_iff] at hq<;>simp only [opD,zwe] at hd
  case alloc t=>
   split at hd
   ·rename_i z hz
    obtain ⟨i,v,hi,hzv,rfl⟩:=zhg hz;refine fin (Instr.alloc t true (.tuple #[])) rfl ?_;obtain ⟨u,w',h',hr,hrep,hk⟩:=ya3 (P:=P) r (v:=v) hd;refine ⟨u,w',h',?_,hrep,hk⟩;simp only [Instr.alloc,Sem.run_bind,zf0 hi hzv,Result.andThen_ok]
    simpa using hr
   ·cases hd
  case box t x=>
   refine fin (Instr.box t (ev env x)) rfl ?_;obtain ⟨u,w',h',hr,hrep,hk⟩:=ya3 (P:=P) r hd;exact ⟨u,w',h',hr,hrep,hk⟩
  case typeAssert x xt t ok=>
   cases ok with
   | false=>cases hd
   | true=>
    simp only at hd
    split at hd
    ·cases hd
    ·rename_i d z hni hu hz
     obtain ⟨v,hv,hk⟩:=hd;obtain ⟨i,hi,hz⟩:=Option.bind_eq_some_iff.1 hz;refine zg3 (w':=w) ?_ (hn v w h r hk);simp only [execOp];exact val _ _ _ (ypw hu (λms e=>hni ms e) hi hz hv w)
    ·cases hd
  case buildSlice t len parts=>
   split at hd
   ·rename_i e hu
    split at hd
    ·rename_i i z hi hz
     split at hd
     ·rename_i hle
      obtain ⟨i',v,hi',hzv,rfl⟩:=zhg hz;rw [hi] at hi'; cases hi';obtain ⟨u,w',h',hr,hrep,hk⟩:=zum r hu hi hzv hle hd;exact zg3 (by simp only [execOp]; exact val _ _ _ hr) (hn u w' h' hrep hk)
     ·cases hd
    ·cases hd
   ·cases hd
  case store t a x=>
   split at hd
   ·rename_i i hi
    obtain ⟨w',h',hr,hrep,hk⟩:=yl0 (P:=P) r hi hd;refine zzn (w':=w') ?_ (hn undef w' h' hrep hk);simp only [execOp,Sem.run_bind,hr,Result.andThen_ok,Sem.run_pure]
   ·cases hd
  case convert src dst' x=>
   split at hd
   ·rename_i h1 h2; simp [h1,h2] at hq
   ·rename_i h1 h2; simp [h1,h2] at hq
   ·rename_i h1 h2; simp [h1,h2] at hq
   ·rename_i e e' hs hdst
    split at hd
    ·rename_i hu8
     split at hd
     ·rename_i he
      subst he;rw [hs] at hdst;cases hdst;exact fin (convert src src (ev env x)) rfl (yii r hs hu8 hd)
     ·cases hd
    ·cases hd
   ·rename_i e hs hdst
    split at hd
    ·rename_i hu8
     exact fin (convert src dst' (ev env x)) rfl (yjw r hs hdst hu8 hd)
    ·cases hd
   ·cases hd
  case makeMap t c=>
   cases c with
   | none=>exact fin (Instr.makeMap t none) rfl (yg2 r hd)
   | some c=>cases hd
  case lookup t x ix ok=>exact fin (Instr.lookup t (ev env x) (ev env ix) ok) rfl (yhy r hd)
  case mapUpdate t m k x=>
   obtain ⟨w',h',hr,hrep,hk⟩:=ygv (P:=P) r hd;refine zzn (w':=w') ?_ (hn undef w' h' hrep hk);simp only [execOp,Sem.run_bind,hr,Result.andThen_ok,Sem.run_pure]
  case makeSlice t l c=>
   split at hd
   ·rename_i e hu
    split at hd
    ·rename_i i z hi hz
     split at hd
     ·rename_i hc
      obtain ⟨i',v,hi',hzv,rfl⟩:=zhg hz;rw [hi] at hi'; cases hi';exact fin (Instr.makeSlice t (ev env l) (ev env c)) rfl (yhz r hu hi hzv hc.1 hc.2 hd)
     ·cases hd
    ·cases hd
   ·cases hd
  case panic x=>
   split at hd
   ·rename_i t v hx
    have:(execOp (Act.mk env ds).eval ⟨dst,.panic x,type,pos,after,guard⟩).run P w=.halt (.panic (.iface t v)) w:=by
     have hx':(Act.mk env ds).eval x=.iface t v:=hx;simp only [execOp,hx',Instr.panic]; rfl
    unfold Oper.wp;rw [this];exact hE _ w h r hd
   ·cases hd
  case call c=>
   obtain ⟨callee,args,ats⟩:=c;cases callee with
   | value f=>
    have hd':zbs P (ev env f) (args.map (ev env)) K E h:=by
     cases f<;>first | exact hd | (simp only at hd; exact hd)
    rcases yc7 hd' with ⟨g,args',hrun,hc⟩ | hx
    ·refine ykb (f:=g) (args:=args') ?_ r hl hc hn hE;have := hrun w
     simpa [execOp,resolve] using this
    ·obtain ⟨v,w',h',hr,r',hk⟩:=hx w0 w r;refine zg3 (v:=v) (w':=w') ?_ (hn v w' h' r' hk)
     simpa [execOp,resolve] using hr
   | invoke rc m=>simp only at hd
   | builtin b=>
    cases b<;>simp at hq
    all_goals simp only at hd
    case append=>
     split at hd
     case h_2 t u s x hb ha hx=>
      have ea:args.map (ev env) = #[s,x]:=by rw [← Array.toList_inj]; exact hx
      have et:ats = #[t,u]:=by rw [← Array.toList_inj]; exact ha
      split at hd
      ·rename_i e hu
       split at hd
       ·rename_i i z hi hz
        split at hd
        ·rename_i hc
         obtain ⟨hc1,hc2⟩:=hc
         obtain ⟨i',v,hi',hzv,rfl⟩:=zhg hz
         rw [hi] at hi'; cases hi'
         have ea':Array.map (ev env) args = #[s,x]:=ea
         split at hd
         case isFalse=>
          split at hd
          ·rename_i kn hu2
           obtain ⟨u',w',h',hr,hrep,hk⟩:=yfs (P:=P) (ty:=type) r hu hu2 hi hzv hc1 hc2 hd
           refine zg3 (v:=u') (w':=w') ?_ (hn u' w' h' hrep hk)
           simp only [execOp,resolve,ea',et,Sem.run_bind,Sem.run_pure,Result.andThen_ok,invoke,builtin,hr]
          ·rename_i e' hu2
           have hd:=hd.elim (λhd=>zy6 (P:=P) (ty:=type) r hu hi hzv hc1 hc2 hd) (λhd=>zrl (P:=P) (ty:=type) r hu hi hd)
           obtain ⟨u',w',h',hr,hrep,hk⟩:=hd
           have hr:=(zyj (ty:=type) hu hi hu2 s x w).trans hr
           refine zg3 (v:=u') (w':=w') ?_ (hn u' w' h' hrep hk)
           simp only [execOp,resolve,ea',et,Sem.run_bind,Sem.run_pure,Result.andThen_ok,invoke,builtin,hr]
          ·cases hd
         rename_i htu
         subst htu
         have hd:=hd.elim (λhd=>zy6 (P:=P) (ty:=type) r hu hi hzv hc1 hc2 hd) (λhd=>zrl (P:=P) (ty:=type) r hu hi hd)
         obtain ⟨u,w',h',hr,hrep,hk⟩:=hd
         refine zg3 (v:=u) (w':=w') ?_ (hn u w' h' hrep hk)
         simp only [execOp,resolve,ea',et,Sem.run_bind,Sem.run_pure,Result.andThen_ok,invoke,builtin,hr]
        ·cases hd
       ·cases hd
      ·cases hd
     all_goals first | (cases hd; done) | (rename_i hb _ _; cases hb; done) | (rename_i hb _; cases hb; done)
    case copy=>
     split at hd
     case h_3 t u d s hb ha hx=>
      have ea:args.map (ev env) = #[d,s]:=by rw [← Array.toList_inj]; exact hx
      have et:ats = #[t,u]:=by rw [← Array.toList_inj]; exact ha
      split at hd
      ·rename_i e hu
       split at hd
       ·rename_i i hi
        obtain ⟨u',w',h',hr,hrep,hk⟩:=yhe (P:=P) (u:=u) (ty:=type) r hu hi hd;refine zg3 (v:=u') (w':=w') ?_ (hn u' w' h' hrep hk);simp only [execOp,resolve,ea,et,Sem.run_bind,Sem.run_pure,Result.andThen_ok,invoke,builtin,hr]
       ·cases hd
      ·cases hd
     all_goals first | (cases hd; done) | (rename_i hb _ _; cases hb; done) | (rename_i hb _; cases hb; done)
    case clear=>
     split at hd
     case h_4 t x hb ha hx=>
      have ea:args.map (ev env) = #[x]:=by rw [← Array.toList_inj]; exact hx
      have et:ats = #[t]:=by rw [← Array.toList_inj]; exact ha
      split at hd
      ·rename_i e hu
       split at hd
       ·rename_i i z hi hz
        split at hd
        ·rename_i hc
         obtain ⟨i',v,hi',hzv,rfl⟩:=zhg hz
         rw [hi] at hi'; cases hi'
         obtain ⟨u',w',h',hr,hrep,hk⟩:=ygj (P:=P) (ty:=type) r hu hi hzv hc.1 hc.2 hd
         refine zg3 (v:=u') (w':=w') ?_ (hn u' w' h' hrep hk)
         simp only [execOp,resolve,ea,et,Sem.run_bind,Sem.run_pure,Result.andThen_ok,invoke,builtin,hr]
        ·cases hd
       ·cases hd
      ·cases hd
     all_goals first | (cases hd; done) | (rename_i hb _ _; cases hb; done) | (rename_i hb _; cases hb; done)
    all_goals (split at hd<;>first | (cases hd; done) | (rename_i hb _ _; cases hb; done) | (rename_i hb _; cases hb; done))
  all_goals first | (cases hd; done) | (simp at hq; done)
end
def QW (w0:World) (ds:List Deferred) (Q:QD):Exit -> Act -> World -> Prop:=λe a w=>∃ env h,a=⟨env,ds⟩∧Rep w0 h w∧Q e env h
def zg6 (Q:QD):Prop:=∀ c env env' h,Q (.panic c) env h -> Q (.panic c) env' h
section
variable {P:Program} {w0:World} {ds:List Deferred} {ops:Array Oper} {Q:QD}
theorem zmc {env:Env} {o:Oper} {j:Nat} {want:Bool} (hg:o.guard=some (j,want)) :
  Region.wanted o (yielded ops env)=isB (gv ops env j) want:=by
 unfold Region.wanted gv yielded isB;rw [hg];simp only;cases ((ops[j]?).bind (·.dst)).bind (env[·]?) with
 | none=>rfl
 | some v=>cases v<;>simp<;>rfl
theorem zqi {env:Env} {o:Oper} {i:Nat} (hi:ops[i]?=some o) {K:zae} {E:zb2} {h:Hp} {w:World} (r:Rep w0 h w) (hl:E [] zcu -> w0.drawn=0) (hd:opG P ops env o K E h) {next:Act -> World -> Prop} {Qw:Exit -> Act -> World -> Prop}
  (hn:∀ v w' h',Rep w0 h' w' -> K v h' -> next ⟨zeu env o.dst v,ds⟩ w') (hE:∀ c w' h',Rep w0 h' w' -> E c h' -> Qw (.panic c) ⟨env,ds⟩ w'):wpOp P ops Qw i next ⟨env,ds⟩ w:=by
 unfold wpOp;rw [hi];simp only;unfold opG at hd;cases hg:o.guard with
 | none=>
  rw [hg] at hd;have:Region.wanted o (yielded ops env)=true:=by unfold Region.wanted; rw [hg]
  rw [if_pos this];exact .inl (zp6 r hl hd hn hE)
 | some p=>
  obtain ⟨j,want⟩:=p;rw [hg] at hd;simp only [gdK] at hd;rw [zmc hg]
  by_cases hb:isB (gv ops env j) want=true
  ·rw [if_pos hb] at hd ⊢;exact .inl (zp6 r hl hd hn hE)
  ·rw [if_neg hb] at hd;rw [if_neg hb,zib];exact hn undef w h r hd
theorem yb6 (hz:∀ env,Q (.panic []) env zcu -> w0.drawn=0):∀ (k:Nat) (env:Env) (h:Hp) (w:World),k≤ops.size -> Rep w0 h w -> zjf P ops Q (ops.toList.drop k) env h -> wpOps P ops (QW w0 ds Q) (List.range' k (ops.size - k)) ⟨env,ds⟩ w:=by
 intro k
 induction hk:ops.size - k generalizing k with
 | zero=>
  intro env h w hle r hd;have:ops.toList.drop k=[]:=List.drop_eq_nil_of_le (by simp; omega);rw [this] at hd;exact ⟨env,h,rfl,r,hd⟩
 | succ n ih=>
  intro env h w hle r hd;have hlt:k<ops.size:=by omega
  have hi:ops[k]?=some ops[k]:=by simp [hlt]
  have hdrop:ops.toList.drop k=ops[k]::ops.toList.drop (k+1):=by
   rw [List.drop_eq_getElem_cons (by simpa using hlt)]; simp
  rw [hdrop] at hd;rw [List.range'_succ,wpOps_cons];refine zqi hi r (hz env) hd (λv w' h' r' hk'=>?_) (λc w' h' r' he=>⟨env,h',rfl,r',he⟩);exact ih (k+1) (by omega) _ h' w' (by omega) r' hk'
def zwj (T:zii) (TK':TK):Prop:=∀ p∈T,(∃ k,(p.1,k)∈TK'∧∀ w,(∃ w0 h,Rep w0 h w∧k h) -> p.2 w)∨(∀ w,(∃ w0 h,Rep w0 h w) -> p.2 w)
theorem zow:∀ {T:TK} {h:Hp} {X:Prop},ztd T h X -> (∀ p∈T,p.2 h)∧X
 | [],_,_,hx=>⟨by simp,hx⟩
 | p::r,h,X,hx=>by
  obtain ⟨h1,h2⟩:=hx;obtain ⟨h3,h4⟩:=zow h2;exact ⟨λq hq=>by rcases List.mem_cons.1 hq with rfl | hq; exact h1; exact h3 q hq,h4⟩
theorem zwj.holds {T:zii} {TK':TK} (hi:zwj T TK') {h:Hp} {w:World} (r:Rep w0 h w) (hall:∀ p∈TK',p.2 h):∀ p∈T,p.2 w:=λp hp=>by
 rcases hi p hp with ⟨k,hk,hw⟩ | hw
 ·exact hw w ⟨w0,h,r,hall _ hk⟩
 ·exact hw w ⟨w0,h,r⟩
theorem zwj.later {T:zii} {TK':TK} (hi:zwj T TK') (j:Nat):zwj (later ops T j) (zh0 ops TK' j):=λp hp=>by
 simp only [K.later,List.mem_filter] at hp
 rcases hi p hp.1 with ⟨k,hk,hw⟩ | hw
 ·exact .inl ⟨k,by simp only [zh0,List.mem_filter]; exact ⟨hk,hp.2⟩,hw⟩
 ·exact .inr hw
theorem zh4 (hp:zg6 Q) (hz:∀ env,Q (.panic []) env zcu -> w0.drawn=0) (hsel:∀ (j:Nat) (o:Oper) cs b,ops[j]?=some o -> o.op≠.select cs b):∀ (n:Nat) (listed:Array Bool) (l:zlh) (T:zii) (TK':TK) (env:Env) (h:Hp) (w:World),
  zh3 P ops n listed=some l -> zj3 ops listed -> zwj T TK' -> (∀ p∈T,p.2 w) -> Rep w0 h w -> zf7 P ops Q l TK' env h ->
  zi9 P ops (QW w0 ds Q) n listed T ⟨env,ds⟩ w
 | 0,listed,l,T,TK',env,h,w,hl,_,_,_,r,hd=>by
  simp only [zh3] at hl
  split at hl
  ·rename_i hr
   cases hl;exact ⟨hr,env,h,rfl,r,hd⟩
  ·cases hl
 | n+1,listed,l,T,TK',env,h,w,hl,hc,hT,hTw,r,hd=>by
  simp only [zh3] at hl;cases hr:Region.ready .any ops listed with
  | nil=>
   rw [hr] at hl;cases hl;exact ⟨λ_=>⟨env,h,rfl,r,hd⟩,λi hi=>by rw [hr] at hi; cases hi⟩
  | cons i0 rs0=>
   rw [hr] at hl;simp only at hl;cases hf:(i0::rs0).find? (yf9 P ops listed) with
   | some i=>
    rw [hf] at hl;simp only at hl;obtain ⟨l',hl',rfl⟩:=Option.map_eq_some_iff.1 hl;have hfi:=List.find?_some hf;have him:i∈Region.ready .any ops listed:=by rw [hr]; exact List.mem_of_find?_eq_some hf
    simp only [yf9,Bool.and_eq_true] at hfi;cases ho:ops[i]? with
    | none=>rw [ho] at hfi; simp at hfi
    | some o=>
     rw [ho] at hfi;simp only at hfi;simp only [zf7,ho] at hd;have hfree:=Region.free_spec ho hfi.2
     have hQ:∀ (v:Value) c a w,QW w0 ds Q (.panic c) (a.put o.dst v) w -> QW w0 ds Q (.panic c) a w:=by
      rintro v c a w ⟨env',h',he,r',hq⟩;obtain ⟨tm,df⟩:=a
      have:df=ds:=by
       have := congrArg Act.defers he;cases hdst:o.dst<;>simpa [Act.put,hdst] using this
      subst this;exact ⟨tm,h',rfl,r',hp _ _ _ _ hq⟩
     have key:∃ v,(zf7 P ops Q l' (if zlc P o.op then (i,zox P ops env o v)::TK' else TK') (zeu env o.dst v) h) ∧
       ∃ S:World -> Prop,zfs P ops S o v ⟨env,ds⟩∧S w∧((∃ k,(zlc P o.op=true∧k=zox P ops env o v)∧∀ w,(∃ w0 h,Rep w0 h w∧k h) -> S w)∨(∀ w,(∃ w0 h,Rep w0 h w) -> S w)):=by
      have nr:zlc P o.op=false -> ∀ v h,keepD P env o v h:=by
       intro hr v h;unfold keepD;unfold zlc at hr
       split<;>simp_all
       split<;>simp_all
      unfold opG at hd;cases hgd:o.guard with
      | none=>
       rw [hgd] at hd;simp only at hd;obtain ⟨v,hk,hkeep,hrun⟩:=zmw hfi.1 hd;have hwant:Region.wanted o (yielded ops env)=true:=by unfold Region.wanted; rw [hgd]
       have hkg:zox P ops env o v=keepD P env o v:=by funext h; unfold zox; rw [hgd]
       refine ⟨v,hk,λw=>∃ w0 h,Rep w0 h w∧keepD P env o v h,λw ⟨w1,h1,r1,k1⟩=>.inl ⟨hwant,hrun w1 h1 w r1 k1⟩,⟨w0,h,r,hkeep⟩,?_⟩
       by_cases hload:zlc P o.op=true
       ·exact .inl ⟨_,⟨hload,rfl⟩,λw hw=>by rw [hkg] at hw; exact hw⟩
       ·exact .inr λw ⟨w1,h1,r1⟩=>⟨w1,h1,r1,nr (by simpa using hload) v h1⟩
      | some p=>
       obtain ⟨j,want⟩:=p;rw [hgd] at hd;simp only [gdK] at hd;have hw2:=zmc (ops:=ops) (env:=env) hgd
       by_cases hb:isB (gv ops env j) want=true
       ·rw [if_pos hb] at hd;obtain ⟨v,hk,hkeep,hrun⟩:=zmw hfi.1 hd;have hkg:∀ h,zox P ops env o v h -> keepD P env o v h:=λh hh=>by unfold zox at hh; rw [hgd] at hh; exact hh hb
        refine ⟨v,hk,λw=>∃ w0 h,Rep w0 h w∧keepD P env o v h,λw ⟨w1,h1,r1,k1⟩=>.inl ⟨hw2.trans hb,hrun w1 h1 w r1 k1⟩,⟨w0,h,r,hkeep⟩,?_⟩
        by_cases hload:zlc P o.op=true
        ·exact .inl ⟨_,⟨hload,rfl⟩,λw ⟨w1,h1,r1,k1⟩=>⟨w1,h1,r1,hkg h1 k1⟩⟩
        ·exact .inr λw ⟨w1,h1,r1⟩=>⟨w1,h1,r1,nr (by simpa using hload) v h1⟩
       ·rw [if_neg hb] at hd;exact ⟨undef,hd,λ_=>True,λw _=>.inr ⟨by rw [hw2]; simpa using hb,rfl⟩,trivial,.inr λ_ _=>trivial⟩
     obtain ⟨v,hden,S,hy,hS,hSk⟩:=key;refine yc0 ho hsel (λc a w=>hQ v c a w) n listed T ⟨env,ds⟩ w hc (λj oj hj hne hun hno=>hfree j oj hj hne hun hno) him hy hS hTw ?_;rw [zib];refine zh4 hp hz hsel n _ l' _ _ _ h w hl' (zjh hc him) ?_ ?_ r hden
     ·intro p hp'
      rcases List.mem_cons.1 hp' with rfl | hp'
      ·rcases hSk with ⟨k,⟨hk1,rfl⟩,hk2⟩ | hk
       ·exact .inl ⟨_,by rw [if_pos hk1]; exact List.mem_cons_self ..,hk2⟩
       ·exact .inr hk
      ·rcases hT p hp' with ⟨k,hk,hw'⟩ | hw'
       ·exact .inl ⟨k,by split; exact List.mem_cons_of_mem _ hk; exact hk,hw'⟩
       ·exact .inr hw'
     ·intro p hp'
      rcases List.mem_cons.1 hp' with rfl | hp'
      ·exact hS
      ·exact hTw p hp'
   | none=>
    rw [hf] at hl;simp only at hl
    split at hl
    ·rename_i i heq
     cases heq;obtain ⟨l',hl',rfl⟩:=Option.map_eq_some_iff.1 hl;have him:i0∈Region.ready .any ops listed:=by rw [hr]; simp
     cases ho:ops[i0]? with
     | none=>simp only [zf7,ho] at hd
     | some o=>
      simp only [zf7,ho] at hd;refine zts hr (by simp) (λj hj=>?_);obtain rfl:j=i0:=by simpa using hj
      refine zqi ho r (hz env) hd (λv w' h' r' hk=>?_) (λc w' h' r' he=>⟨env,h',rfl,r',he⟩);obtain ⟨ha,hk⟩:=zow hk;have hT':=hT.later (ops:=ops) j;have hTw':=hT'.holds r' ha;exact ⟨hTw',zh4 hp hz hsel n _ l' _ _ _ h' w' hl' (zjh hc him) hT' hTw' r' hk⟩
    ·rename_i i j heq
     cases heq;cases hp1:zh3 P ops n (listed.setIfInBounds i0 true) with
     | none=>rw [hp1] at hl; simp at hl
     | some p=>
     cases hp2:zh3 P ops n (listed.setIfInBounds j true) with
     | none=>rw [hp1,hp2] at hl; simp at hl
     | some q=>
     rw [hp1,hp2] at hl;simp only [Option.some.injEq] at hl;subst hl
     have step:∀ (x:Nat) (px:zlh),x∈Region.ready .any ops listed -> zh3 P ops n (listed.setIfInBounds x true)=some px ->
       (match ops[x]? with
        | some o=>opG P ops env o (λv h=>ztd (zh0 ops TK' x) h (zf7 P ops Q px (zh0 ops TK' x) (zeu env o.dst v) h)) (λc=>Q (.panic c) env)
        | none=>λ_=>False) h -> ∃ o,ops[x]?=some o∧opG P ops env o (λv h=>ztd (zh0 ops TK' x) h (zf7 P ops Q px (zh0 ops TK' x) (zeu env o.dst v) h)) (λc=>Q (.panic c) env) h:=λx px _ _ hx=>by
      cases ho:ops[x]? with
      | none=>rw [ho] at hx; exact hx.elim
      | some o=>rw [ho] at hx; exact ⟨o,rfl,hx⟩
     simp only [zf7,bth] at hd;obtain ⟨hd1,hd2⟩:=hd;have m1:i0∈Region.ready .any ops listed:=by rw [hr]; simp
     have m2:j∈Region.ready .any ops listed:=by rw [hr]; simp
     refine zts hr (by simp) (λx hx=>?_);have hx':x=i0∨x=j:=by simpa using hx
     rcases hx' with rfl | rfl
     ·obtain ⟨o,ho,hd⟩:=step _ p m1 hp1 hd1;refine zqi ho r (hz env) hd (λv w' h' r' hk=>?_) (λc w' h' r' he=>⟨env,h',rfl,r',he⟩);obtain ⟨ha,hk⟩:=zow hk;have hT':=hT.later (ops:=ops) x;have hTw':=hT'.holds r' ha;exact ⟨hTw',zh4 hp hz hsel n _ p _ _ _ h' w' hp1 (zjh hc m1) hT' hTw' r' hk⟩
     ·obtain ⟨o,ho,hd⟩:=step _ q m2 hp2 hd2;refine zqi ho r (hz env) hd (λv w' h' r' hk=>?_) (λc w' h' r' he=>⟨env,h',rfl,r',he⟩);obtain ⟨ha,hk⟩:=zow hk;have hT':=hT.later (ops:=ops) x;have hTw':=hT'.holds r' ha;exact ⟨hTw',zh4 hp hz hsel n _ q _ _ _ h' w' hp2 (zjh hc m2) hT' hTw' r' hk⟩
    ·cases hl
end
theorem zxv {Q:QD} (h:zg6 Q) (k:Env -> Hp -> Prop):zg6 (za6 k Q):=λc env env' hp hh=>h c env env' hp hh
theorem ydb {Q:QD} (h:zg6 Q) (id:Nat):zg6 (blk id Q):=λc env env' hp hh=>h c env env' hp hh
theorem ynj {Q:QD} (h:zg6 Q):zg6 (scp Q):=λc env env' hp hh=>h c env env' hp hh
def zev:Code -> Bool
 | .region _ _ d=>d
 | .seq a b=>zev a||zev b
 | .cond _ a b=>zev a||zev b
 | .block _ c=>zev c
 | .loop c=>zev c
 | .scope c=>zev c
 | _=>false
section
variable {P:Program} {w0:World} {ds:List Deferred}
theorem zph (hm:P.follows .mixedOrders=true):∀ (c:Code) (Q:QD) (env:Env) (h:Hp) (w:World),(zev c=true -> zg6 Q) -> (∀ env,Q (.panic []) env zcu -> w0.drawn=0) -> Rep w0 h w -> den P c Q env h -> c.wp P (QW w0 ds Q) ⟨env,ds⟩ w:=by
 intro c
 induction c with
 | skip=>exact λQ env h w _ _ r hd=>wp_skip ⟨env,h,rfl,r,hd⟩
 | label l=>exact λQ env h w _ _ r hd=>wp_label ⟨env,h,rfl,r,hd⟩
 | region id ops draw=>
  intro Q env h w hp hz r hd;simp only [den] at hd;cases draw with
  | false=>
   simp only [Bool.false_eq_true,if_false] at hd;refine wp_region ?_;have := yb6 (P:=P) (w0:=w0) (ds:=ds) (ops:=ops) (Q:=Q) hz 0 env h w (Nat.zero_le _) r (by simpa using hd)
   rwa [Nat.sub_zero,← List.range_eq_range'] at this
  | true=>
   simp only [if_true] at hd;cases hl:zh3 P ops ops.size (Array.replicate ops.size false) with
   | some l=>
    rw [hl] at hd
    by_cases hok:Region.noSelect ops=true
    ·simp only [hok,if_true] at hd;refine ycg hm ?_;exact zh4 (hp rfl) hz (λj o cs b ho=>Region.noSelect_spec hok j o cs b ho) ops.size _ l [] [] env h _ hl (yc9 ops ops.size) (λp hp=>by cases hp) (λp hp=>by cases hp) r.drew hd
    ·simp only [hok,if_false,Bool.false_eq_true] at hd
   | none=>rw [hl] at hd; exact hd.elim
 | seq a b iha ihb=>
  intro Q env h w hp hz r hd;simp only [den] at hd;refine wp_seq (wp_mono (iha _ env h w (λhx=>zxv (hp (by simp [zev,hx])) _) (λenv hp=>hz env hp) r hd) ?_);rintro e a' w' ⟨env',h',rfl,r',hq⟩;cases e with
  | normal=>exact ihb Q env' h' w' (λhx=>hp (by simp [zev,hx])) hz r' hq
  | exit id=>exact ⟨env',h',rfl,r',hq⟩
  | goto l=>exact ⟨env',h',rfl,r',hq⟩
  | ret=>exact ⟨env',h',rfl,r',hq⟩
  | panic c=>exact ⟨env',h',rfl,r',hq⟩
  | outgrown=>exact ⟨env',h',rfl,r',hq⟩
 | cond c a b iha ihb=>
  intro Q env h w hp hz r hd;simp only [den,cnd] at hd;obtain ⟨t,ht,hd⟩:=hd;cases t with
  | true=>exact wp_cond_true ht (iha Q env h w (λhx=>hp (by simp [zev,hx])) hz r (by simpa using hd))
  | false=>exact wp_cond_false ht (ihb Q env h w (λhx=>hp (by simp [zev,hx])) hz r (by simpa using hd))
 | block id c ih=>
  intro Q env h w hp hz r hd;simp only [den] at hd;refine wp_block (wp_mono (ih _ env h w (λhx=>ydb (hp hx) id) (λenv hp=>hz env hp) r hd) ?_);rintro e a' w' ⟨env',h',rfl,r',hq⟩;cases e with
  | exit id'=>
   simp only [Exit.inBlock];simp only [blk] at hq
   split
   ·rename_i hid; rw [if_pos hid] at hq; exact ⟨env',h',rfl,r',hq⟩
   ·rename_i hid; rw [if_neg hid] at hq; exact ⟨env',h',rfl,r',hq⟩
  | normal=>exact ⟨env',h',rfl,r',hq⟩
  | goto l=>exact ⟨env',h',rfl,r',hq⟩
  | ret=>exact ⟨env',h',rfl,r',hq⟩
  | panic c=>exact ⟨env',h',rfl,r',hq⟩
  | outgrown=>exact ⟨env',h',rfl,r',hq⟩
 | loop c ih=>
  intro Q env h w hp hz r hd;simp only [den] at hd;obtain ⟨n,hn⟩:=hd;intro b k cs
  have key:∀ n env h w,Rep w0 h w -> lpn (λK=>den P c (za6 K Q)) n env h ->
    ∃ e a' w',QW w0 ds Q e a' w'∧Arrives P (lone (b.at ⟨env,ds⟩ (.code c :: .inLoop c::k)) cs w) b k cs e a' w':=by
   intro n
   induction n with
   | zero=>intro env h w _ hn; exact hn.elim
   | succ n ihn=>
    intro env h w r hn;obtain ⟨h2,hwk,hn⟩:=hn r.wf
    replace hn:=hn (r.wk hwk).wf
    obtain ⟨e,a₁,w₁,hq,harr⟩:=ih _ env h2 w (λhx=>zxv (hp hx) _) (λenv hp=>hz env hp) (r.wk hwk) hn b (.inLoop c::k) cs;obtain ⟨env',h',rfl,r',hq⟩:=hq;cases e with
    | normal=>
     obtain ⟨e₂,a₂,w₂,hq₂,harr₂⟩:=ihn env' h' w₁ r' hq;exact ⟨e₂,a₂,w₂,hq₂,.of_steps (Steps.trans harr (.one step_inLoop)) harr₂⟩
    | exit id=>exact ⟨_,_,w₁,⟨env',h',rfl,r',hq⟩,.pass (x:=.inLoop c) rfl (λ_ _=>.inl (by simp)) harr⟩
    | goto l=>exact ⟨_,_,w₁,⟨env',h',rfl,r',hq⟩,.pass (x:=.inLoop c) rfl (λ_ _=>.inl (by simp)) harr⟩
    | ret=>exact ⟨_,_,w₁,⟨env',h',rfl,r',hq⟩,.pass (x:=.inLoop c) rfl (λ_ _=>.inl (by simp)) harr⟩
    | panic ch=>exact ⟨_,_,w₁,⟨env',h',rfl,r',hq⟩,.pass (x:=.inLoop c) rfl (λ_ _=>.inl (by simp)) harr⟩
    | outgrown=>exact ⟨_,_,w₁,⟨env',h',rfl,r',hq⟩,.pass (x:=.inLoop c) rfl (λ_ _=>.inl (by simp)) harr⟩
  obtain ⟨e,a',w',hq,harr⟩:=key n env h w r hn;exact ⟨e,a',w',hq,.of_steps (.one step_loop) harr⟩
 | rangeFunc f params assign body _ _=>intro Q env h w hp hz r hd; simp only [den] at hd
 | exit id=>exact λQ env h w _ _ r hd=>wp_exit ⟨env,h,rfl,r,hd⟩
 | scope c ih=>
  intro Q env h w hp hz r hd;simp only [den] at hd;refine wp_scope_straight (wp_mono (ih _ env h w (λhx=>ynj (hp hx)) (λenv hp=>hz env hp) r hd) ?_);rintro e a' w' ⟨env',h',rfl,r',hq⟩;cases e with
  | goto l=>exact hq.elim
  | exit id'=>exact ⟨env',h',rfl,r',hq⟩
  | normal=>exact ⟨env',h',rfl,r',hq⟩
  | ret=>exact ⟨env',h',rfl,r',hq⟩
  | panic c=>exact ⟨env',h',rfl,r',hq⟩
  | outgrown=>exact ⟨env',h',rfl,r',hq⟩
 | goto l=>intro Q env h w hp hz r hd; simp only [den] at hd
 | ret=>exact λQ env h w _ _ r hd=>wp_ret ⟨env,h,rfl,r,hd⟩
 | refuse s=>intro Q env h w hp hz r hd; simp only [den] at hd
end
def zpz (P:Program):List ResultVar -> Env -> (List Value -> Hp -> Prop) -> Hp -> Prop
 | [],_,K,h=>K [] h
 | .tmp t::r,env,K,h=>zpz P r env (λvs=>K (env.getD t undef::vs)) h
 | .cell a t::r,env,K,h=>match zmv P t,P.info? t with
  | some g,some i=>ld g i.size (env.getD a undef) (λv=>zpz P r env (λvs=>K (v::vs))) h
  | _,_=>False
def yaw:List Value -> Value
 | [v]=>v
 | vs=>.tuple vs.toArray
def zjm (P:Program) (rs:List ResultVar) (K:zae) (E:zb2):QD
 | .normal,env=>zpz P rs env (λvs=>K (yaw vs))
 | .ret,env=>zpz P rs env (λvs=>K (yaw vs))
 | .panic c,_=>E c
 | _,_=>λ_=>False
def zp8 (env:Env):ResultVar -> Sem Value
 | .tmp t=>pure (env.getD t undef)
 | .cell a t=>do loadVar t (← asAddr (env.getD a undef))
theorem zsp {P:Program} {w0 w:World} {env:Env}:∀ (rs:List ResultVar) (K:List Value -> Hp -> Prop) (h:Hp),Rep w0 h w -> zpz P rs env K h ->
  ∃ vs,(rs.mapM (zp8 env)).run P w=.ok vs w∧K vs h
 | [],K,h,r,hd=>⟨[],by simp,hd⟩
 | .tmp t::rs,K,h,r,hd=>by
  obtain ⟨vs,hr,hk⟩:=zsp rs _ h r hd;exact ⟨_,by simp only [List.mapM_cons,zp8,Sem.run_bind,Sem.run_pure,Result.andThen_ok,hr],hk⟩
 | .cell a t::rs,K,h,r,hd=>by
  simp only [zpz] at hd
  split at hd
  ·rename_i g i hg hi
   obtain ⟨v,hv,hd⟩:=hd;obtain ⟨vs,hr,hk⟩:=zsp rs _ h r hd;have hl:=zqh (P:=P) r hg hi hv
   have hp:∃ ad,env.getD a undef=.pointer (some ad):=by
    unfold ldV at hv
    split at hv
    ·rename_i b o hx; exact ⟨_,hx⟩
    ·exact hv.elim
   obtain ⟨ad,had⟩:=hp;rw [had] at hl;simp only [Instr.loadAt,Instr.sureAddr,Sem.run_bind,Sem.run_pure,Result.andThen_ok] at hl;refine ⟨_,?_,hk⟩;have h1:(zp8 env (.cell a t)).run P w=.ok v w:=by simp only [zp8,Sem.run_bind,had,asAddr,Sem.run_pure,Result.andThen_ok,hl]
   simp only [List.mapM_cons,Sem.run_bind,h1,Result.andThen_ok,hr,Sem.run_pure]
  ·exact hd.elim
theorem zig {P:Program} {w0 w:World} {env:Env} {fn:Func} {K:zae} {h:Hp} (r:Rep w0 h w) (hd:zpz P fn.results.toList env (λvs=>K (yaw vs)) h) :
  ∃ v,(results fn env).run P w=.ok v w∧K v h:=by
 obtain ⟨vs,hr,hk⟩:=zsp _ _ h r hd;refine ⟨_,?_,hk⟩;unfold results
 have hf:(λx=>match x with
   | .tmp t=>pure (env.getD t undef)
   | .cell a t=>do loadVar t (← asAddr (env.getD a undef)):ResultVar -> Sem Value)=zp8 env:=by funext x; cases x<;>rfl
 rw [Array.mapM_eq_mapM_toList];simp only [Sem.run_bind,Sem.run_map]
 erw [hf,hr]
 simp only [Result.andThen_ok,Sem.run_pure]
 congr 1
 match vs with
 | []=>rfl
 | [v]=>rfl
 | v::u::vs=>simp [yaw]
def zaf (fn:Func):Code:=fn.body.getD .skip
def sel:Code -> List Nat -> Code
 | c,[]=>c
 | .seq a _,0::p=>sel a p
 | .seq _ b,1::p=>sel b p
 | .cond _ a _,0::p=>sel a p
 | .cond _ _ b,1::p=>sel b p
 | .block _ c,_::p=>sel c p
 | .loop c,_::p=>sel c p
 | .scope c,_::p=>sel c p
 | c,_=>c
theorem ycf {P:Program} (hm:P.follows .mixedOrders=true) {f:FuncId} {fn:Func} {c:Code} (hf:P.funcs[f]?=some fn) (hb:fn.body=some c) {args:Array Value} {K:zae} {E:zb2} {h:Hp}
  (hd:den P c (zjm P fn.results.toList K E) (zcp args (List.replicate (fn.ntmps - args.size) undef).toArray) h):call P f args K E h:=by
 intro w0 w hl r;rw [zj4,List.toArray_replicate] at hd;refine calls_of_wp hf hb (wp_mono (zph hm c _ _ h w (λ_ c env env' hp hh=>hh) (λenv hp=>hl hp) r hd) ?_);rintro e a w' ⟨env,h',rfl,r',hq⟩;cases e with
 | normal=>
  obtain ⟨v,hr,hk⟩:=zig r' hq;exact ⟨rfl,v,hr,h',r',hk⟩
 | ret=>
  obtain ⟨v,hr,hk⟩:=zig r' hq;exact ⟨rfl,v,hr,h',r',hk⟩
 | panic ch=>exact ⟨rfl,h',r',hq⟩
 | exit id=>exact hq.elim
 | goto l=>exact hq.elim
 | outgrown=>exact hq.elim
theorem zkm {P:Program} (hm:P.follows .mixedOrders=true) {f:FuncId} {fn:Func} (hf:P.funcs[f]?=some fn) (hb:(fn.name != "runtime.NumGoroutine" && fn.body.isSome)=true) {args:Array Value} {K:zae} {E:zb2} {h:Hp} {X:Hp -> Prop}
  (ht:den P (sel (zaf fn) []) (zjm P fn.results.toList (λv h=>h.wf -> ∃ h',h.wk h'∧(h'.wf -> K v h')) E) (zcp args (List.replicate (fn.ntmps - args.size) undef).toArray)=X) (hd:h.wf -> X h):call P f args K E h:=by
 simp only [Bool.and_eq_true] at hb;obtain ⟨c,hc⟩:=Option.isSome_iff_exists.1 hb.2;intro w0 w hl r;refine (ycf (K:=λv h=>h.wf -> ∃ h',h.wk h'∧(h'.wf -> K v h')) (E:=E) hm hf hc ?_ w0 w hl r).mono λe w' he=>?_
 ·have:sel (zaf fn) []=c:=by unfold zaf; rw [hc]; cases c<;>rfl
  rw [this] at ht;rw [ht];exact hd r.wf
 ·obtain ⟨h',r',hh⟩:=he;cases e with
  | returned v=>obtain ⟨h'',hwk,hk⟩:=hh r'.wf; exact ⟨h'',r'.wk hwk,hk (r'.wk hwk).wf⟩
  | panicked c=>exact ⟨h',r',hh⟩
  | outgrown=>exact hh.elim
theorem za4 {P:Program} (hm:P.follows .mixedOrders=true) {f:FuncId} {fn:Func} (hf:P.funcs[f]?=some fn) (hb:(fn.name != "runtime.NumGoroutine" && fn.body.isSome)=true) {first args captured:Array Value} {K:zae} {E:zb2} {h:Hp} {X:Hp -> Prop}
  (ht:den P (sel (zaf fn) []) (zjm P fn.results.toList (λv h=>h.wf -> ∃ h',h.wk h'∧(h'.wf -> K v h')) E) (zcp (zcp (zcp first args) captured) (List.replicate (fn.ntmps - (zcp (zcp first args) captured).size) undef).toArray)=X) (hd:h.wf -> X h):zbs P (.func (.func f) first captured) args K E h :=
 .inl ⟨by rw [hf]; exact hb,zkm hm hf hb ht hd⟩
theorem yle {P:Program} {fv:Value} {args:Array Value} {K K':zae} {E E':zb2} {h:Hp} (hc:zbs P fv args K E h) (hk:∀ v h',h'.wf -> K v h' -> K' v h') (he:∀ c h',E c h' -> E' c h'):zbs P fv args K' E' h:=by
 cases fv with
 | func fn first captured=>
  cases fn with
  | func f=>
   rcases hc with ⟨h1,hc⟩ | hc
   ·exact .inl ⟨h1,λw0 w hl r=>(hc w0 w (λhb=>hl (he _ _ hb)) r).mono λe w' ⟨h',r',hh⟩=>⟨h',r',by cases e<;>first | exact hk _ _ r'.wf hh | exact he _ _ hh | exact hh⟩⟩
   ·exact .inr λw0 w r=>let ⟨v,w',h',hr,r',hk'⟩:=hc w0 w r; ⟨v,w',h',hr,r',hk _ _ r'.wf hk'⟩
  | _=>exact False.elim hc
 | _=>exact False.elim hc
theorem yjg {P:Program} {fv:Value} {args:Array Value} {K:zae} {E:zb2} {h:Hp} (hc:zbs P fv args (λv h=>h.wf -> ∃ h',h.wk h'∧(h'.wf -> K v h')) E h):zbs P fv args K E h:=by
 cases fv with
 | func fn first captured=>
  cases fn with
  | func f=>
   rcases hc with ⟨h1,hc⟩ | hc
   ·refine .inl ⟨h1,λw0 w hl r=>(hc w0 w hl r).mono λe w' ⟨h',r',hh⟩=>?_⟩;cases e with
    | returned v=>obtain ⟨h'',hwk,hk⟩:=hh r'.wf; exact ⟨h'',r'.wk hwk,hk (r'.wk hwk).wf⟩
    | panicked c=>exact ⟨h',r',hh⟩
    | outgrown=>exact hh.elim
   ·refine .inr λw0 w r=>?_;obtain ⟨v,w',h',hr,r',hk'⟩:=hc w0 w r;obtain ⟨h'',hwk,hk⟩:=hk' r'.wf;exact ⟨v,w',h'',hr,r'.wk hwk,hk (r'.wk hwk).wf⟩
  | _=>exact False.elim hc
 | _=>exact False.elim hc
theorem Rep.reveal {w0 w:World} {h:Hp} (r:Rep w0 h w) {b:Nat} {e:TypeId} {cs:List Value} {tot:Nat} (hM:h.M b=some (.cells e cs tot)):∃ ext,(cs++ext).length=tot∧Rep w0 (h.set b (.cells e (cs++ext) tot)) w:=by
 obtain ⟨a1,a2,a3,arr,a4,a5,⟨ext,a6⟩⟩:=r.cl b e cs tot hM;refine ⟨ext,by rw [a6]; simpa using a5,?_⟩;refine r.turn (w':=w) a2 a3 rfl rfl rfl (Nat.le_refl _) (Array.getElem?_eq_some_iff.1 a4).1 (λ_ _ _=>rfl) (some _) h.nx (Nat.le_refl _) r.nx a1 ?_;exact ⟨arr,a4,a5,by rw [a6]; exact List.prefix_refl _⟩
theorem zp3 {P:Program} {fv:Value} {args:Array Value} {K:zae} {E:zb2} {h:Hp} {b:Nat} {e:TypeId} {cs:List Value} {tot:Nat} (hM:h.M b=some (.cells e cs tot))
  {f:FuncId} {first captured:Array Value} (hfv:fv=.func (.func f) first captured) (hbody:(((P.funcs[f]?).map λfn=>fn.name != "runtime.NumGoroutine" && fn.body.isSome).getD false)=true)
  (hc:∀ ext,(cs++ext).length=tot -> call P f (zcp (zcp first args) captured) K E (h.set b (.cells e (cs++ext) tot))):zbs P fv args K E h:=by
 subst hfv;refine .inl ⟨hbody,λw0 w hl r=>?_⟩;obtain ⟨ext,he,r'⟩:=r.reveal hM;exact hc ext he w0 w hl r'
section
variable {F:Nat -> Option (List Value)} {M:Nat -> Option zak} {N:Nat} {K:zae} {h:Hp} {P:Program} {E:zb2}
theorem zaa {o:Option Value} {v:Value} (hv:o=some v) (k:K v h):pv o K h:=⟨v,hv,k⟩
theorem yto {b o n c sz:Nat} {k:IntKind} {i:Int} (h0:0≤i) (h1:i<n) (kk:K (.pointer (some ⟨b,o+i.toNat*sz,none⟩)) h):pv (iaV none sz (.slice (some ⟨b,o,none⟩) n c) (.int k i)) K h :=
 ⟨_,by simp [iaV,h0,h1],kk⟩
theorem zct {b o n c sz:Nat} {k:IntKind} {i:Nat} (h1:i<n) (kk:K (.pointer (some ⟨b,o+i*sz,none⟩)) h):pv (iaV none sz (.slice (some ⟨b,o,none⟩) n c) (.int k (i:Nat))) K h :=
 yto (by omega) (by omega) (by simpa using kk)
theorem zmx {a:Int} (h0:-9223372036854775808≤a) (h1:a≤9223372036854775807):IntKind.i64.wrap a=a:=by rw [IntKind.wrap_i64]; omega
theorem zm7 {e:EqK} {a b:Int} (h0:-9223372036854775808≤a+b) (h1:a+b≤9223372036854775807) (k:K (.int .i64 (a+b)) h):pv (za2 e .add (.int .i64 a) (.int .i64 b)) K h :=
 ⟨.int .i64 (IntKind.i64.wrap (a+b)),by simp [za2,zfa],by rw [zmx h0 h1]; exact k⟩
theorem zcr {e:EqK} {a b:Int} (h0:-9223372036854775808≤a - b) (h1:a - b≤9223372036854775807) (k:K (.int .i64 (a - b)) h):pv (za2 e .sub (.int .i64 a) (.int .i64 b)) K h :=
 ⟨.int .i64 (IntKind.i64.wrap (a - b)),by simp [za2,zfa],by rw [zmx h0 h1]; exact k⟩
theorem zas {e:EqK} {a:Nat} (h1:a<9223372036854775807) (k:K (.int .i64 (a+1:Nat)) h):pv (za2 e .add (.int .i64 (a:Nat)) (.int .i64 1)) K h :=
 zm7 (by omega) (by omega) (by simpa using k)
theorem zat {e:EqK} {k:IntKind} {a b:Int} (ht:a<b -> K (.bool true) h) (hf:¬ a<b -> K (.bool false) h):pv (za2 e .lss (.int k a) (.int k b)) K h:=by
 refine ⟨.bool (decide (a<b)),by simp [za2,zfa],?_⟩
 by_cases hc:a<b
 ·rw [decide_eq_true hc]; exact ht hc
 ·rw [decide_eq_false hc]; exact hf hc
theorem zds {e:EqK} {k:IntKind} {a b:Int} (ht:a≤b -> K (.bool true) h) (hf:¬ a≤b -> K (.bool false) h):pv (za2 e .leq (.int k a) (.int k b)) K h:=by
 refine ⟨.bool (decide (a≤b)),by simp [za2,zfa],?_⟩
 by_cases hc:a≤b
 ·rw [decide_eq_true hc]; exact ht hc
 ·rw [decide_eq_false hc]; exact hf hc
theorem zbw {e:EqK} {k:IntKind} {a b:Int} (ht:a>b -> K (.bool true) h) (hf:¬ a>b -> K (.bool false) h):pv (za2 e .gtr (.int k a) (.int k b)) K h:=by
 refine ⟨.bool (decide (a>b)),by simp [za2,zfa],?_⟩
 by_cases hc:a>b
 ·rw [decide_eq_true hc]; exact ht hc
 ·rw [decide_eq_false hc]; exact hf hc
theorem zg8 {e:EqK} {k:IntKind} {a b:Int} (ht:a≥b -> K (.bool true) h) (hf:¬ a≥b -> K (.bool false) h):pv (za2 e .geq (.int k a) (.int k b)) K h:=by
 refine ⟨.bool (decide (a≥b)),by simp [za2,zfa],?_⟩
 by_cases hc:a≥b
 ·rw [decide_eq_true hc]; exact ht hc
 ·rw [decide_eq_false hc]; exact hf hc
theorem zau {e:EqK} {k:IntKind} {a b:Int} (ht:a=b -> K (.bool true) h) (hf:¬ a=b -> K (.bool false) h):pv (za2 e .eql (.int k a) (.int k b)) K h:=by
 refine ⟨.bool (a == b),by simp [za2,zfa],?_⟩
 by_cases hc:a=b
 ·rw [show (a == b)=true by simpa using hc]; exact ht hc
 ·rw [show (a == b)=false by simpa using hc]; exact hf hc
theorem zio {e:EqK} {k:IntKind} {a b:Int} (ht:a≠b -> K (.bool true) h) (hf:¬ a≠b -> K (.bool false) h):pv (za2 e .neq (.int k a) (.int k b)) K h:=by
 refine ⟨.bool (a != b),by simp [za2,zfa],?_⟩
 by_cases hc:a=b
 ·rw [show (a != b)=false by simpa using hc]; exact hf (by simpa using hc)
 ·rw [show (a != b)=true by simpa using hc]; exact ht hc
theorem zyp {e:EqK} {k:IntKind} {a b:Int} (hc:a<b) (hk:K (.bool true) h):pv (za2 e .lss (.int k a) (.int k b)) K h:=zat (λ_=>hk) (λn=>absurd hc n)
theorem zke {e:EqK} {k:IntKind} {a b:Int} (hc:¬ a<b) (hk:K (.bool false) h):pv (za2 e .lss (.int k a) (.int k b)) K h:=zat (λn=>absurd n hc) (λ_=>hk)
theorem ym7 {e:EqK} {k:IntKind} {a b:Int} (hc:a≤b) (hk:K (.bool true) h):pv (za2 e .leq (.int k a) (.int k b)) K h:=zds (λ_=>hk) (λn=>absurd hc n)
theorem ym8 {e:EqK} {k:IntKind} {a b:Int} (hc:¬ a≤b) (hk:K (.bool false) h):pv (za2 e .leq (.int k a) (.int k b)) K h:=zds (λn=>absurd n hc) (λ_=>hk)
theorem yr6 {e:EqK} {k:IntKind} {a b:Int} (hc:a>b) (hk:K (.bool true) h):pv (za2 e .gtr (.int k a) (.int k b)) K h:=zbw (λ_=>hk) (λn=>absurd hc n)
theorem zr2 {e:EqK} {k:IntKind} {a b:Int} (hc:¬ a>b) (hk:K (.bool false) h):pv (za2 e .gtr (.int k a) (.int k b)) K h:=zbw (λn=>absurd n hc) (λ_=>hk)
theorem yf3 {e:EqK} {k:IntKind} {a b:Int} (hc:a≥b) (hk:K (.bool true) h):pv (za2 e .geq (.int k a) (.int k b)) K h:=zg8 (λ_=>hk) (λn=>absurd hc n)
theorem zqp {e:EqK} {k:IntKind} {a b:Int} (hc:¬ a≥b) (hk:K (.bool false) h):pv (za2 e .geq (.int k a) (.int k b)) K h:=zg8 (λn=>absurd n hc) (λ_=>hk)
theorem zeg {e:EqK} {k:IntKind} {a b:Int} (hc:a=b) (hk:K (.bool true) h):pv (za2 e .eql (.int k a) (.int k b)) K h:=zau (λ_=>hk) (λn=>absurd hc n)
theorem zbj {e:EqK} {k:IntKind} {a b:Int} (hc:¬ a=b) (hk:K (.bool false) h):pv (za2 e .eql (.int k a) (.int k b)) K h:=zau (λn=>absurd n hc) (λ_=>hk)
theorem zim {e:EqK} {k:IntKind} {a b:Int} (hc:a≠b) (hk:K (.bool true) h):pv (za2 e .neq (.int k a) (.int k b)) K h:=zio (λ_=>hk) (λn=>absurd hc n)
theorem zc3 {e:EqK} {k:IntKind} {a b:Int} (hc:a=b) (hk:K (.bool false) h):pv (za2 e .neq (.int k a) (.int k b)) K h:=zio (λn=>absurd hc n) (λ_=>hk)
theorem zax {A B:Hp -> Prop} (k:A h):cnd (.bool true) A B h:=⟨true,rfl,by simpa using k⟩
theorem zaq {A B:Hp -> Prop} (k:B h):cnd (.bool false) A B h:=⟨false,rfl,by simpa using k⟩
theorem yma {A:zae -> Hp -> Prop} (k:A K h):gdK (.bool true) true A K h:=by unfold gdK; rw [if_pos (by simp [isB])]; exact k
theorem zdd {A:zae -> Hp -> Prop} (k:A K h):gdK (.bool false) false A K h:=by unfold gdK; rw [if_pos (by simp [isB])]; exact k
theorem zde {A:zae -> Hp -> Prop} (k:K undef h):gdK (.bool true) false A K h:=by unfold gdK; rw [if_neg (by simp [isB])]; exact k
theorem ym0 {A:zae -> Hp -> Prop} (k:K undef h):gdK (.bool false) true A K h:=by unfold gdK; rw [if_neg (by simp [isB])]; exact k
theorem zap {t:TypeId} {cells cs:List Value} (k:∀ b,N≤b -> K (.pointer (some ⟨b,0,none⟩)) ⟨F,upd M b (some (.cells t cs cs.length)),b+1⟩) (hc:cells=cs:=by rfl):nw t cells K ⟨F,M,N⟩:=by
 subst hc; exact λb hb=>k b hb
theorem zcx {t:TypeId} {n:Nat} {cells:Option (Array Value)} {cs:List Value} (hc:cells=some cs.toArray) (k:∀ b,N≤b -> K (.slice (some ⟨b,0,none⟩) n n) ⟨F,upd M b (some (.cells t cs cs.length)),b+1⟩):nws t n cells K ⟨F,M,N⟩ :=
 ⟨_,hc,λb hb=>k b hb⟩
theorem zb4 {e:TypeId} {cs:List Value} {tot b:Nat} (hM:M b=some (.cells e cs tot)):(Hp.mk F M N).row b cs:=.inr ⟨e,tot,hM⟩
theorem zh9 {cs:List Value} {b:Nat} (hF:F b=some cs):(Hp.mk F M N).row b cs:=.inl hF
theorem zaz {sz b o:Nat} {cs:List Value} {v:Value} (hr:h.row b cs) (hv:cs[o]?=some v):ldV h false sz (.pointer (some ⟨b,o,none⟩)) v:=⟨cs,hr,by simpa using hv⟩
theorem yfr {sz b o:Nat} {cs vs:List Value} (hr:h.row b cs) (hl:o+sz≤cs.length) (hv:(cs.drop o).take sz=vs):ldV h true sz (.pointer (some ⟨b,o,none⟩)) (.agg vs.toArray) :=
 ⟨cs,hr,by rw [if_pos rfl,hv]; exact ⟨hl,rfl⟩⟩
theorem zfo {agg:Bool} {sz:Nat} {p v:Value} (hv:ldV h agg sz p v) (k:K v h):ld agg sz p K h:=⟨v,hv,k⟩
theorem yfn {sz b o:Nat} {e:TypeId} {cs cs':List Value} {tot:Nat} {v:Value} (hM:M b=some (.cells e cs tot)) (hs:v.cells.size=sz) (h1:∀ c∈v.cells.toList,c.oneCell'=true) (hl:o+sz≤cs.length) (hc:zb3 cs o v.cells.toList=cs')
  (k:K undef ⟨F,upd M b (some (.cells e cs' tot)),N⟩):st sz (.pointer (some ⟨b,o,none⟩)) v K ⟨F,M,N⟩ :=
 ⟨hs,b,o,e,cs,tot,rfl,hM,h1,by rw [Array.length_toList,hs]; exact hl,by rw [hc]; exact k⟩
def yxn (B:Nat) (v:Value) (n:Nat):Prop:=(v=.slice none 0 0∧n=0)∨∃ b c,v=.slice (some ⟨b,0,none⟩) n c∧B≤b∧n≤c∧c≤maxLen
def yy4 (M:Nat -> Option zak) (e:TypeId) (sz:Nat) (v:Value) (cs:List Value):Nat -> Option zak:=match v with
 | .slice (some a) _ c=>upd M a.block (some (.cells e cs (c*sz)))
 | _=>M
theorem zaw {B:(Env -> Hp -> Prop) -> Env -> Hp -> Prop} {σ:Type} (mk:σ -> (Nat -> Value) -> Env) (I:σ -> Hp -> Prop) (μ:σ -> Nat)
  (round:∀ (k:Env -> Hp -> Prop) (s:σ) (j:Nat -> Value) (h:Hp),I s h -> h.wf -> (∀ s' j' h',μ s'<μ s -> (h'.wf -> ∃ h'',h'.wk h''∧I s' h'') -> k (mk s' j') h') -> B k (mk s j) h)
  (s:σ) (j:Nat -> Value) (h0:h.wf -> ∃ h',h.wk h'∧I s h'):lp B (mk s j) h:=by
 suffices∀n (s:σ) (j:Nat -> Value) (h:Hp),μ s<n -> (h.wf -> ∃ h',h.wk h'∧I s h') -> lpn B n (mk s j) h from ⟨_,this (μ s+1) s j h (Nat.lt_succ_self _) h0⟩
 intro n
 induction n with
 | zero=>intro s j h hn; omega
 | succ n ih=>
  intro s j h hn h0 hwf;obtain ⟨h',hw,hI⟩:=h0 hwf;exact ⟨h',hw,λhwf'=>round (lpn B n) s j h' hI hwf' (λs' j' h1 hlt hI'=>ih s' j' h1 (by omega) hI')⟩
theorem za1 {h:Hp} (hw:h.wf):h.wk h:=⟨rfl,zbb _,λ_ _ h=>.inl h,hw.d⟩
end
def jf (env:Env):Nat -> Value:=λi=>env.getD i undef
abbrev U:Value:=undef
def za7 (F F':Nat -> Option (List Value)):Prop:=∀ b cs,F b=some cs -> F' b=some cs
theorem za7.refl (F:Nat -> Option (List Value)):za7 F F:=λ_ _ h=>h
theorem za7.trans {F F' F'':Nat -> Option (List Value)} (h:za7 F F') (k:za7 F' F''):za7 F F'':=λb cs hb=>k b cs (h b cs hb)
theorem za7.upd {F:Nat -> Option (List Value)} {b:Nat} {x:Option (List Value)} (h:F b=none):za7 F (upd F b x):=λk cs hk=>by
 simp only [K.upd]; split
 ·rename_i e; subst e; rw [h] at hk; cases hk
 ·exact hk
def yy7 (_K:zae) (_h:Hp):Prop:=False
def pnc (x:Value) (E:zb2) (_K:zae) (h:Hp):Prop:=match x with
 | .iface t v=>E [{ v:=.iface t v,recovered:=false }] h
 | _=>False
def sF (F:Nat -> Option (List Value)) (sz:Nat) (v:Value) (m:Nat) (cells:List Value):Prop :=
 cells.length=m*sz∧((∃ a c,v=.slice a 0 c∧m=0)∨∃ b o c cs,v=.slice (some ⟨b,o,none⟩) m c∧m≤c∧F b=some cs∧(cs.drop o).take (m*sz)=cells)
theorem sF.mono {F F':Nat -> Option (List Value)} {sz m:Nat} {v:Value} {cells:List Value} (h:sF F sz v m cells) (hs:za7 F F'):sF F' sz v m cells:=by
 refine ⟨h.1,?_⟩
 rcases h.2 with h | ⟨b,o,c,cs,h1,h2,h3,h4⟩
 ·exact .inl h
 ·exact .inr ⟨b,o,c,cs,h1,h2,hs _ _ h3,h4⟩
theorem sF.read {F:Nat -> Option (List Value)} {M:Nat -> Option zak} {N sz m:Nat} {v:Value} {cells:List Value} (h:sF F sz v m cells):zkf ⟨F,M,N⟩ sz v m cells:=by
 refine ⟨h.1,?_⟩
 rcases h.2 with ⟨a,c,h1,h2⟩ | ⟨b,o,c,cs,h1,h2,h3,h4⟩
 ·subst h2; exact .inl ⟨a,c,h1,rfl⟩
 ·exact .inr ⟨b,o,c,cs,h1,.inr ⟨.inl h3,h4⟩⟩
theorem sF.form {F:Nat -> Option (List Value)} {sz m:Nat} {v:Value} {cells:List Value} (h:sF F sz v m cells):∃ a c,v=.slice a m c∧m≤c:=by
 rcases h.2 with ⟨a,c,h1,h2⟩ | ⟨b,o,c,cs,h1,h2,h3,h4⟩
 ·subst h2; exact ⟨a,c,h1,Nat.zero_le _⟩
 ·exact ⟨_,c,h1,h2⟩
theorem sF.nil (F:Nat -> Option (List Value)) (sz c:Nat):sF F sz (.slice none 0 c) 0 []:=⟨by simp,.inl ⟨none,c,rfl,rfl⟩⟩
theorem sF.at {F:Nat -> Option (List Value)} {sz m:Nat} {v:Value} {cells:List Value} (h:sF F sz v m cells) (hz:0<sz) {i:Nat} (hi:i<m) :
  ∃ b o c,v=.slice (some ⟨b,o,none⟩) m c∧∃ cs,F b=some cs∧o+m*sz≤cs.length∧∀ k,k<m*sz -> cs[o+k]?=cells[k]?:=by
 rcases h.2 with ⟨a,c,h1,h2⟩ | ⟨b,o,c,cs,h1,h2,h3,h4⟩
 ·omega
 ·refine ⟨b,o,c,h1,cs,h3,?_,λk hk=>?_⟩
  ·have := congrArg List.length h4;rw [h.1] at this
   simp at this
   have hp:0<m*sz:=Nat.mul_pos (by omega) hz;omega
  ·rw [← h4,List.getElem?_take,if_pos hk,List.getElem?_drop]
def zfy {α β:Type} (R:α -> β -> Prop) (xs:List α) (ys:List β):Prop:=xs.length=ys.length∧∀ (i:Nat) (x:α) (y:β),xs[i]?=some x -> ys[i]?=some y -> R x y
theorem zfy.nil {α β:Type} (R:α -> β -> Prop):zfy R [] []:=⟨rfl,λi x y h=>by simp at h⟩
theorem zfy.snoc {α β:Type} {R:α -> β -> Prop} {xs:List α} {ys:List β} {x:α} {y:β} (h:zfy R xs ys) (hr:R x y):zfy R (xs++[x]) (ys++[y]):=by
 refine ⟨by simp [h.1],λi u v hu hv=>?_⟩
 rcases Nat.lt_or_ge i xs.length with hi | hi
 ·rw [List.getElem?_append_left hi] at hu;rw [List.getElem?_append_left (by rw [← h.1]; exact hi)] at hv;exact h.2 i u v hu hv
 ·rw [List.getElem?_append_right hi] at hu;rw [List.getElem?_append_right (by rw [← h.1]; exact hi)] at hv
  have:i - xs.length=0:=by
   have := (List.getElem?_eq_some_iff.1 hu).1
   simp at this; omega
  rw [this] at hu;rw [← h.1,this] at hv
  simp at hu hv
  subst hu; subst hv; exact hr
theorem zfy.mono {α β:Type} {R R':α -> β -> Prop} {xs:List α} {ys:List β} (h:zfy R xs ys) (hr:∀ x y,R x y -> R' x y):zfy R' xs ys:=⟨h.1,λi x y hx hy=>hr _ _ (h.2 i x y hx hy)⟩
theorem zfy.get {α β:Type} {R:α -> β -> Prop} {xs:List α} {ys:List β} (h:zfy R xs ys) {i:Nat} {y:β} (hy:ys[i]?=some y):∃ x,xs[i]?=some x∧R x y:=by
 have hi:i<xs.length:=by rw [h.1]; exact (List.getElem?_eq_some_iff.1 hy).1
 exact ⟨xs[i],by simp [hi],h.2 i _ y (by simp [hi]) hy⟩
theorem zed {sz:Nat}:∀ (rows:List (List Value)),(∀ r∈rows,r.length=sz) -> rows.flatten.length=rows.length*sz
 | [],_=>by simp
 | x::rows,h=>by
  rw [List.flatten_cons,List.length_append,h x (by simp),zed rows (λr hr=>h r (by simp [hr])),List.length_cons,Nat.succ_mul]; omega
theorem zpm {sz:Nat}:∀ (rows:List (List Value)) (i:Nat) (r:List Value),(∀ r∈rows,r.length=sz) -> rows[i]?=some r -> (rows.flatten.drop (i*sz)).take sz=r
 | [],i,r,_,h=>by simp at h
 | x::rows,0,r,hl,h=>by
  simp at h
  subst h;have := hl x (by simp)
  simp [List.flatten_cons,← this]
 | x::rows,i+1,r,hl,h=>by
  have hx:=hl x (by simp);have h1:=zpm rows i r (λr hr=>hl r (by simp [hr])) (by simpa using h);rw [List.flatten_cons,Nat.succ_mul];rw [show i*sz+sz=x.length+i*sz by omega,List.drop_append,← h1];have:List.drop (x.length+i*sz) x=[]:=List.drop_eq_nil_of_le (by omega);rw [this,show x.length+i*sz - x.length=i*sz by omega,List.nil_append]
structure zag {α:Type} (R:List Value -> α -> Prop) (sz:Nat) (rows:List (List Value)) (xs:List α):Prop where
 len:∀ r∈rows,r.length=sz
 one:∀ r∈rows,∀ c∈r,c.oneCell'=true
 all:zfy R rows xs
theorem zag.nil {α:Type} (R:List Value -> α -> Prop) (sz:Nat):zag R sz [] []:=⟨by simp,by simp,zfy.nil R⟩
theorem zag.snoc {α:Type} {R:List Value -> α -> Prop} {sz:Nat} {rows:List (List Value)} {xs:List α} (h:zag R sz rows xs) {r:List Value} {x:α} (hl:r.length=sz) (h1:∀ c∈r,c.oneCell'=true) (hr:R r x):zag R sz (rows++[r]) (xs++[x]) :=
 ⟨λq hq=>by rcases List.mem_append.1 hq with hq | hq; exact h.len q hq; rw [List.mem_singleton.1 hq]; exact hl,λq hq=>by rcases List.mem_append.1 hq with hq | hq; exact h.one q hq; rw [List.mem_singleton.1 hq]; exact h1,h.all.snoc hr⟩
theorem zag.mono {α:Type} {R R':List Value -> α -> Prop} {sz:Nat} {rows:List (List Value)} {xs:List α} (h:zag R sz rows xs) (hr:∀ r x,R r x -> R' r x):zag R' sz rows xs:=⟨h.len,h.one,h.all.mono hr⟩
theorem zag.flen {α:Type} {R:List Value -> α -> Prop} {sz:Nat} {rows:List (List Value)} {xs:List α} (h:zag R sz rows xs):rows.flatten.length=xs.length*sz:=by rw [zed rows h.len,h.all.1]
theorem zag.f1 {α:Type} {R:List Value -> α -> Prop} {sz:Nat} {rows:List (List Value)} {xs:List α} (h:zag R sz rows xs):∀ c∈rows.flatten,c.oneCell'=true:=λc hc=>by
 obtain ⟨r,hr,hc⟩:=List.mem_flatten.1 hc;exact h.one r hr c hc
theorem zag.get {α:Type} {R:List Value -> α -> Prop} {sz:Nat} {rows:List (List Value)} {xs:List α} (h:zag R sz rows xs) {i:Nat} {x:α} (hx:xs[i]?=some x) :
  ∃ r,rows[i]?=some r∧R r x∧(rows.flatten.drop (i*sz)).take sz=r∧i*sz+sz≤rows.flatten.length∧r.length=sz:=by
 obtain ⟨r,hr,hR⟩:=h.all.get hx;refine ⟨r,hr,hR,zpm rows i r h.len hr,?_,h.len r (List.mem_of_getElem? hr)⟩;have hi:i<rows.length:=(List.getElem?_eq_some_iff.1 hr).1;rw [zed rows h.len,← Nat.succ_mul];exact Nat.mul_le_mul_right _ hi
section
variable {F:Nat -> Option (List Value)} {M:Nat -> Option zak} {N:Nat} {K:zae}
structure yk5 (M:Nat -> Option zak) (e:TypeId) (sz:Nat) (v:Value) (n:Nat) (cs:List Value):Prop where
 len:cs.length=n*sz
 form:(v=.slice none 0 0∧n=0)∨∃ b c,v=.slice (some ⟨b,0,none⟩) n c∧n≤c∧c≤maxLen∧∃ rest,M b=some (.cells e (cs++rest) (c*sz))
theorem zzw {e:TypeId} {sz bytes n m:Nat} {s x:Value} {cs news:List Value} (hs:yk5 M e sz s n cs) (hx:zkf ⟨F,M,N⟩ sz x m news) (h1:∀ c∈news,c.oneCell'=true) (hb:(n+m)*bytes≤140737488355328) (hm:n+m≤maxLen) (h0:s=.slice none 0 0 -> m=0 -> K (.slice none 0 0) ⟨F,M,N⟩)
  (k:(s≠.slice none 0 0∨m≠0) -> ∀ b c,(N≤b∨s.ownBlock=some b) -> n+m≤c -> c≤maxLen -> K (.slice (some ⟨b,0,none⟩) (n+m) c) ⟨F,upd (zge M s) b (some (.cells e (cs++news) (c*sz))),max N (b+1)⟩):zdl e sz bytes s x K ⟨F,M,N⟩ :=
 .inl ⟨n,cs,m,news,⟨hs.len,hs.form⟩,hx,h1,hb,hm,h0,λh b c hb hc hcm=>k h b c hb hc hcm⟩
end
end Go.Proofs.YtlhlhpgjnjjhnaaGreatDoor.K
open Go Go.RowKit
set_option linter.unusedVariables false
set_option linter.unusedSimpArgs false
namespace Go.Proofs.YtlhlhpgjnjjhnaaGreatDoor.K
variable {F:Nat -> Option (List Value)} {M M0:Nat -> Option zak} {N N0:Nat}
theorem Hp.wf.m (hw:(Hp.mk F M N).wf):∀ k,N≤k -> M k=none:=hw.M
theorem Hp.wf.f (hw:(Hp.mk F M N).wf):∀ k,N≤k -> F k=none:=hw.F
theorem zsv (hs:zex M0 M) {b:Nat} (h:M b=none):M0 b=none:=by
 cases h0:M0 b with
 | none=>rfl
 | some c=>rw [hs b c h0] at h; cases h
theorem zbl (hc:(Hp.mk F M N).wf) (hs:zex M0 M):(Hp.mk F M N).wk ⟨F,M0,N⟩:=⟨rfl,hs,λ_ _ h=>.inl h,λb cs h=>zsv hs (hc.d b cs h)⟩
theorem znb (hc:(Hp.mk F M N).wf) (hs:zex M0 M) {b:Nat} (hb:M0 b=none) {e:TypeId} {cs:List Value} {tot:Nat} (hM:M b=some (.cells e cs tot)):(Hp.mk F M N).wk ⟨upd F b (some cs),M0,N⟩:=by
 refine ⟨rfl,hs,λk cs' hk=>?_,λk cs' hk=>?_⟩
 ·simp only [upd] at hk
  split at hk
  ·rename_i he; subst he; cases hk
   exact .inr ⟨hb,e,cs,tot,hM,List.prefix_refl _⟩
  ·exact .inl hk
 ·simp only [upd] at hk
  split at hk
  ·rename_i he; subst he; exact hb
  ·exact zsv hs (hc.d k cs' hk)
theorem zn8 (hc:(Hp.mk F M N).wf) (hs:zex M0 M:=by repeat (first | exact zbb _ | refine zb5 ?_ (hm _ (by first | assumption | omega)) | refine ygy ?_ | simp only [zge,Value.ownBlock])):(Hp.mk F M N).wk ⟨F,M0,N⟩:=zbl hc hs
theorem znv (hw:(Hp.mk F M0 N0).wf) {b:Nat} (hb:N0≤b) (x:Option (List Value)):za7 F (upd F b x):=za7.upd (hw.F b hb)
theorem ya7 {e:TypeId} {sz b:Nat} {tot:Nat} (hM:M b=some (.cells e [] tot)) (ht:tot=0):yk5 M e sz (.slice (some ⟨b,0,none⟩) 0 0) 0 [] :=
 ⟨by simp,.inr ⟨b,0,rfl,Nat.le_refl _,by simp [maxLen],[],by rw [hM,ht]; simp⟩⟩
theorem zjz {sz m b c:Nat} {cells:List Value} (hl:cells.length=m*sz) (hc:m≤c):sF (upd F b (some cells)) sz (.slice (some ⟨b,0,none⟩) m c) m cells :=
 ⟨hl,.inr ⟨b,0,c,cells,rfl,hc,za0 _ _ _,by rw [List.drop_zero,← hl,List.take_length]⟩⟩
theorem zs9 {k:IntKind} (l:List Int):∀ c∈l.map (Value.int k),c.oneCell'=true:=λc hc=>by
 obtain ⟨x,_,rfl⟩:=List.mem_map.1 hc; rfl
section
variable {K:zae} {sz b o:Nat} {e:TypeId} {cs:List Value} {tot:Nat}
theorem ldM {v:Value} (k:K v ⟨F,M,N⟩) (hM:M b=some (.cells e cs tot):=by repeat (first | exact za0 _ _ _ | assumption | refine (za3 _ _ (by omega)).trans ?_)) (hv:cs[o]?=some v:=by rfl):ld false sz (.pointer (some ⟨b,o,none⟩)) K ⟨F,M,N⟩ :=
 zfo (zaz (zb4 hM) hv) k
theorem zb6 {vs:List Value} (k:K (.agg vs.toArray) ⟨F,M,N⟩) (hM:M b=some (.cells e cs tot):=by repeat (first | exact za0 _ _ _ | assumption | refine (za3 _ _ (by omega)).trans ?_)) (hv:(cs.drop o).take sz=vs:=by rfl) (hl:o+sz≤cs.length:=by exact Nat.le_of_ble_eq_true rfl):ld true sz (.pointer (some ⟨b,o,none⟩)) K ⟨F,M,N⟩ :=
 zfo (yfr (zb4 hM) hl hv) k
theorem stM {v:Value} {cs':List Value} (k:K undef ⟨F,upd M b (some (.cells e cs' tot)),N⟩) (hM:M b=some (.cells e cs tot):=by repeat (first | exact za0 _ _ _ | assumption | refine (za3 _ _ (by omega)).trans ?_)) (hc:zb3 cs o v.cells.toList=cs':=by rfl) (hs:v.cells.size=sz:=by rfl)
  (h1:∀ c∈v.cells.toList,c.oneCell'=true:=by exact List.all_eq_true.1 rfl) (hl:o+sz≤cs.length:=by exact Nat.le_of_ble_eq_true rfl):st sz (.pointer (some ⟨b,o,none⟩)) v K ⟨F,M,N⟩ :=
 yfn hM hs h1 hl hc k
theorem zor {a:Option Addr} {len cap:Nat} {lo hi mx:Option Value} {h:Hp} (l u m:Nat) (h1:l≤u) (h2:u≤m) (h3:m≤cap) (k:K (.slice (if m=l then a else a.map (·.add (l*sz))) (u - l) (m - l)) h)
  (hl:bnd (some 0) lo=some (l:Int):=by rfl) (hh:bnd (some len) hi=some (u:Int):=by rfl) (hm:bnd (some cap) mx=some (m:Int):=by rfl) (h4:hi=none -> mx=none∧len≤cap:=by (intro h; cases h)):pv (slV sz (.slice a len cap) lo hi mx) K h:=by
 refine ⟨_,?_,k⟩;simp only [slV,hl,hh,hm];rw [if_pos ⟨by omega,by omega,by omega,by omega,λhn=>by have := h4 hn; exact ⟨this.1,by omega⟩⟩];have e1:((u:Int) - (l:Int)).toNat=u - l:=by omega
 have e2:((m:Int) - (l:Int)).toNat=m - l:=by omega
 rw [e1,e2,Int.toNat_natCast]
 congr 2
 by_cases hml:m=l
 ·rw [if_pos hml,if_pos (by omega)]
 ·rw [if_neg hml,if_neg (by omega)]
theorem zhj {len cap:Nat} {h:Hp} {ki:IntKind} (u:Nat) (h2:u≤cap) (k:K (.slice (some ⟨b,o,none⟩) u cap) h):pv (slV sz (.slice (some ⟨b,o,none⟩) len cap) none (some (.int ki (u:Nat))) none) K h:=by
 refine zor 0 u cap (Nat.zero_le _) h2 (Nat.le_refl _) ?_
 have:(if cap=0 then (some ⟨b,o,none⟩:Option Addr) else (some (⟨b,o,none⟩:Addr)).map (·.add (0*sz)))=some ⟨b,o,none⟩:=by
  split<;>simp [Addr.add]
 rw [this]; exact k
theorem zfj {len cap:Nat} {h:Hp} {ki:IntKind} (l:Nat) (h1:l≤len) (h2:len≤cap) (k:K (.slice (some (if cap=l then ⟨b,o,none⟩ else ⟨b,o+l*sz,none⟩)) (len - l) (cap - l)) h):pv (slV sz (.slice (some ⟨b,o,none⟩) len cap) (some (.int ki (l:Nat))) none none) K h:=by
 refine zor l len cap h1 h2 (Nat.le_refl _) ?_ (h4:=λ_=>⟨rfl,h2⟩)
 have:(if cap=l then (some ⟨b,o,none⟩:Option Addr) else (some (⟨b,o,none⟩:Addr)).map (·.add (l*sz)))=some (if cap=l then ⟨b,o,none⟩ else ⟨b,o+l*sz,none⟩):=by
  split
  ·rfl
  ·simp [Addr.add_plain]
 rw [this]; exact k
end
def sR (F:Nat -> Option (List Value)) (M:Nat -> Option zak) (sz:Nat) (v:Value) (m:Nat) (cells:List Value):Prop :=
 cells.length=m*sz∧((∃ a c,v=.slice a 0 c∧m=0)∨∃ b o c cs,v=.slice (some ⟨b,o,none⟩) m c∧m≤c∧(F b=some cs∨∃ e tot,M b=some (.cells e cs tot))∧(cs.drop o).take (m*sz)=cells)
theorem sF.sR {sz m:Nat} {v:Value} {cells:List Value} (h:sF F sz v m cells):sR F M sz v m cells :=
 ⟨h.1,h.2.imp id λ⟨b,o,c,cs,h1,h2,h3,h4⟩=>⟨b,o,c,cs,h1,h2,.inl h3,h4⟩⟩
theorem sR.read {sz m:Nat} {v:Value} {cells:List Value} (h:sR F M sz v m cells):zkf ⟨F,M,N⟩ sz v m cells:=by
 refine ⟨h.1,?_⟩
 rcases h.2 with ⟨a,c,h1,h2⟩ | ⟨b,o,c,cs,h1,h2,h3,h4⟩
 ·subst h2; exact .inl ⟨a,c,h1,rfl⟩
 ·exact .inr ⟨b,o,c,cs,h1,.inr ⟨h3,h4⟩⟩
theorem sR.form {sz m:Nat} {v:Value} {cells:List Value} (h:sR F M sz v m cells):∃ a c,v=.slice a m c∧m≤c:=by
 rcases h.2 with ⟨a,c,h1,h2⟩ | ⟨b,o,c,cs,h1,h2,h3,h4⟩
 ·subst h2; exact ⟨a,c,h1,Nat.zero_le _⟩
 ·exact ⟨_,c,h1,h2⟩
theorem sR.keep {F':Nat -> Option (List Value)} {M':Nat -> Option zak} {sz m:Nat} {v:Value} {cells:List Value} (h:sR F M sz v m cells) (hF:za7 F F') (hM:∀ b c,v.ownBlock=some b -> M b=some c -> M' b=some c):sR F' M' sz v m cells :=
 ⟨h.1,h.2.imp id λ⟨b,o,c,cs,h1,h2,h3,h4⟩=>⟨b,o,c,cs,h1,h2,h3.imp (hF _ _) (λ⟨e,tot,he⟩=>⟨e,tot,hM _ _ (by rw [h1]; rfl) he⟩),h4⟩⟩
theorem sR.new (hm:∀ k,N≤k -> M k=none) {sz m b:Nat} {x:Option zak} {v:Value} {cells:List Value} (h:sR F M sz v m cells) (hb:N≤b):sR F (upd M b x) sz v m cells :=
 h.keep (za7.refl _) λk c _ hk=>(za3 _ _ (λe=>by subst e; rw [hm _ hb] at hk; cases hk)).trans hk
theorem sR.mono {F':Nat -> Option (List Value)} {sz m:Nat} {v:Value} {cells:List Value} (h:sR F M sz v m cells) (hF:za7 F F'):sR F' M sz v m cells:=h.keep hF λ_ _ _ h=>h
def zd3 (F:Nat -> Option (List Value)) (M:Nat -> Option zak) (N:Nat):Nat -> Option (List Value):=λb=>if N≤b then (match M b with | some (.cells _ cs _)=>some cs | _=>F b) else F b
theorem yqg {M':Nat -> Option zak} {N':Nat} (hm:∀ k,N≤k -> M k=none) (hk:∀ k,k<N -> M' k=M k) (hc:(Hp.mk F M' N').wf):(Hp.mk F M' N').wk ⟨zd3 F M' N,M,N'⟩:=by
 have hs:zex M M':=λk c h=>by
  rcases Nat.lt_or_ge k N with hl | hl
  ·rw [hk k hl]; exact h
  ·rw [hm k hl] at h; cases h
 refine ⟨rfl,hs,λb cs hb=>?_,λb cs hb=>?_⟩
 ·simp only [zd3] at hb
  split at hb
  ·rename_i hl
   split at hb
   ·rename_i e cs' tot he; cases hb; exact .inr ⟨hm b hl,e,cs,tot,he,List.prefix_refl _⟩
   ·exact .inl hb
  ·exact .inl hb
 ·simp only [zd3] at hb
  split at hb
  ·rename_i hl; exact hm b hl
  ·exact zsv hs (hc.d b cs hb)
theorem zb9 {M':Nat -> Option zak} {N':Nat} (hc:(Hp.mk F M' N').wf):za7 F (zd3 F M' N):=λb cs hb=>by
 simp only [zd3]
 split
 ·have:M' b=none:=hc.d b cs hb;rw [this]; exact hb
 ·exact hb
theorem sR.frz {M':Nat -> Option zak} {N':Nat} (hc:(Hp.mk F M' N').wf) {sz m:Nat} {v:Value} {cells:List Value} (h:sR F M' sz v m cells) (hb:∀ b,v.ownBlock=some b -> N≤b∨M' b=none):sF (zd3 F M' N) sz v m cells:=by
 refine ⟨h.1,h.2.imp id λ⟨b,o,c,cs,h1,h2,h3,h4⟩=>⟨b,o,c,cs,h1,h2,?_,h4⟩⟩
 rcases h3 with h3 | ⟨e,tot,he⟩
 ·exact zb9 hc b cs h3
 ·rcases hb b (by rw [h1]; rfl) with hl | hl
  ·simp only [zd3,if_pos hl,he]
  ·rw [hl] at he; cases he
theorem zm9 (M:Nat -> Option zak) {v:Value} {k:Nat} (h:v.ownBlock≠some k):zge M v k=M k:=by
 unfold zge;cases ho:v.ownBlock with
 | none=>rfl
 | some q=>exact za3 _ _ (λe=>h (by rw [ho,e]))
theorem zfu (A B C D:List Value) (h:B.length=C.length):zb3 (A++B++D) A.length C=A++C++D:=by
 unfold zb3;have e1:List.take A.length (A++B++D)=A:=by rw [List.append_assoc]; exact List.take_left
 have e2:List.drop (A.length+C.length) (A++B++D)=D:=by rw [← h,← List.length_append]; exact List.drop_left
 rw [e1,e2]
end Go.Proofs.YtlhlhpgjnjjhnaaGreatDoor.K
open Go Go.RowKit
set_option linter.unusedVariables false
set_option linter.unusedSimpArgs false
namespace Go.Proofs.YtlhlhpgjnjjhnaaGreatDoor.K
def F0 (w:World):Nat -> Option (List Value):=λb=>match w.heap[b]? with
 | some (.cells arr _ _)=>some arr.toList
 | _=>none
def h0 (w:World):Hp:=⟨F0 w,λ_=>none,w.heap.size⟩
theorem yni {w:World} {b:Nat} {cs:List Value} (h:F0 w b=some cs):b<w.heap.size∧∃ arr e z,w.heap[b]?=some (.cells arr e z)∧arr.toList=cs:=by
 unfold F0 at h
 split at h
 ·rename_i arr e z hb
  injection h with h
  exact ⟨(Array.getElem?_eq_some_iff.1 hb).1,arr,e,z,hb,h⟩
 ·cases h
theorem yvg (w:World):Rep w (h0 w) w:=by
 refine ⟨Below.refl _ _,Nat.le_refl _,Nat.le_refl _,Nat.le_refl _,λb cs hb=>?_,λb e cs tot hb=>?_,λb o hb=>?_⟩
 ·obtain ⟨h1,arr,e,z,h2,h3⟩:=yni hb;exact ⟨h1,arr,e,z,h2,by rw [h3]; exact List.prefix_refl _⟩
 ·cases hb
 ·cases hb
theorem yn9 {P:Program} {f:FuncId} {args:Array Value} {K:Value -> Prop} {w:World} (hd:call P f args (λv _=>K v) (λ_ h=>h=zcu) (h0 w)) :
  Calls P f args w λe w'=>(∃ v,e=.returned v∧K v)∧Below w.heap.size w w':=by
 have r0:Rep { w with drawn:=0 } (h0 w) w:=by
  have r:=yvg w;exact ⟨⟨rfl,rfl,rfl,Nat.le_refl _,λ_ _=>rfl⟩,Nat.zero_le _,r.nx,r.base,r.fr,r.cl,r.ob⟩
 refine (hd { w with drawn:=0 } w (λ_=>rfl) r0).mono λe w' ⟨h',r',he⟩=>?_;cases e with
 | returned v=>exact ⟨⟨v,rfl,he⟩,⟨r'.below.os,r'.below.tape,r'.below.output,r'.below.size,r'.below.block⟩⟩
 | panicked c=>
  subst he;have := (r'.fr 0 [] rfl).1;exact absurd this (Nat.not_lt_zero _)
 | outgrown=>exact he.elim
structure OpensK {α:Type} (P:Program) (t:TypeId) (sz:Nat) (R:(Nat -> Option (List Value)) -> List Value -> α -> Prop):Prop where
 size:P.cellsOf t=sz
 get:∀ {H:Type} {enc:TypeId×Value -> H} {w:World} {base:Nat} {sp:Nat -> Bool} {hd:Bool} {fuel:Nat} {cs:List Value} {x:DataW H×List MemPlace},
  DataW.trod enc P w base sp hd fuel t cs=some x -> (∀ n∈x.1.weights P t,n≤reachBytes) -> ∃ y,R (F0 w) cs y
 one:∀ {F:Nat -> Option (List Value)} {cs:List Value} {y:α},R F cs y -> cs.length=sz∧∀ c∈cs,c.oneCell'=true
def rI (k:IntKind) (F:Nat -> Option (List Value)) (cs:List Value) (n:Int):Prop:=cs=[.int k n]∧(Lit.int k n).wf=true
theorem opensK_int {P:Program} {t:TypeId} {k:IntKind} (ht:P.underlying t=some (.int k)) (hs:P.cellsOf t=1):OpensK P t 1 (rI k):=by
 refine ⟨hs,λ{H enc w base sp hd fuel cs x} h hwt=>?_,λ{F cs y} h=>by obtain ⟨rfl,_⟩:=h; exact ⟨rfl,List.all_eq_true.1 rfl⟩⟩;cases fuel with
 | zero=>simp [DataW.trod] at h
 | succ n=>
  unfold DataW.trod at h;rw [ht] at h
  split at h<;>simp_all
  exact ⟨_,rfl,h.1.2⟩
def rB (F:Nat -> Option (List Value)) (cs:List Value) (b:Bool):Prop:=cs=[.bool b]
theorem opensK_bool {P:Program} {t:TypeId} (ht:P.underlying t=some .bool) (hs:P.cellsOf t=1):OpensK P t 1 rB:=by
 refine ⟨hs,λ{H enc w base sp hd fuel cs x} h hwt=>?_,λ{F cs y} h=>by obtain rfl:=h; exact ⟨rfl,List.all_eq_true.1 rfl⟩⟩;cases fuel with
 | zero=>simp [DataW.trod] at h
 | succ n=>
  unfold DataW.trod at h;rw [ht] at h
  split at h
  all_goals first | (simp at h; done) | skip
  all_goals first | (cases ‹some TypeDesc.bool=_›; done) | exact ⟨_,rfl⟩
def rT (F:Nat -> Option (List Value)) (cs:List Value) (s:ByteArray):Prop:=cs=[.string s]∧s.size≤maxLen
theorem opensK_string {P:Program} {t:TypeId} (ht:P.underlying t=some .string) (hs:P.cellsOf t=1):OpensK P t 1 rT:=by
 refine ⟨hs,λ{H enc w base sp hd fuel cs x} h hwt=>?_,λ{F cs y} h=>by obtain ⟨rfl,_⟩:=h; exact ⟨rfl,List.all_eq_true.1 rfl⟩⟩;cases fuel with
 | zero=>simp [DataW.trod] at h
 | succ n=>
  unfold DataW.trod at h;rw [ht] at h
  split at h<;>simp_all
  exact ⟨_,rfl,h.1⟩
theorem zo4 {α β:Type} {f:α -> Option β}:∀ {l:List α} {r:List β},l.mapM f=some r -> r.length=l.length∧∀ (i:Nat) (a:α),l[i]?=some a -> f a=r[i]?
 | [],r,h=>by simp at h; subst h; simp
 | a::l,r,h=>by
  rw [List.mapM_cons] at h;cases hf:f a with
  | none=>simp [hf] at h
  | some b=>
   cases hm:l.mapM f with
   | none=>simp [hf,hm] at h
   | some r'=>
    simp [hf,hm] at h
    subst h;obtain ⟨h1,h2⟩:=zo4 hm;refine ⟨by simp [h1],λi x hx=>?_⟩;cases i with
    | zero=>simp at hx; subst hx; simpa using hf
    | succ i=>simpa using h2 i x (by simpa using hx)
theorem yhh {w:World} {base:Nat} {a:Addr} {n:Nat} {cs:List Value} (h:w.cells? base a n=some cs):cs.length=n∧∀ (i:Nat) (u:Value),cs[i]?=some u -> w.cell? (a.add i)=some u:=by
 unfold World.cells? at h
 split at h
 ·obtain ⟨h1,h2⟩:=zo4 h;refine ⟨by simpa using h1,λi u hu=>?_⟩
  have hi:i<n:=by
   have := (List.getElem?_eq_some_iff.1 hu).1;rw [h1] at this
   simpa using this
  rw [← hu];exact h2 i i (by simp [hi])
 ·simp at h
def rS {α:Type} (sz:Nat) (R:(Nat -> Option (List Value)) -> List Value -> α -> Prop) (F:Nat -> Option (List Value)) (cs:List Value) (ys:List α):Prop :=
 ∃ v rows,cs=[v]∧sF F sz v ys.length rows.flatten∧zag (R F) sz rows ys∧ys.length≤140737488351232
theorem yd1 {w:World} {a:Addr} {u:Value} (h:w.cell? a=some u):a.spot=none∧∃ cs,F0 w a.block=some cs∧cs[a.off]?=some u:=by
 unfold World.cell? at h
 split at h
 ·rename_i arr e z hb
  split at h
  ·cases h
  ·rename_i hsp
   refine ⟨by cases hs:a.spot<;>simp_all,arr.toList,by simp [F0,hb],by simpa using h⟩
 ·cases h
theorem zma {H:Type} {P:Program} {e:TypeId}:∀ {l:List (DataW H)} {d:DataW H},d∈l -> ∀ n∈d.weights P e,n∈DataW.weightsAll P e l
 | a::l,d,h,n,hn=>by
  simp only [DataW.weightsAll,List.mem_append]
  rcases List.mem_cons.1 h with h | h
  ·exact .inl (h ▸ hn)
  ·exact .inr (zma h n hn)
theorem opensK_slice {α:Type} {P:Program} {t e:TypeId} {sz:Nat} {R:(Nat -> Option (List Value)) -> List Value -> α -> Prop} (ht:P.underlying t=some (.slice e)) (hs:P.cellsOf t=1) (hby:Nat.blt 0 (P.bytesOf e)=true) (hz:0<sz) (he:OpensK P e sz R) :
  OpensK P t 1 (rS sz R):=by
 refine ⟨hs,λ{H enc w base sp hd fuel cs x} h hwt=>?_,λ{F cs y} h=>by
  obtain ⟨v,rows,rfl,hv,_⟩:=h;obtain ⟨a,c,rfl,_⟩:=hv.form;exact ⟨rfl,List.all_eq_true.1 rfl⟩⟩
 rcases DataW.trod_slice ht h with ⟨rfl,rfl⟩ | ⟨a,len,cap,elems,rest,n,_,rfl,rfl,hb,hl,hm,hlen,hel,hsp,hns⟩
 ·exact ⟨[],_,[],rfl,sF.nil _ _ _,zag.nil _ _,Nat.zero_le _⟩
 ·have hwt1:len≤140737488351232∧∀ d∈elems,∀ n∈d.1.weights P e,n≤reachBytes:=by
   simp only [DataW.weights,ht] at hwt;refine ⟨?_,λd hd n hn=>hwt n (List.mem_cons_of_mem _ (List.mem_append.2 (.inl (zma (List.mem_map_of_mem hd) n hn))))⟩;have h1:=hwt _ List.mem_cons_self;simp only [List.length_map,hlen] at h1;have h2:0<P.bytesOf e:=Nat.le_of_ble_eq_true hby
   have h3:len+rest.length≤(len+rest.length)*P.bytesOf e:=Nat.le_mul_of_pos_right _ h2;have h4:reachBytes=140737488351232:=by decide
   omega
  have hex:∀ m,m≤len -> ∃ (ys:List α) (rows:List (List Value)),ys.length=m∧zag (R (F0 w)) sz rows ys∧∀ (i:Nat) (u:Value),rows.flatten[i]?=some u -> w.cell? (a.add i)=some u:=by
   intro m
   induction m with
   | zero=>exact λ_=>⟨[],[],rfl,zag.nil _ _,λi y h=>by simp at h⟩
   | succ m ih=>
    intro hm';obtain ⟨ys,rows,h1,h2,h2'⟩:=ih (by omega);have h3:=hel m (by omega);rw [List.getElem?_eq_getElem (by omega)] at h3;obtain ⟨c,hc,h4⟩:=Option.bind_eq_some_iff.1 h3;obtain ⟨y,hy⟩:=he.get h4 (hwt1.2 _ (List.getElem_mem _));obtain ⟨ho1,ho2⟩:=he.one hy;refine ⟨ys++[y],rows++[c],by simp [h1],h2.snoc ho1 ho2 hy,λi u hu=>?_⟩;have hfl:=h2.flen;rw [h1] at hfl;rw [List.flatten_append] at hu
    rcases Nat.lt_or_ge i (m*sz) with h5 | h5
    ·rw [List.getElem?_append_left (by omega)] at hu;exact h2' i u hu
    ·rw [List.getElem?_append_right (by omega)] at hu;obtain ⟨_,h7⟩:=yhh hc;have h8:=h7 (i - m*sz) u (by rw [hfl] at hu; simpa using hu);rw [he.size,Addr.add_add] at h8
     rwa [show m*sz+(i - m*sz)=i by omega] at h8
  obtain ⟨ys,rows,h1,h2,h3⟩:=hex len (Nat.le_refl _);subst h1;refine ⟨ys,_,rows,rfl,⟨h2.flen,?_⟩,h2,hwt1.1⟩;cases hy:ys with
  | nil=>exact .inl ⟨_,_,rfl,rfl⟩
  | cons y0 ys0=>
   rw [← hy];have hpos:0<ys.length:=by rw [hy]; simp
   have hfl:=h2.flen;have hpz:0<ys.length*sz:=Nat.mul_pos hpos hz;have hsp0:a.spot=none:=(yd1 (by simpa [Addr.add] using h3 0 _ (List.getElem?_eq_getElem (by omega)))).1;obtain ⟨ab,ao,asp⟩:=a;simp only at hsp0;subst hsp0
   have key:∀ i,i<ys.length*sz -> ∃ cs,F0 w ab=some cs∧cs[ao+i]?=rows.flatten[i]?:=by
    intro i hi;have h4:=h3 i _ (List.getElem?_eq_getElem (by omega));rw [Addr.add_plain] at h4;obtain ⟨_,cs,h6,h7⟩:=yd1 h4;exact ⟨cs,h6,by rw [List.getElem?_eq_getElem (l:=rows.flatten) (by omega)]; exact h7⟩
   obtain ⟨cs,h6,_⟩:=key 0 hpz;refine .inr ⟨ab,ao,cap,cs,rfl,hl,h6,?_⟩
   have key2:∀ i,i<ys.length*sz -> cs[ao+i]?=rows.flatten[i]?:=λi hi=>by
    obtain ⟨cs',h7,h8⟩:=key i hi;rw [h6] at h7
    injection h7 with h7
    rw [h7]; exact h8
   apply List.ext_getElem?
   intro i;rw [List.getElem?_take]
   split
   ·rename_i hi
    rw [List.getElem?_drop,key2 i hi]
   ·exact (List.getElem?_eq_none (l:=rows.flatten) (by omega)).symm
def zqy {α:Type} (P:Program) (fs:List Go.Field) (o sz:Nat) (R:(Nat -> Option (List Value)) -> List Value -> α -> Prop):Prop :=
 (∀ {H:Type} {enc:TypeId×Value -> H} {w:World} {base:Nat} {sp:Nat -> Bool} {hd:Bool} {fuel:Nat} {cs:List Value} {xs:List (DataW H×List MemPlace)},
  (fs.mapM λf=>DataW.trod enc P w base sp hd fuel f.type ((cs.drop f.offset).take (P.cellsOf f.type)))=some xs -> (∀ n∈DataW.weightsEach P (fs.map (·.type)) (xs.map (·.1)),n≤reachBytes) -> cs.length=o+sz -> ∃ y,R (F0 w) (cs.drop o) y) ∧
 ∀ {F:Nat -> Option (List Value)} {cs:List Value} {y:α},R F cs y -> cs.length=sz∧∀ c∈cs,c.oneCell'=true
def rP {α β:Type} (A:(Nat -> Option (List Value)) -> List Value -> α -> Prop) (B:(Nat -> Option (List Value)) -> List Value -> β -> Prop) (F:Nat -> Option (List Value)) (cs:List Value) (p:α×β):Prop:=∃ c1 c2,cs=c1++c2∧A F c1 p.1∧B F c2 p.2
theorem opensFK_one {α:Type} {P:Program} {f:Go.Field} {o sz:Nat} {R:(Nat -> Option (List Value)) -> List Value -> α -> Prop} (ho:f.offset=o) (h:OpensK P f.type sz R):zqy P [f] o sz R:=by
 refine ⟨λ{H enc w base sp hd fuel cs xs} hm hwt hl=>?_,h.one⟩;obtain ⟨_,h2⟩:=zo4 hm;have h3:=h2 0 f rfl
 have hx:(cs.drop f.offset).take (P.cellsOf f.type)=cs.drop o:=by
  rw [ho,h.size,List.take_of_length_le (by rw [List.length_drop]; omega)]
 rw [hx] at h3;cases hx0:xs[0]? with
 | none=>
  have := (zo4 hm).1;rw [List.getElem?_eq_none_iff] at hx0
  simp at this
  omega
 | some x=>
  rw [hx0] at h3;refine h.get h3 λn hn=>hwt n ?_;refine DataW.weights_mem_each (j:=0) rfl ?_ n hn;rw [List.getElem?_map,hx0]; rfl
theorem opensFK_cons {α β:Type} {P:Program} {f:Go.Field} {fs:List Go.Field} {o sa sb:Nat} {A:(Nat -> Option (List Value)) -> List Value -> α -> Prop} {B:(Nat -> Option (List Value)) -> List Value -> β -> Prop} (ho:f.offset=o) (h:OpensK P f.type sa A) (hs:zqy P fs (o+sa) sb B) :
  zqy P (f::fs) o (sa+sb) (rP A B):=by
 refine ⟨λ{H enc w base sp hd fuel cs xs} hm hwt hl=>?_,λ{F cs y} hr=>?_⟩
 ·rw [List.mapM_cons] at hm;obtain ⟨x,h1,h2⟩:=Option.bind_eq_some_iff.1 hm;obtain ⟨xs',h3,h4⟩:=Option.bind_eq_some_iff.1 h2;obtain rfl:x::xs'=xs:=by simpa using h4
  simp only [List.map_cons,DataW.weightsEach,List.mem_append] at hwt;obtain ⟨y,hy⟩:=h.get h1 (λn hn=>hwt n (.inl hn));obtain ⟨z,hz⟩:=hs.1 h3 (λn hn=>hwt n (.inr hn)) (by omega);refine ⟨(y,z),_,_,?_,hy,hz⟩;rw [ho,h.size,← List.drop_drop,List.take_append_drop]
 ·obtain ⟨c1,c2,rfl,h1,h2⟩:=hr;obtain ⟨a1,a2⟩:=h.one h1;obtain ⟨b1,b2⟩:=hs.2 h2;refine ⟨by simp; omega,λc hc=>?_⟩
  rcases List.mem_append.1 hc with hc | hc
  ·exact a2 c hc
  ·exact b2 c hc
theorem opensK_struct {α:Type} {P:Program} {t:TypeId} {fs:Array Go.Field} {sz:Nat} {R:(Nat -> Option (List Value)) -> List Value -> α -> Prop} (ht:P.underlying t=some (.struct fs)) (hs:P.cellsOf t=sz) (h:zqy P fs.toList 0 sz R):OpensK P t sz R:=by
 refine ⟨hs,λ{H enc w base sp hd fuel cs x} hx hwt=>?_,h.2⟩;cases fuel with
 | zero=>simp [DataW.trod] at hx
 | succ n=>
  have key:cs.length=P.cellsOf t∧∃ xs,(fs.toList.mapM λf=>DataW.trod enc P w base sp hd n f.type ((cs.drop f.offset).take (P.cellsOf f.type)))=some xs∧x.1=.agg (xs.map (·.1)):=by
   unfold DataW.trod at hx;rw [ht] at hx
   split at hx
   case h_9=>
    rename_i fs' e
    injection e with e
    injection e with e
    subst e
    split at hx
    ·rename_i hc
     refine ⟨hc,?_⟩;obtain ⟨xs,h1,h2⟩:=Option.map_eq_some_iff.1 hx;exact ⟨xs,h1,by rw [← h2]⟩
    ·exact absurd hx (by simp)
   all_goals first | (exfalso; simp at hx; done) | (exfalso; simp_all; done)
  obtain ⟨hc,xs,hm,hx1⟩:=key;rw [hx1] at hwt;simp only [DataW.weights,ht] at hwt;obtain ⟨y,hy⟩:=h.1 hm hwt (by rw [hc,hs]; omega);exact ⟨y,by simpa using hy⟩
theorem OpensK.arg {α:Type} {P:Program} {t:TypeId} {sz:Nat} {R:(Nat -> Option (List Value)) -> List Value -> α -> Prop} (h:OpensK P t sz R) {H:Type} {enc:TypeId×Value -> H} {w:World} {base:Nat} {sp:Nat -> Bool} {hd:Bool} {v:Value} {x:DataW H} {ps:List MemPlace}
  (hx:DataW.Trod enc P w base sp hd t v x ps) {ts:List TypeId} {ds:List (DataW H)} (hsz:(DataW.weightsEach P ts ds).all (· ≤ reachBytes)=true) (j:Nat) (ht:ts[j]?=some t) (hd':ds[j]?=some x):∃ y,R (F0 w) v.cells.toList y:=by
 obtain ⟨fuel,hx⟩:=hx;exact h.get hx λn hn=>by simpa using List.all_eq_true.1 hsz n (DataW.weights_mem_each ht hd' n hn)
theorem yn0 {k:IntKind} {F:Nat -> Option (List Value)} {v:Value} {ys:List Int} (h:rS 1 (rI k) F [v] ys):sF F 1 v ys.length (ys.map (.int k))∧(∀ y∈ys,(Lit.int k y).wf=true)∧ys.length≤140737488351232:=by
 obtain ⟨v',rows,e,hv,hr,hm⟩:=h
 injection e with e _
 subst e
 have:rows.flatten=ys.map (.int k):=by
  have h1:∀ (rows:List (List Value)) (ys:List Int),zfy (rI k F) rows ys -> rows.flatten=ys.map (.int k):=by
   intro rows
   induction rows with
   | nil=>intro ys h; have := h.1; cases ys with | nil=>rfl | cons _ _=>simp at this
   | cons r rows ih=>
    intro ys h;cases ys with
    | nil=>have := h.1; simp at this
    | cons y ys=>
     obtain ⟨h2,_⟩:=h.2 0 r y rfl rfl;rw [List.flatten_cons,h2,ih ys ⟨by have := h.1; simp at this; omega,λi a b ha hb=>h.2 (i+1) a b (by simpa using ha) (by simpa using hb)⟩]
     rfl
  exact h1 _ _ hr.all
 rw [this] at hv;refine ⟨hv,λy hy=>?_,hm⟩;obtain ⟨j,hj,rfl⟩:=List.mem_iff_getElem.1 hy;obtain ⟨r,_,h2⟩:=hr.all.get (List.getElem?_eq_getElem hj);exact h2.2
end Go.Proofs.YtlhlhpgjnjjhnaaGreatDoor.K
open Go Go.RowKit Go.MapKept
set_option linter.unusedVariables false
set_option linter.unusedSimpArgs false
namespace Go.Proofs.YtlhlhpgjnjjhnaaGreatDoor.K
section
variable {F:Nat -> Option (List Value)} {M:Nat -> Option zak} {N:Nat} {K:zae} {P:Program}
theorem yrq (k:∀ b,N≤b -> K (.map (some b)) ⟨F,upd M b (some (.obj (.map #[] 0))),b+1⟩):mkm K ⟨F,M,N⟩:=λb hb=>k b hb
theorem yvk {t k e:TypeId} {d:TypeDesc} {b:Nat} {es:Array MapEntry} {clock:Nat} {key v:Value} (ht:P.underlying t=some (.map k e)) (hk:P.underlying k=some d) (hkey:IsKey d key) (hks:∀ x∈es.toList,IsKey d x.key)
  (hM:M b=some (.obj (.map es clock)))
  (new:(∀ x∈es.toList,x.key≠key) -> K undef ⟨F,upd M b (some (.obj (.map (es.push ⟨key,v,clock⟩) (clock+1)))),N⟩)
  (old:∀ (j:Nat) (x:MapEntry),es.toList[j]?=some x -> x.key=key -> K undef ⟨F,upd M b (some (.obj (.map (es.modify j (λe'=>{ e' with key:=key,val:=v })) clock))),N⟩):mup P t (.map (some b)) key v K ⟨F,M,N⟩:=by
 rcases findNow_spec hkey es.toList 0 hks with ⟨h1,h2⟩ | ⟨j,e0,h1,h2,h3⟩
 ·refine ⟨b,es,clock,_,_,rfl,hM,λw hb=>?_,new h2⟩
  simp [Instr.mapUpdate,run_underlying ht,MapKept.run_getObj_map hb,run_checkKey hk hkey,run_findKey hk h1,MapKept.run_setObj_map _ hb,Result.andThen]
 ·have hj:es[j]?=some e0:=by simpa using h2
  have hkeep:∀ w:World,(Instr.keyThatStays e0.key key).run P w=.ok key w:=λw=>by rw [h3]; exact run_keyThatStays hkey
  refine ⟨b,es,clock,_,_,rfl,hM,λw hb=>?_,old j e0 h2 h3⟩
  simp [Instr.mapUpdate,run_underlying ht,MapKept.run_getObj_map hb,run_checkKey hk hkey,run_findKey hk h1,hj,hkeep,MapKept.run_setObj_map _ hb,Result.andThen]
end
end Go.Proofs.YtlhlhpgjnjjhnaaGreatDoor.K
open Go Go.RowKit
set_option linter.unusedVariables false
set_option linter.unusedSimpArgs false
namespace Go.Proofs.YtlhlhpgjnjjhnaaGreatDoor.K
def zqr (P:Program) (f:FuncId) (args:Array Value) (u:FrameMode) (R:Ending -> FrameMode -> Hp -> Prop) (h:Hp):Prop :=
 ∀ w0 w,Rep w0 h w -> CallsDIn Fence.wide 0 P f args u w λe u' w'=>∃ h',Rep w0 h' w'∧R e u' h'
def zui (P:Program) (f:FuncId):Bool:=((P.funcs[f]?).map λfn=>fn.name != "runtime.NumGoroutine" && fn.body.isSome).getD false
theorem zxw {P:Program} {f:FuncId} (h:zui P f=true) (a1 a2:Array Value) (w:World):(invoke (.fn (.func f) a2) a1).run P w=.ok (.enter f (zcp a1 a2)) w:=by
 unfold zui at h;rw [zj4];cases hfn:P.funcs[f]? with
 | none=>simp [hfn] at h
 | some fn=>
  simp [hfn] at h
  obtain ⟨bd,hb⟩:=Option.isSome_iff_exists.1 h.2
  simp [invoke,callFunc,hfn,h.1,hb]
def zr0 (o:Oper):Option Operand:=match o.op,o.guard with
 | .defer c,none=>match c.callee,c.args.toList with
  | .value x,[]=>some x
  | _,_=>none
 | _,_=>none
theorem zzg {o:Oper} {x:Operand} (h:zr0 o=some x):o.guard=none∧∃ c,o.op=.defer c∧c.callee=.value x∧c.args = #[]:=by
 unfold zr0 at h
 split at h
 ·rename_i c hop hg
  split at h
  ·rename_i y hc ha
   cases h;exact ⟨hg,c,hop,hc,by simpa using ha⟩
  ·cases h
 ·cases h
def dfr (v:Value) (R:FuncId -> Array Value -> Array Value -> Hp -> Prop) (h:Hp):Prop:=∃ g first cap,v=.func (.func g) first cap∧R g first cap h
def zj9 (P:Program) (ops:Array Oper) (R:FuncId -> Array Value -> Array Value -> Env -> Hp -> Prop) (E:Env -> zb2):List Oper -> Env -> Hp -> Prop
 | [],_=>λ_=>False
 | [o],env=>match zr0 o with
  | some x=>dfr (evF env o x) λg f c=>R g f c (zeu env o.dst undef)
  | none=>λ_=>False
 | o::r,env=>opG P ops env o (λv=>zj9 P ops R E r (zeu env o.dst v)) (E env)
where evF (env:Env) (_:Oper):Operand -> Value
 | .func f=>.func (.func f) #[] #[]
 | x=>ev env x
section
variable {P:Program} {w0:World} {ops:Array Oper} {ds:List Deferred}
theorem zyn {R:FuncId -> Array Value -> Array Value -> Env -> Hp -> Prop} {E:Env -> zb2} {Qw:Exit -> Act -> World -> Prop} (hz:∀ env,¬ E env [] zcu) (hE:∀ env c w h,Rep w0 h w -> E env c h -> Qw (.panic c) ⟨env,ds⟩ w)
  (hR:∀ g a1 a2 env w h,Rep w0 h w -> R g a1 a2 env h -> Qw .normal ⟨env,{ target:=.fn (.func g) a2,args:=a1 }::ds⟩ w) :
  ∀ (k:Nat) (env:Env) (h:Hp) (w:World),k≤ops.size -> Rep w0 h w -> zj9 P ops R E (ops.toList.drop k) env h -> wpOps P ops Qw (List.range' k (ops.size - k)) ⟨env,ds⟩ w:=by
 intro k
 induction hk:ops.size - k generalizing k with
 | zero=>
  intro env h w hle r hd;have:ops.toList.drop k=[]:=List.drop_eq_nil_of_le (by simp; omega);rw [this] at hd;exact hd.elim
 | succ n ih=>
  intro env h w hle r hd;have hlt:k<ops.size:=by omega
  have hi:ops[k]?=some ops[k]:=by simp [hlt]
  have hdrop:ops.toList.drop k=ops[k]::ops.toList.drop (k+1):=by
   rw [List.drop_eq_getElem_cons (by simpa using hlt)]; simp
  rw [hdrop] at hd;rw [List.range'_succ,wpOps_cons];cases hr:ops.toList.drop (k+1) with
  | nil=>
   have hn:n=0:=by
    have := congrArg List.length hr
    simp at this; omega
   subst hn;rw [hr] at hd;generalize ops[k]=o at hi hd;simp only [zj9] at hd;cases hx:zr0 o with
   | none=>rw [hx] at hd; exact hd.elim
   | some x=>
    rw [hx] at hd;obtain ⟨hg,c,hop,hcal,hA⟩:=zzg hx;obtain ⟨g,first,cap,hev,hd⟩:=hd;unfold wpOp;rw [hi];simp only;have hw:Region.wanted o (yielded ops env)=true:=by unfold Region.wanted; rw [hg]
    rw [if_pos hw];refine .inl ?_
    have hx:(Act.mk env ds).eval x=.func (.func g) first cap:=by
     cases x<;>exact hev
    have he:(execOp (Act.mk env ds).eval o).run P w=.ok (.defer { target:=.fn (.func g) cap,args:=first }) w:=by
     unfold execOp;rw [hop];simp only [resolve,hcal,hx,hA,Deferred.ofValue]
     simp [go_sem]
    unfold Oper.wp;rw [he];have h2:=hR _ _ _ _ w h r hd;show Qw .normal (({ (Act.mk env ds) with defers:=_ }:Act).put o.dst undef) w
    have:(({ (Act.mk env ds) with defers:={ target:=.fn (.func g) cap,args:=first }::ds }:Act).put o.dst undef)=⟨zeu env o.dst undef,{ target:=.fn (.func g) cap,args:=first }::ds⟩:=zib ..;rw [this]; exact h2
  | cons o2 r2=>
   rw [hr] at hd;have hd2:opG P ops env ops[k] (λv=>zj9 P ops R E (o2::r2) (zeu env ops[k].dst v)) (E env) h:=hd;rw [← hr] at hd2;refine zqi hi r (λhb=>(hz env hb).elim) hd2 (λv w' h' r' hk'=>?_) (λc w' h' r' he=>hE _ _ _ _ r' he);exact ih (k+1) (by omega) _ h' w' (by omega) r' hk'
end
def yqh (w0:World) (K:zae) (E:zb2):Ending -> World -> Prop:=λe w'=>∃ h',Rep w0 h' w'∧match e with
 | .returned v=>K v h'
 | .panicked c=>E c h'
 | .outgrown=>False
def zi4:FrameMode -> Value×FrameMode
 | .panicking ({ v,recovered:=false,goexit:=false }::older)=>(v,.panicking ({ v,recovered:=true }::older))
 | u=>(.nilIface,u)
section
variable {P:Program} {w0:World} {ops:Array Oper} {Q:QD}
theorem zyh {Qw:Exit -> Act -> List Frame -> World -> Prop} {cs:List Frame} (hz:∀ env,¬ Q (.panic []) env zcu) (hQ:∀ e env h w,Rep w0 h w -> Q e env h -> Qw e ⟨env,[]⟩ cs w):∀ (k:Nat) (env:Env) (h:Hp) (w:World),k≤ops.size -> Rep w0 h w -> zjf P ops Q (ops.toList.drop k) env h -> wpOpsS P ops Qw (List.range' k (ops.size - k)) ⟨env,[]⟩ cs w:=by
 intro k
 induction hk:ops.size - k generalizing k with
 | zero=>
  intro env h w hle r hd;have:ops.toList.drop k=[]:=List.drop_eq_nil_of_le (by simp; omega);rw [this] at hd;exact hQ _ _ _ _ r hd
 | succ n ih=>
  intro env h w hle r hd;have hlt:k<ops.size:=by omega
  have hi:ops[k]?=some ops[k]:=by simp [hlt]
  have hdrop:ops.toList.drop k=ops[k]::ops.toList.drop (k+1):=by
   rw [List.drop_eq_getElem_cons (by simpa using hlt)]; simp
  rw [hdrop] at hd;rw [List.range'_succ];simp only [zjf] at hd;generalize ops[k]=o at hi hd
  have step:opD P env o (λv=>zjf P ops Q (ops.toList.drop (k+1)) (zeu env o.dst v)) (λc=>Q (.panic c) env) h ->
    (match (execOp (Act.mk env []).eval o).run P w with
    | .ok .recover w'=>
     match recoverD cs with
     | some (v,cs')=>wpOpsS P ops Qw (List.range' (k+1) n) ((Act.mk env []).put o.dst v) cs' w'
     | none=>wpOpsS P ops Qw (List.range' (k+1) n) ((Act.mk env []).put o.dst .nilIface) cs w'
    | r=>o.upon P ⟨env,[]⟩ (λa' w'=>wpOpsS P ops Qw (List.range' (k+1) n) a' cs w') (λe a' w'=>Qw e a' cs w') r):=λhd=>by
   have := zp6 (ds:=[]) (next:=λa' w'=>wpOpsS P ops Qw (List.range' (k+1) n) a' cs w') (Q:=λe a' w'=>Qw e a' cs w') r (λhb=>(hz env hb).elim) hd
    (λv w' h' r' hk'=>ih (k+1) (by omega) _ h' w' (by omega) r' hk') (λc w' h' r' he=>hQ _ _ _ _ r' he)
   unfold Oper.wp at this;generalize (execOp (Act.mk env []).eval o).run P w=res at this ⊢
   split
   ·exact this.elim
   ·exact this
  unfold wpOpsS;rw [hi];simp only;unfold opG at hd;cases hg:o.guard with
  | none=>
   rw [hg] at hd;have:Region.wanted o (yielded ops env)=true:=by unfold Region.wanted; rw [hg]
   rw [if_pos this];exact step hd
  | some p=>
   obtain ⟨j,want⟩:=p;rw [hg] at hd;simp only [gdK] at hd;rw [zmc hg]
   by_cases hb:isB (gv ops env j) want=true
   ·rw [if_pos hb] at hd ⊢;exact step hd
   ·rw [if_neg hb] at hd;rw [if_neg hb,zib];exact ih (k+1) (by omega) _ h w (by omega) r hd
def zqa (o:Oper):Bool:=match o.op,o.guard with
 | .call c,none=>(match c.callee with | .builtin .recover=>c.args.isEmpty | _=>false)
 | _,_=>false
theorem zyi (hm:P.follows .mixedOrders=true) {f:FuncId} {fn:Func} {id:Nat} {rest:Code} {args:Array Value} {u:FrameMode} {R:Ending -> FrameMode -> Hp -> Prop} {h:Hp} (hf:P.funcs[f]?=some fn) (hb:fn.body=some (.seq (.region id ops false) rest)) (hdr:zev rest=false)
  {o:Oper} (ho:ops[0]?=some o) (hr:zqa o=true)
  (hd:zjf P ops (za6 (den P rest (zjm P fn.results.toList (λv=>R (.returned v) (zi4 u).2) (λc h=>c≠[]∧R (.panicked c) (zi4 u).2 h))) (λe env h=>zjm P fn.results.toList (λv=>R (.returned v) (zi4 u).2) (λc h=>c≠[]∧R (.panicked c) (zi4 u).2 h) e env h))
   (ops.toList.drop 1) (zeu (zcp args (List.replicate (fn.ntmps - args.size) undef).toArray) o.dst (zi4 u).1) h):zqr P f args u R h:=by
 intro w0 w r;rw [zj4,List.toArray_replicate] at hd;generalize hR':(λe u' w'=>∃ h',Rep w0 h' w'∧R e u' h':Ending -> FrameMode -> World -> Prop)=RR;refine ⟨trivial,λc₀ cs hu _=>?_⟩
 let b:Frame:={ (default:Frame) with fn:=f,kind:=.deferred }
 have henter:Frame.enter P f args .deferred =
   b.at { tmps:=args++Array.replicate (fn.ntmps - args.size) undef,defers:=[] } [.code (.seq (.region id ops false) rest)]:=by
  simp [Frame.enter,Frame.at,hf,hb,b]
 have hlt:0<ops.size:=(Array.getElem?_eq_some_iff.1 ho).1
 have hrec:∃ v c₁,(zi4 u)=(v,c₁.mode)∧c₁={ c₀ with mode:=c₁.mode }∧(match recoverD (c₀::cs) with | some (v',cs')=>v'=v∧cs'=c₁::cs | none=>v=.nilIface∧c₁=c₀):=by
  unfold zi4 recoverD;subst hu;cases hmode:c₀.mode with
  | run=>exact ⟨.nilIface,c₀,by rw [hmode],rfl,by simp [hmode]⟩
  | returning=>exact ⟨.nilIface,c₀,by rw [hmode],rfl,by simp [hmode]⟩
  | panicking chain=>
   match chain with
   | []=>exact ⟨.nilIface,c₀,by rw [hmode],rfl,by simp [hmode]⟩
   | { v,recovered:=false,goexit:=false }::older=>exact ⟨v,{ c₀ with mode:=.panicking ({ v,recovered:=true }::older) },rfl,rfl,by simp [hmode]⟩
   | { v,recovered:=true,goexit }::older=>exact ⟨.nilIface,c₀,by rw [hmode],rfl,by simp [hmode]⟩
   | { v,recovered:=false,goexit:=true }::older=>exact ⟨.nilIface,c₀,by rw [hmode],rfl,by simp [hmode]⟩
 obtain ⟨v,c₁,hv,hc₁,hrd⟩:=hrec;rw [hv] at hd
 have post:∀ e env h' w',Rep w0 h' w' -> zjm P fn.results.toList (λv=>R (.returned v) c₁.mode) (λc h=>c≠[]∧R (.panicked c) c₁.mode h) e env h' -> bodyPostS P fn c₀ cs RR e ⟨env,[]⟩ (c₁::cs) w':=by
  intro e env h' w' r' hq;subst hR';cases e with
  | normal=>
   obtain ⟨vv,hr,hk⟩:=zig (fn:=fn) (env:=env) (K:=λv=>R (.returned v) c₁.mode) r' hq;exact ⟨rfl,c₁.mode,by rw [← hc₁],vv,hr,h',r',hk⟩
  | ret=>
   obtain ⟨vv,hr,hk⟩:=zig (fn:=fn) (env:=env) (K:=λv=>R (.returned v) c₁.mode) r' hq;exact ⟨rfl,c₁.mode,by rw [← hc₁],vv,hr,h',r',hk⟩
  | panic c=>exact ⟨rfl,c₁.mode,by rw [← hc₁],h',r',hq.2⟩
  | exit id=>exact hq.elim
  | goto l=>exact hq.elim
  | outgrown=>exact hq.elim
 have key:(Code.seq (.region id ops false) rest).wpS P (bodyPostS P fn c₀ cs RR) ⟨args++Array.replicate (fn.ntmps - args.size) undef,[]⟩ (c₀::cs) w:=by
  refine wpS_seq (wpS_region ?_);have h1:=zyh (P:=P) (w0:=w0) (ops:=ops) (cs:=c₁::cs) (Qw:=Exit.thenS (rest.wpS P (bodyPostS P fn c₀ cs RR)) (bodyPostS P fn c₀ cs RR)) (Q:=_) (λenv hp=>hp.1 rfl) (λe env h' w' r' hq=>?_) 1 _ h w hlt r hd
  ·rw [List.range_eq_range',show ops.size=(ops.size - 1)+1 by omega,List.range'_succ];unfold wpOpsS;rw [ho];simp only;unfold zqa at hr
   split at hr
   ·rename_i c hop hg
    have hw:Region.wanted o (yielded ops (args++Array.replicate (fn.ntmps - args.size) undef))=true:=by unfold Region.wanted; rw [hg]
    rw [if_pos hw]
    split at hr
    ·rename_i hcal
     have hA:c.args = #[]:=by simpa using hr
     have he:(execOp (Act.mk (args++Array.replicate (fn.ntmps - args.size) undef) []).eval o).run P w=.ok .recover w:=by
      unfold execOp;rw [hop];simp only [resolve,hcal,hA]
      simp [go_sem]
     rw [he];simp only;have hpe:∀ x,(Act.mk (args++Array.replicate (fn.ntmps - args.size) undef) []).put o.dst x=⟨zeu (args++Array.replicate (fn.ntmps - args.size) undef) o.dst x,[]⟩:=λx=>zib ..
     split at hrd
     ·rename_i v' cs' hrr
      rw [hrr];obtain ⟨rfl,rfl⟩:=hrd;simp only;rw [hpe]; exact h1
     ·rename_i hrr
      rw [hrr];obtain ⟨rfl,rfl⟩:=hrd;simp only;rw [hpe]; exact h1
    ·cases hr
   ·cases hr
  ·cases e with
   | normal=>
    exact wpS_of_wp (wp_mono (zph hm rest _ env h' w' (λhx=>by rw [hdr] at hx; cases hx) (λenv hp=>(hp.1 rfl).elim) r' hq) λe a w2 ⟨env2,h2,ha,r2,hq2⟩=>by subst ha; exact post e env2 h2 w2 r2 hq2)
   | ret=>exact post .ret env h' w' r' hq
   | panic c=>exact post (.panic c) env h' w' r' hq
   | exit id=>exact hq.elim
   | goto l=>exact hq.elim
   | outgrown=>exact hq.elim
 obtain ⟨e,a',cs',w',hq,harr⟩:=key b [] rfl rfl;rw [← henter] at harr;cases e with
 | normal=>
  obtain ⟨hd,u',rfl,v,hr,hR⟩:=hq;exact ⟨.returned v,u',w',_,hR,stepsIn_wide.2 (Steps.trans harr (.one step_end)),rfl,rfl,rfl,hd,fn,hf,hr⟩
 | ret=>
  obtain ⟨hd,u',rfl,v,hr,hR⟩:=hq;obtain ⟨todo,hs⟩:=harr;exact ⟨.returned v,u',w',_,hR,stepsIn_wide.2 hs,rfl,rfl,rfl,hd,fn,hf,hr⟩
 | panic chain=>
  obtain ⟨hd,u',rfl,hR⟩:=hq;obtain ⟨todo,hs⟩:=harr;exact ⟨.panicked chain,u',w',_,hR,stepsIn_wide.2 hs,rfl,rfl,rfl,hd,fn,hf⟩
 | exit id=>exact hq.elim
 | goto l=>exact hq.elim
 | outgrown=>
  obtain ⟨u',hR⟩:=hq;exact ⟨.outgrown,u',w',b,hR,harr.resolve_left (by simp [b]),rfl,rfl,trivial⟩
end
abbrev FR (ro:Option Nat):Fence:={ Fence.wide with round:=ro }
theorem yo4 {P:Program} {ro:Option Nat} {m m':Machine}:StepsIn (Machine.fenced P (FR ro)) P m m'↔Steps P m m':=stepsIn_wide
theorem ydy {ro:Option Nat} {n:Nat} {P:Program} {f:FuncId} {args:Array Value} {w:World} {R:Ending -> World -> Prop} (h:Calls P f args w R):CallsIn (FR ro) n P f args w R :=
 (callsIn_wide (n:=n)).2 h
theorem yp9 {ro:Option Nat} {n:Nat} {P:Program} {row:String} {args:Array Value} {w:World} {R:Value -> World -> Prop} (h:Rows P row args w R):RowsIn (FR ro) n P row args w R :=
 λc cs _=>let ⟨v,w',r,s⟩:=h c cs; ⟨v,w',r,yo4.2 s⟩
theorem ylw {P:Program} {ro:Option Nat} {o:Oper} {a:Act} {w:World} {next:Act -> World -> Prop} {Q:Exit -> Act -> World -> Prop} (hnd:∀ c,o.op≠.defer c) (h:o.wp P a w next Q):o.wpIn (FR ro) 0 P a w next Q:=by
 refine ⟨λ_ _=>trivial,?_⟩;rw [Oper.semAt_eq _ _ _ hnd];unfold Oper.wp at h;generalize (execOp a.eval o).run P w=r at h ⊢;unfold Oper.upon at h
 split at h
 ·exact h
 ·exact h
 ·exact h
 ·exact ⟨(λhd=>by simp [Fence.wide] at hd),ydy h⟩
 ·exact ⟨(λhd=>by simp [Fence.wide] at hd),yp9 h⟩
 ·exact h
 ·exact h.elim
section
variable {P:Program} {w0:World} {ds:List Deferred} {ops:Array Oper} {Q:QD} {ro:Option Nat}
theorem yi7 {env:Env} {o:Oper} {K:zae} {E:zb2} {h:Hp} (hd:opD P env o K E h):∀ c,o.op≠.defer c:=by
 intro c hc;unfold opD at hd;rw [hc] at hd;exact hd
theorem yg0 {env:Env} {o:Oper} {i:Nat} (hi:ops[i]?=some o) {K:zae} {E:zb2} {h:Hp} {w:World} (r:Rep w0 h w) (hl:E [] zcu -> w0.drawn=0) (hd:opG P ops env o K E h) {l:List Nat} {Qw:Exit -> Act -> World -> Prop}
  (hn:∀ v w' h',Rep w0 h' w' -> K v h' -> wpOpsIn (FR ro) 0 P ops Qw l ⟨zeu env o.dst v,ds⟩ w') (hE:∀ c w' h',Rep w0 h' w' -> E c h' -> Qw (.panic c) ⟨env,ds⟩ w'):wpOpsIn (FR ro) 0 P ops Qw (i::l) ⟨env,ds⟩ w:=by
 unfold wpOpsIn;rw [hi];simp only;unfold opG at hd;cases hg:o.guard with
 | none=>
  rw [hg] at hd;have:Region.wanted o (yielded ops env)=true:=by unfold Region.wanted; rw [hg]
  rw [if_pos this];exact ylw (yi7 hd) (zp6 r hl hd hn hE)
 | some p=>
  obtain ⟨j,want⟩:=p;rw [hg] at hd;simp only [gdK] at hd;rw [zmc hg]
  by_cases hb:isB (gv ops env j) want=true
  ·rw [if_pos hb] at hd ⊢;exact ylw (yi7 hd) (zp6 r hl hd hn hE)
  ·rw [if_neg hb] at hd;rw [if_neg hb,zib];exact ⟨λ_ _=>trivial,hn undef w h r hd⟩
def zvd (P:Program) (l:Nat) (args:Array Value) (K:zae) (h:Hp):Prop :=
 ∀ w0 w,Rep w0 h w -> ∃ fn tmps assign body,(Instr.yield l args).run P w=.ok (.round l fn tmps assign body) w ∧
  RoundIn Fence.wide 0 P l fn tmps assign body w λe w'=>∃ h',Rep w0 h' w'∧match e with | .returned v=>K v h' | _=>False
def zqx (env:Env) (o:Oper):Option (Nat×Array Value):=match o.op,o.guard with
 | .call c,none=>match c.callee with
  | .value x=>match ev env x with
   | .func (.yield l) first _=>some (l,zcp first (zkw (ev env) c.args))
   | _=>none
  | _=>none
 | _,_=>none
theorem yad {env:Env} {o:Oper} {p:Nat×Array Value} (h:zqx env o=some p):o.guard=none∧∃ c x first cap,o.op=.call c∧c.callee=.value x∧ev env x=.func (.yield p.1) first cap∧p.2=zcp first (zkw (ev env) c.args):=by
 unfold zqx at h
 split at h
 ·rename_i c hop hg
  split at h
  ·rename_i x hc
   split at h
   ·rename_i l first cap hv
    cases h;exact ⟨hg,c,x,first,cap,hop,hc,hv,rfl⟩
   ·cases h
  ·cases h
 ·cases h
def zk6 (P:Program) (ops:Array Oper) (Q:QD):List Oper -> Env -> Hp -> Prop
 | [],env=>Q .normal env
 | o::r,env=>match zqx env o with
  | some p=>zvd P p.1 p.2 λv=>zk6 P ops Q r (zeu env o.dst v)
  | none=>opG P ops env o (λv=>zk6 P ops Q r (zeu env o.dst v)) (λc=>Q (.panic c) env)
theorem zyk (hz:∀ env,Q (.panic []) env zcu -> w0.drawn=0):∀ (k:Nat) (env:Env) (h:Hp) (w:World),k≤ops.size -> Rep w0 h w -> zk6 P ops Q (ops.toList.drop k) env h -> wpOpsIn (FR ro) 0 P ops (QW w0 ds Q) (List.range' k (ops.size - k)) ⟨env,ds⟩ w:=by
 intro k
 induction hk:ops.size - k generalizing k with
 | zero=>
  intro env h w hle r hd;have:ops.toList.drop k=[]:=List.drop_eq_nil_of_le (by simp; omega);rw [this] at hd;exact ⟨env,h,rfl,r,hd⟩
 | succ n ih=>
  intro env h w hle r hd;have hlt:k<ops.size:=by omega
  have hi:ops[k]?=some ops[k]:=by simp [hlt]
  have hdrop:ops.toList.drop k=ops[k]::ops.toList.drop (k+1):=by
   rw [List.drop_eq_getElem_cons (by simpa using hlt)]; simp
  rw [hdrop] at hd;rw [List.range'_succ];simp only [zk6] at hd;cases hy:zqx env ops[k] with
  | none=>
   rw [hy] at hd;exact yg0 hi r (hz env) hd (λv w' h' r' hk'=>ih (k+1) (by omega) _ h' w' (by omega) r' hk') (λc w' h' r' he=>⟨env,h',rfl,r',he⟩)
  | some p=>
   rw [hy] at hd;obtain ⟨hg,c,x,first,cap,hop,hcal,hv,hp⟩:=yad hy;unfold wpOpsIn;rw [hi];simp only;have hw:Region.wanted ops[k] (yielded ops env)=true:=by unfold Region.wanted; rw [hg]
   rw [if_pos hw];refine ⟨λ_ _=>trivial,?_⟩;rw [Oper.semAt_eq _ _ _ (λc' hc'=>by rw [hop] at hc'; cases hc')];obtain ⟨fn,tmps,assign,body,hyr,hround⟩:=hd w0 w r;have hx:(Act.mk env ds).eval x=.func (.yield p.1) first cap:=hv
   have he:(execOp (Act.mk env ds).eval ops[k]).run P w=.ok (.round p.1 fn tmps assign body) w:=by
    unfold execOp;rw [hop];rw [hp,zj4,zwe] at hyr;simp only [resolve,hcal,hx,Deferred.ofValue];simp only [Sem.run_bind,Sem.run_pure,Result.andThen_ok,invoke];exact hyr
   rw [he];refine ⟨(λhd=>by simp [Fence.wide] at hd),?_⟩;refine RoundIn.mono (F:=FR ro) hround λe w' ⟨h',r',he⟩=>?_;cases e with
   | returned v=>
    show wpOpsIn (FR ro) 0 P ops (QW w0 ds Q) _ ((Act.mk env ds).put _ v) w';rw [zib];exact ih (k+1) (by omega) _ h' w' (by omega) r' he
   | panicked c=>exact he.elim
   | outgrown=>exact he.elim
end
section
variable {P:Program} {w0:World} {ds:List Deferred} {ops:Array Oper} {Q:QD} {ro:Option Nat}
theorem ygw (hz:∀ env,Q (.panic []) env zcu -> w0.drawn=0):∀ (k:Nat) (env:Env) (h:Hp) (w:World),k≤ops.size -> Rep w0 h w -> zjf P ops Q (ops.toList.drop k) env h -> wpOpsIn (FR ro) 0 P ops (QW w0 ds Q) (List.range' k (ops.size - k)) ⟨env,ds⟩ w:=by
 intro k
 induction hk:ops.size - k generalizing k with
 | zero=>
  intro env h w hle r hd;have:ops.toList.drop k=[]:=List.drop_eq_nil_of_le (by simp; omega);rw [this] at hd;exact ⟨env,h,rfl,r,hd⟩
 | succ n ih=>
  intro env h w hle r hd;have hlt:k<ops.size:=by omega
  have hi:ops[k]?=some ops[k]:=by simp [hlt]
  have hdrop:ops.toList.drop k=ops[k]::ops.toList.drop (k+1):=by
   rw [List.drop_eq_getElem_cons (by simpa using hlt)]; simp
  rw [hdrop] at hd;rw [List.range'_succ];exact yg0 hi r (hz env) hd (λv w' h' r' hk'=>ih (k+1) (by omega) _ h' w' (by omega) r' hk') (λc w' h' r' he=>⟨env,h',rfl,r',he⟩)
def zms:Code -> Bool
 | .skip=>true
 | .label _=>true
 | .exit _=>true
 | .ret=>true
 | .region _ _ d=>!d
 | .seq a b=>zms a&&zms b
 | .cond _ a b=>zms a&&zms b
 | .block _ c=>zms c
 | _=>false
theorem ygo:∀ (c:Code) (Q:QD) (env:Env) (h:Hp) (w:World),zms c=true -> (∀ env,Q (.panic []) env zcu -> w0.drawn=0) -> Rep w0 h w -> den P c Q env h -> c.wpIn (FR ro) 0 P (QW w0 ds Q) ⟨env,ds⟩ w:=by
 intro c
 induction c with
 | skip=>exact λQ env h w _ _ r hd=>wpIn_skip ⟨env,h,rfl,r,hd⟩
 | label l=>exact λQ env h w _ _ r hd=>wpIn_label ⟨env,h,rfl,r,hd⟩
 | exit id=>exact λQ env h w _ _ r hd=>wpIn_exit ⟨env,h,rfl,r,hd⟩
 | ret=>exact λQ env h w _ _ r hd=>wpIn_ret ⟨env,h,rfl,r,hd⟩
 | region id ops draw=>
  intro Q env h w hf hz r hd;cases draw with
  | true=>cases hf
  | false=>
   simp only [den,Bool.false_eq_true,if_false] at hd;refine wpIn_region ?_;have := ygw (P:=P) (w0:=w0) (ds:=ds) (ro:=ro) (ops:=ops) (Q:=Q) hz 0 env h w (Nat.zero_le _) r (by simpa using hd)
   rwa [Nat.sub_zero,← List.range_eq_range'] at this
 | seq a b iha ihb=>
  intro Q env h w hf hz r hd;simp only [zms,Bool.and_eq_true] at hf;simp only [den] at hd;refine wpIn_seq (wpIn_mono (iha (za6 (den P b Q) Q) env h w hf.1 (λenv hp=>hz env hp) r hd) ?_);rintro e a' w' ⟨env',h',rfl,r',hq⟩;cases e with
  | normal=>exact ihb Q env' h' w' hf.2 hz r' hq
  | exit id=>exact ⟨env',h',rfl,r',hq⟩
  | goto l=>exact ⟨env',h',rfl,r',hq⟩
  | ret=>exact ⟨env',h',rfl,r',hq⟩
  | panic c=>exact ⟨env',h',rfl,r',hq⟩
  | outgrown=>exact ⟨env',h',rfl,r',hq⟩
 | cond c a b iha ihb=>
  intro Q env h w hf hz r hd;simp only [zms,Bool.and_eq_true] at hf;simp only [den,cnd] at hd;obtain ⟨t,ht,hd⟩:=hd;cases t with
  | true=>exact wpIn_cond_true ht (iha Q env h w hf.1 hz r (by simpa using hd))
  | false=>exact wpIn_cond_false ht (ihb Q env h w hf.2 hz r (by simpa using hd))
 | block id c ih=>
  intro Q env h w hf hz r hd;simp only [den] at hd;refine wpIn_block (wpIn_mono (ih (blk id Q) env h w hf (λenv hp=>hz env hp) r hd) ?_);rintro e a' w' ⟨env',h',rfl,r',hq⟩;cases e with
  | exit id'=>
   simp only [Exit.inBlock];simp only [blk] at hq
   split
   ·rename_i hid; rw [if_pos hid] at hq; exact ⟨env',h',rfl,r',hq⟩
   ·rename_i hid; rw [if_neg hid] at hq; exact ⟨env',h',rfl,r',hq⟩
  | normal=>exact ⟨env',h',rfl,r',hq⟩
  | goto l=>exact ⟨env',h',rfl,r',hq⟩
  | ret=>exact ⟨env',h',rfl,r',hq⟩
  | panic c=>exact ⟨env',h',rfl,r',hq⟩
  | outgrown=>exact ⟨env',h',rfl,r',hq⟩
 | _=>intro Q env h w hf; cases hf
end
theorem Rep.putObj {w0 w:World} {h:Hp} (r:Rep w0 h w) {l:Nat} {o o':Obj} (hM:h.M l=some (.obj o)) (ho':Obj.noCells o'):Rep w0 (h.set l (.obj o')) (w.putObj l o'):=by
 obtain ⟨h1,h2,h3,h4,h5⟩:=r.ob l o hM;have hlt:=(Array.getElem?_eq_some_iff.1 h4).1;exact r.turn (w':=w.putObj l o') h2 h3 rfl rfl rfl (by simp) (by simpa using hlt) (λk hk _=>World.putObj_heap_other hk) (some _) h.nx (Nat.le_refl _) (by simpa using r.nx) h1 ⟨World.putObj_heap_same hlt,ho'⟩
def yow (l:Nat) (rec:Loop) (K:zae):QD
 | .normal,_=>λh=>h.M l=some (.obj (.loop { rec with state:=.busy }))∧K (.bool true) (h.set l (.obj (.loop { rec with state:=.ready,pending:=none })))
 | .exit id,_=>λh=>h.M l=some (.obj (.loop { rec with state:=.busy }))∧K (.bool false) (h.set l (.obj (.loop { rec with state:=.done,pending:=some (.exit id) })))
 | .ret,_=>λh=>h.M l=some (.obj (.loop { rec with state:=.busy }))∧K (.bool false) (h.set l (.obj (.loop { rec with state:=.done,pending:=some .ret })))
 | _,_=>λ_=>False
def yqk (tmps:Array Value) (ps:Array Tmp) (args:Array Value):Array Value:=(ps.zip args).foldl (λt (p,v)=>t.setIfInBounds p v) tmps
theorem ynx {P:Program} {l:Nat} {rec:Loop} {args:Array Value} {K:zae} {h:Hp} (hM:h.M l=some (.obj (.loop rec))) (hr:rec.state=.ready) (hs:args.size=rec.params.size) (h1:zms rec.assign=true) (h2:zms rec.body=true)
  (hd:den P rec.assign (λe=>match e with
   | .normal=>λenv1 h1=>h1.M l=some (.obj (.loop rec))∧den P rec.body (yow l rec K) env1 (h1.set l (.obj (.loop { rec with state:=.busy })))
   | _=>λ_ _=>False) (yqk rec.tmps rec.params args) h):zvd P l args K h:=by
 intro w0 w r;have hl:=(r.ob l _ hM).2.2.2.1;refine ⟨_,_,_,_,run_yield hl hs,roundIn_of_wpIn (F:=Fence.wide) trivial ?_⟩;refine wpIn_mono (ygo (ro:=some l) (ds:=[]) _ _ _ h w h1 (λ_ hp=>hp.elim) r hd) ?_;rintro e a w1 ⟨env1,h',rfl,r1,hq⟩;cases e with
 | normal=>
  obtain ⟨hM1,hd2⟩:=hq;have hl1:=(r1.ob l _ hM1).2.2.2.1;have r2:=r1.putObj hM1 (o':=.loop { rec with state:=.busy }) trivial;refine ⟨_,run_beginRound hl1 hr,?_⟩;refine wpIn_mono (ygo (ro:=some l) (ds:=[]) _ _ _ _ _ h2 (λ_ hp=>hp.elim) r2 hd2) ?_;rintro e a w2 ⟨env2,h2,rfl,r3,hq⟩;cases e with
  | normal=>
   have hl2:=(r3.ob l _ hq.1).2.2.2.1;exact ⟨_,_,run_endRound none hl2,_,r3.putObj hq.1 trivial,hq.2⟩
  | ret=>
   have hl2:=(r3.ob l _ hq.1).2.2.2.1;exact ⟨_,_,run_endRound (some .ret) hl2,_,r3.putObj hq.1 trivial,hq.2⟩
  | exit id=>
   have hl2:=(r3.ob l _ hq.1).2.2.2.1;exact ⟨_,_,run_endRound (some (.exit id)) hl2,_,r3.putObj hq.1 trivial,hq.2⟩
  | goto l=>exact hq.elim
  | panic c=>exact hq.elim
  | outgrown=>exact hq.elim
 | exit id=>exact hq.elim
 | ret=>exact hq.elim
 | goto l=>exact hq.elim
 | panic c=>exact hq.elim
 | outgrown=>exact hq.elim
abbrev QM:=List Deferred -> QD
def QWM (w0:World) (Q:QM):Exit -> Act -> World -> Prop:=λe a w=>∃ ds env h,a=⟨env,ds⟩∧Rep w0 h w∧Q ds e env h
def DI (P:Program) (c:Code) (Q:QM) (ds:List Deferred) (env:Env) (h:Hp):Prop:=∀ w0 w,Rep w0 h w -> c.wpIn (FR none) 0 P (QWM w0 Q) ⟨env,ds⟩ w
def zbi (K:List Deferred -> Env -> Hp -> Prop) (Q:QM):QM:=λds e=>match e with
 | .normal=>K ds
 | e=>Q ds e
def ybz (id:Nat) (Q:QM):QM:=λds=>blk id (Q ds)
section
variable {P:Program} {Q:QM} {ds:List Deferred} {env:Env} {h:Hp}
theorem yoq (hm:P.follows .mixedOrders=true) {c:Code} (hc:zev c=true -> zg6 (Q ds)) (hz:∀ env,¬ Q ds (.panic []) env zcu) (hd:den P c (Q ds) env h):DI P c Q ds env h:=λw0 w r=>
 wpIn_mono (wpIn_wide.2 (zph hm c (Q ds) env h w hc (λenv hp=>(hz env hp).elim) r hd)) λe a w' ⟨env',h',ha,r',hq⟩=>⟨ds,env',h',ha,r',hq⟩
theorem yiq {id:Nat} {ops:Array Oper} (hz:∀ env,¬ Q ds (.panic []) env zcu) (hd:zj9 P ops (λg f c=>Q ({ target:=.fn (.func g) c,args:=f }::ds) .normal) (λenv c=>Q ds (.panic c) env) ops.toList env h):DI P (.region id ops false) Q ds env h:=λw0 w r=>by
 have := zyn (P:=P) (w0:=w0) (ds:=ds) (ops:=ops) (Qw:=QWM w0 Q) hz (λenv c w' h' r' he=>⟨ds,env,h',rfl,r',he⟩) (λg a1 a2 env w' h' r' hq=>⟨_,env,h',rfl,r',hq⟩) 0 env h w (Nat.zero_le _) r (by simpa using hd);rw [Nat.sub_zero,← List.range_eq_range'] at this;exact wpIn_wide.2 (wp_region this)
theorem yph {a b:Code} (hd:DI P a (zbi (DI P b Q) Q) ds env h):DI P (.seq a b) Q ds env h:=λw0 w r=>by
 refine wpIn_seq (wpIn_mono (hd w0 w r) ?_);rintro e a' w' ⟨ds',env',h',rfl,r',hq⟩;cases e with
 | normal=>exact hq w0 w' r'
 | exit id=>exact ⟨ds',env',h',rfl,r',hq⟩
 | goto l=>exact ⟨ds',env',h',rfl,r',hq⟩
 | ret=>exact ⟨ds',env',h',rfl,r',hq⟩
 | panic c=>exact ⟨ds',env',h',rfl,r',hq⟩
 | outgrown=>exact ⟨ds',env',h',rfl,r',hq⟩
theorem yiu {id:Nat} {c:Code} (hd:DI P c (ybz id Q) ds env h):DI P (.block id c) Q ds env h:=λw0 w r=>by
 refine wpIn_block (wpIn_mono (hd w0 w r) ?_);rintro e a' w' ⟨ds',env',h',rfl,r',hq⟩;cases e with
 | exit id'=>
  simp only [Exit.inBlock];simp only [ybz,blk] at hq
  split
  ·rename_i hid; rw [if_pos hid] at hq; exact ⟨ds',env',h',rfl,r',hq⟩
  ·rename_i hid; rw [if_neg hid] at hq; exact ⟨ds',env',h',rfl,r',hq⟩
 | normal=>exact ⟨ds',env',h',rfl,r',hq⟩
 | goto l=>exact ⟨ds',env',h',rfl,r',hq⟩
 | ret=>exact ⟨ds',env',h',rfl,r',hq⟩
 | panic c=>exact ⟨ds',env',h',rfl,r',hq⟩
 | outgrown=>exact ⟨ds',env',h',rfl,r',hq⟩
theorem ymx {id:Nat} {ops:Array Oper} (hz:∀ env,¬ Q ds (.panic []) env zcu) (hd:zk6 P ops (Q ds) ops.toList env h):DI P (.region id ops false) Q ds env h:=λw0 w r=>by
 have := zyk (P:=P) (w0:=w0) (ds:=ds) (ro:=none) (ops:=ops) (Q:=Q ds) (λenv hp=>(hz env hp).elim) 0 env h w (Nat.zero_le _) r (by simpa using hd);rw [Nat.sub_zero,← List.range_eq_range'] at this;exact wpIn_mono (wpIn_region this) λe a w' ⟨env',h',ha,r',hq⟩=>⟨ds,env',h',ha,r',hq⟩
theorem yn1 {c:Code} {σ:Type} (mk:σ -> (Nat -> Value) -> Env) (I:σ -> Hp -> Prop) (μ:σ -> Nat)
  (round:∀ (s:σ) (j:Nat -> Value) (h:Hp),I s h -> h.wf -> DI P c (zbi (λds' env' h'=>ds'=ds∧∃ s' j',env'=mk s' j'∧μ s'<μ s∧(h'.wf -> ∃ h'',h'.wk h''∧I s' h'')) Q) ds (mk s j) h)
  (s:σ) (j:Nat -> Value) (h0:h.wf -> ∃ h',h.wk h'∧I s h'):DI P (.loop c) Q ds (mk s j) h:=by
 intro w0 w r b k cs hro hb hr
 have key:∀ n (s:σ) (j:Nat -> Value) (h:Hp) (w:World),μ s<n -> Rep w0 h w -> (h.wf -> ∃ h',h.wk h'∧I s h') ->
   ∃ e a' w',QWM w0 Q e a' w'∧ArrivesIn (Machine.fenced P (FR none)) P (lone (b.atR ⟨mk s j,ds⟩ (.code c :: .inLoop c::k)) cs w) b k cs e a' w':=by
  intro n
  induction n with
  | zero=>intro s j h w hn; omega
  | succ n ih=>
   intro s j h w hn r h0;obtain ⟨h',hw,hI⟩:=h0 r.wf;obtain ⟨e,a₁,w₁,⟨ds',env',h1,rfl,r1,hq⟩,harr⟩:=round s j h' hI (r.wk hw).wf w0 w (r.wk hw) b (.inLoop c::k) cs hro hb hr;cases e with
   | normal=>
    obtain ⟨rfl,s',j',rfl,hlt,hI'⟩:=hq;obtain ⟨e₂,a₂,w₂,hq₂,harr₂⟩:=ih s' j' h1 w₁ (by omega) r1 hI';exact ⟨e₂,a₂,w₂,hq₂,.of_steps (StepsIn.trans harr (.one (fenced_calm hb hr rfl) stepR_inLoop)) harr₂⟩
   | exit id=>exact ⟨_,_,w₁,⟨ds',env',h1,rfl,r1,hq⟩,.pass (x:=.inLoop c) rfl (λ_ _=>.inl (by simp)) harr⟩
   | goto l=>exact ⟨_,_,w₁,⟨ds',env',h1,rfl,r1,hq⟩,.pass (x:=.inLoop c) rfl (λ_ _=>.inl (by simp)) harr⟩
   | ret=>exact ⟨_,_,w₁,⟨ds',env',h1,rfl,r1,hq⟩,.pass (x:=.inLoop c) rfl (λ_ _=>.inl (by simp)) harr⟩
   | panic ch=>exact ⟨_,_,w₁,⟨ds',env',h1,rfl,r1,hq⟩,.pass (x:=.inLoop c) rfl (λ_ _=>.inl (by simp)) harr⟩
   | outgrown=>exact ⟨_,_,w₁,⟨ds',env',h1,rfl,r1,hq⟩,.pass (x:=.inLoop c) rfl (λ_ _=>.inl (by simp)) harr⟩
 obtain ⟨e,a',w',hq,harr⟩:=key (μ s+1) s j h w (by omega) r h0;exact ⟨e,a',w',hq,.of_steps (.one (fenced_calm hb hr rfl) stepR_loop) harr⟩
theorem yln {g:Operand} {ps:Array Tmp} {assign body:Code} {gf:FuncId} {first lb:Array Value} (hds:ds=[]) (hg:ev env g=.func (.func gf) first lb) (hb:zui P gf=true)
  (hd:∀ fn D,h.nx≤D -> ∀ rec,rec={ state:=.ready,pending:=none,fn,tmps:=env,params:=ps,assign,body,defers:=D } ->
   call P gf (zcp (zcp first #[.func (.yield (D+1)) #[] #[]]) lb) (λv h'=>∃ rec',h'.M (D+1)=some (.obj (.loop rec'))∧rec'.state≠.busy∧rec'.pending=none ∧
    Q [{ target:=.collected D,args:=#[] }] .normal env (h'.set (D+1) (.obj (.loop { rec' with state:=.exhausted })))) (λ_ _=>False) ⟨h.F,upd (upd h.M D (some (.obj (.deferred (some []))))) (D+1) (some (.obj (.loop rec))),D+2⟩):DI P (.rangeFunc g ps assign body) Q ds env h:=by
 subst hds;intro w0 w r;refine wpIn_rangeFunc λfn _=>?_;have r1:=r.alloc (.deferred (some [])) (some (.obj (.deferred (some [])))) ⟨rfl,trivial⟩;have r2:=r1.alloc (.loop { state:=.ready,pending:=none,fn,tmps:=env,params:=ps,assign,body,defers:=w.heap.size }) (some (.obj (.loop { state:=.ready,pending:=none,fn,tmps:=env,params:=ps,assign,body,defers:=w.heap.size }))) ⟨rfl,trivial⟩;rw [World.size_alloc] at r2;have hev:(Act.mk env []).eval g=.func (.func gf) first lb:=hg;obtain ⟨W1,hW1⟩:∃ W1,W1=(w.alloc (.deferred (some []))).alloc (.loop { state:=.ready,pending:=none,fn,tmps:=env,params:=ps,assign,body,defers:=w.heap.size }):=⟨_,rfl⟩;rw [← hW1] at r2;refine ⟨w.heap.size+1,[{ target:=.collected w.heap.size,args:=#[] }],W1,{ target:=.fn (.func gf) lb,args:=first ++ #[.func (.yield (w.heap.size+1)) #[] #[]] },W1,gf,_,W1,by rw [hW1]; exact run_enterLoop_outer _ _ _ _ _,?_,λ_ _=>trivial,zxw hb _ _ _,λhd=>by simp [Fence.wide] at hd,?_⟩
 ·simp only [resolve,hev,Deferred.ofValue]
  simp [go_sem]
 ·have hc:=hd fn w.heap.size r.nx _ rfl w0 W1 (λhb=>hb.elim) r2;rw [zj4 first] at hc;refine ydy (hc.mono ?_)
  ·rintro e w3 ⟨h3,r3,hh⟩;cases e with
   | returned v=>
    obtain ⟨rec',hM,hbusy,hpend,hq⟩:=hh;have hl:=(r3.ob _ _ hM).2.2.2.1;refine ⟨none,_,by rw [← hpend]; exact run_endLoop hl hbusy,?_⟩;exact ⟨_,env,_,rfl,r3.putObj hM trivial,hq⟩
   | panicked c=>exact hh.elim
   | outgrown=>exact hh.elim
def zkk (P:Program) (rs:List ResultVar) (K:zae) (E:zb2) (env:Env):List Deferred -> FrameMode -> Hp -> Prop
 | [],u=>match u with
  | .returning=>zpz P rs env (λvs=>K (yaw vs))
  | .panicking c=>λh=>c≠[]∧E c h
  | .run=>λ_=>False
 | d::ds,u=>match d.target with
  | .collected D=>λh=>u≠.run∧h.M D=some (.obj (.deferred (some [])))∧zkk P rs K E env ds u (h.set D (.obj (.deferred none)))
  | .fn (.func g) cap=>λh=>u≠.run∧zui P g=true∧zqr P g (zcp d.args cap) u (λe u'=>match e with
   | .returned _=>zkk P rs K E env ds (settle u')
   | .panicked c=>zkk P rs K E env ds (raised u' c)
   | .outgrown=>λ_=>False) h
  | _=>λ_=>False
def zxg (P:Program) (rs:List ResultVar) (K:zae) (E:zb2):QM:=λds e=>match e with
 | .normal=>λenv h=>zkk P rs K E env ds .returning h
 | .ret=>λenv h=>zkk P rs K E env ds .returning h
 | .panic c=>λenv h=>c≠[]∧zkk P rs K E env ds (.panicking c) h
 | _=>λ_ _=>False
theorem zlg {fn:Func} {K:zae} {E:zb2} {w0:World} {env:Env}:∀ (ds:List Deferred) (u:FrameMode) (h:Hp) (w:World),Rep w0 h w -> zkk P fn.results.toList K E env ds u h -> LeavesInM Fence.wide 0 P fn env (yqh w0 K E) ds u w:=by
 intro ds
 induction ds with
 | nil=>
  intro u h w r hq;cases u with
  | run=>exact hq.elim
  | returning=>
   obtain ⟨v,hr,hk⟩:=zig (fn:=fn) (env:=env) (K:=K) r hq;exact ⟨v,hr,h,r,hk⟩
  | panicking c=>exact ⟨h,r,hq.2⟩
 | cons d ds ih=>
  intro u h w r hq;obtain ⟨t,args⟩:=d;unfold zkk at hq;cases t with
  | collected D=>
   obtain ⟨hu,hM,hq⟩:=hq;have hl:=(r.ob _ _ hM).2.2.2.1;exact ⟨hu,.inl ⟨D,_,rfl,run_takeDeferred hl,ih u _ _ (r.putObj hM trivial) hq⟩⟩
  | fn f cap=>
   cases f with
   | func g=>
    obtain ⟨hu,ht,hc⟩:=hq;refine ⟨hu,.inr ⟨λhd=>by simp [Fence.wide] at hd,.func g,cap,g,_,rfl,zxw ht _ _ _,λ_ _=>trivial,(hc w0 w r).mono λe u' w' ⟨h',r',he⟩=>?_⟩⟩;cases e with
    | returned v=>exact ih _ _ _ r' he
    | panicked c=>exact ih _ _ _ r' he
    | outgrown=>exact he.elim
   | _=>exact hq.elim
  | _=>exact hq.elim
theorem zuw {f:FuncId} {fn:Func} {c:Code} {args:Array Value} {K:zae} {E:zb2} (hf:P.funcs[f]?=some fn) (hb:fn.body=some c)
  (hd:DI P c (zxg P fn.results.toList K E) [] (zcp args (List.replicate (fn.ntmps - args.size) undef).toArray) h):call P f args K E h:=by
 intro w0 w hl r;rw [zj4,List.toArray_replicate] at hd;show Calls P f args w (yqh w0 K E);refine callsIn_wide.1 (callsIn_of_wp_marks (F:=Fence.wide) (n:=0) hf hb trivial (wpIn_mono (hd w0 w r) ?_));rintro e a w' ⟨ds,env,h',rfl,r',hq⟩;cases e with
 | normal=>exact zlg ds _ _ _ r' hq
 | ret=>exact zlg ds _ _ _ r' hq
 | panic c=>exact zlg ds _ _ _ r' hq.2
 | exit id=>exact hq.elim
 | goto l=>exact hq.elim
 | outgrown=>exact hq.elim
end
end Go.Proofs.YtlhlhpgjnjjhnaaGreatDoor.K
open Go Go.RowKit
set_option linter.unusedVariables false
set_option linter.unusedSimpArgs false
namespace Go.Proofs.YtlhlhpgjnjjhnaaGreatDoor.K
variable {P:Program} {Q:QM} {ds:List Deferred} {env:Env} {h:Hp} {c:Code}
def zgs:Code -> Array Oper
 | .region _ ops _=>ops
 | _=>#[]
theorem zd0 {a b:Code} (hc:c=.seq a b) (hd:DI P a (zbi (DI P b Q) Q) ds env h):DI P c Q ds env h:=hc ▸ yph hd
theorem zq4 {id:Nat} {a:Code} (hc:c=.block id a) (hd:DI P a (ybz id Q) ds env h):DI P c Q ds env h:=hc ▸ yiu hd
theorem zxq {id:Nat} (hc:c=.region id (zgs c) false) (hz:∀ env,¬ Q ds (.panic []) env zcu) {X:Hp -> Prop}
  (ht:zj9 P (zgs c) (λg f c=>Q ({ target:=.fn (.func g) c,args:=f }::ds) .normal) (λenv c=>Q ds (.panic c) env) (zgs c).toList env=X) (hd:X h):DI P c Q ds env h:=by
 rw [hc]; exact yiq hz (ht ▸ hd)
theorem ykx {id:Nat} (hc:c=.region id (zgs c) false) (hz:∀ env,¬ Q ds (.panic []) env zcu) {X:Hp -> Prop} (ht:zk6 P (zgs c) (Q ds) (zgs c).toList env=X) (hd:X h):DI P c Q ds env h:=by
 rw [hc]; exact ymx hz (ht ▸ hd)
theorem zcz (hm:P.follows .mixedOrders=true) (hz:∀ env,¬ Q ds (.panic []) env zcu) {X:Hp -> Prop} (ht:den P c (Q ds) env=X) (hd:X h) (hc:zev c=true -> zg6 (Q ds):=by (intro h; cases h)):DI P c Q ds env h :=
 yoq hm hc hz (ht ▸ hd)
theorem yrx (hd:h.wf -> DI P c Q ds env h):DI P c Q ds env h:=λw0 w r=>hd r.wf w0 w r
theorem zsm {f:FuncId} {fn:Func} {first args captured:Array Value} {K:zae} {E:zb2} (hf:P.funcs[f]?=some fn) (hb:(fn.name != "runtime.NumGoroutine" && fn.body.isSome)=true)
  (hd:h.wf -> DI P (zaf fn) (zxg P fn.results.toList (λv h=>h.wf -> ∃ h',h.wk h'∧(h'.wf -> K v h')) E) [] (zcp (zcp (zcp first args) captured) (List.replicate (fn.ntmps - (zcp (zcp first args) captured).size) undef).toArray) h):zbs P (.func (.func f) first captured) args K E h:=by
 refine yjg (.inl ⟨by rw [hf]; exact hb,?_⟩);simp only [Bool.and_eq_true] at hb;obtain ⟨c,hc⟩:=Option.isSome_iff_exists.1 hb.2;have hbo:zaf fn=c:=by unfold zaf; rw [hc]; rfl
 rw [hbo] at hd;exact zuw hf hc (yrx hd)
theorem zoh (hm:P.follows .mixedOrders=true) {f:FuncId} {fn:Func} {id:Nat} {rest:Code} {ops:Array Oper} {args:Array Value} {u:FrameMode} {R:Ending -> FrameMode -> Hp -> Prop} {d:Option Tmp} (hf:P.funcs[f]?=some fn) (hb:fn.body=some (.seq (.region id ops false) rest)) (hdr:zev rest=false)
  (ho:(ops[0]?).map (λo=>(zqa o,o.dst))=some (true,d)) {X:Hp -> Prop}
  (ht:zjf P ops (za6 (den P rest (zjm P fn.results.toList (λv=>R (.returned v) (zi4 u).2) (λc h=>c≠[]∧R (.panicked c) (zi4 u).2 h))) (λe env h=>zjm P fn.results.toList (λv=>R (.returned v) (zi4 u).2) (λc h=>c≠[]∧R (.panicked c) (zi4 u).2 h) e env h))
   (ops.toList.drop 1) (zeu (zcp args (List.replicate (fn.ntmps - args.size) undef).toArray) d (zi4 u).1)=X) (hd:X h):zqr P f args u R h:=by
 obtain ⟨o,h1,h2⟩:=Option.map_eq_some_iff.1 ho;simp only [Prod.mk.injEq] at h2;refine zyi hm hf hb hdr h1 h2.1 ?_;rw [h2.2];exact ht ▸ hd
theorem zd2 {rs:List ResultVar} {K:zae} {E:zb2} (env:Env):¬ zxg P rs K E ds (.panic []) env zcu:=λh=>h.1 rfl
theorem zc0 {K:List Deferred -> Env -> Hp -> Prop} (hz:∀ env,¬ Q ds (.panic []) env zcu) (env:Env):¬ zbi K Q ds (.panic []) env zcu:=hz env
theorem zej {id:Nat} (hz:∀ env,¬ Q ds (.panic []) env zcu) (env:Env):¬ ybz id Q ds (.panic []) env zcu:=hz env
end Go.Proofs.YtlhlhpgjnjjhnaaGreatDoor.K
open Go Go.RowKit Go.MapKept
set_option linter.unusedVariables false
set_option linter.unusedSimpArgs false
namespace Go.Proofs.YtlhlhpgjnjjhnaaGreatDoor.K
section
variable {F:Nat -> Option (List Value)} {M:Nat -> Option zak} {N:Nat} {K:zae} {P:Program}
theorem yrb {t k e:TypeId} {d:TypeDesc} {b:Nat} {es:Array MapEntry} {clock:Nat} {key z:Value} (ht:P.underlying t=some (.map k e)) (hk:P.underlying k=some d) (hz:∀ w:World,(zeroValue e).run P w=.ok z w) (hkey:IsKey d key) (hks:∀ x∈es.toList,IsKey d x.key)
  (hM:M b=some (.obj (.map es clock)))
  (miss:(∀ x∈es.toList,x.key≠key) -> K z ⟨F,M,N⟩)
  (hit:∀ (j:Nat) (x:MapEntry),es.toList[j]?=some x -> x.key=key -> K x.val ⟨F,M,N⟩):lkp P t (.map (some b)) key false K ⟨F,M,N⟩:=by
 rcases findNow_spec hkey es.toList 0 hks with ⟨h1,h2⟩ | ⟨j,e0,h1,h2,h3⟩
 ·refine ⟨b,es,clock,_,rfl,hM,λw hb=>?_,miss h2⟩
  simp [Instr.lookup,run_underlying ht,MapKept.run_getObj_map hb,run_checkKey hk hkey,run_findKey hk h1,hz,Result.andThen]
 ·refine ⟨b,es,clock,_,rfl,hM,λw hb=>?_,hit j e0 h2 h3⟩
  simp [Instr.lookup,run_underlying ht,MapKept.run_getObj_map hb,run_checkKey hk hkey,run_findKey hk h1,Result.andThen]
end
end Go.Proofs.YtlhlhpgjnjjhnaaGreatDoor.K
open Go Go.RowKit
set_option linter.unusedVariables false
set_option linter.unusedSimpArgs false
namespace Go.Proofs.YtlhlhpgjnjjhnaaGreatDoor.K
variable {P:Program} {Q:QM} {ds:List Deferred} {env:Env} {h:Hp} {c:Code}
def asg:Code -> Code
 | .rangeFunc _ _ a _=>a
 | c=>c
def bod:Code -> Code
 | .rangeFunc _ _ _ b=>b
 | c=>c
def rgP:Code -> Array Tmp
 | .rangeFunc _ ps _ _=>ps
 | _=>#[]
def rgG:Code -> Operand
 | .rangeFunc g _ _ _=>g
 | _=>.tmp 0
theorem ygf (hc:c=.rangeFunc (rgG c) (rgP c) (asg c) (bod c)) {gf:FuncId} {first lb:Array Value} (hds:ds=[]) (hg:ev env (rgG c)=.func (.func gf) first lb) (hb:zui P gf=true)
  (hd:∀ fn D,h.nx≤D -> ∀ rec,rec={ state:=.ready,pending:=none,fn,tmps:=env,params:=rgP c,assign:=asg c,body:=bod c,defers:=D } ->
   call P gf (zcp (zcp first #[.func (.yield (D+1)) #[] #[]]) lb) (λv h'=>∃ rec',h'.M (D+1)=some (.obj (.loop rec'))∧rec'.state≠.busy∧rec'.pending=none ∧
    Q [{ target:=.collected D,args:=#[] }] .normal env (h'.set (D+1) (.obj (.loop { rec' with state:=.exhausted })))) (λ_ _=>False) ⟨h.F,upd (upd h.M D (some (.obj (.deferred (some []))))) (D+1) (some (.obj (.loop rec))),D+2⟩):DI P c Q ds env h:=by
 rw [hc]; exact yln hds hg hb hd
theorem yj1 {b:Code} (hc:c=.loop b) {σ:Type} (mk:σ -> (Nat -> Value) -> Env) (I:σ -> Hp -> Prop) (μ:σ -> Nat)
  (s:σ) (j:Nat -> Value) (he:env=mk s j) (h0:h.wf -> ∃ h',h.wk h'∧I s h')
  (round:∀ (s:σ) (j:Nat -> Value) (h:Hp),I s h -> h.wf -> DI P b (zbi (λds' env' h'=>ds'=ds∧∃ s' j',env'=mk s' j'∧μ s'<μ s∧(h'.wf -> ∃ h'',h'.wk h''∧I s' h'')) Q) ds (mk s j) h):DI P c Q ds env h:=by
 rw [hc,he]; exact yn1 mk I μ round s j h0
theorem yac {rs:List ResultVar} {K:zae} {E:zb2}:zg6 (zxg P rs K E []):=λc env env' h hh=>hh
theorem yji {rs:List ResultVar} {K:zae} {E:zb2} {D:Nat}:zg6 (zxg P rs K E [{ target:=.collected D,args:=#[] }]):=λc env env' h hh=>hh
theorem zme {K:List Deferred -> Env -> Hp -> Prop} (hp:zg6 (Q ds)):zg6 (zbi K Q ds):=hp
theorem zoq {id:Nat} (hp:zg6 (Q ds)):zg6 (ybz id Q ds):=ydb hp id
end Go.Proofs.YtlhlhpgjnjjhnaaGreatDoor.K
open Go Go.RowKit Go.Proofs.YtlhlhpgjnjjhnaaGreatDoor.K
set_option linter.unusedVariables false
set_option maxRecDepth 100000
namespace Go.Proofs.YtlhlhpgjnjjhnaaGreatDoor.K
abbrev cF (n:Nat):=zbs Tryz.prog (.func (.func n) #[] #[])
abbrev cQ (f:Func) (K:zae) (E:zb2):QD:=zjm Tryz.prog f.results.toList K E
abbrev cD (f:Func) (p:List Nat):QD→Env→Hp→Prop:=den Tryz.prog (sel (zaf f) p)
end Go.Proofs.YtlhlhpgjnjjhnaaGreatDoor.K
namespace Go.Proofs.YtlhlhpgjnjjhnaaGreatDoor.T
section
variable (K:zae) (E:zb2) (k1 k2:Env -> Hp -> Prop) (x0 x1 x2 x3 x4 x5 x6 x7 x8 x9 x10 x11 x12 x13 x14 x15 x16 x17 x18 x19 x20 x21 x22 x23 x24 x25 x26 x27 x28 x29 x30 x31 x32 x33 x34 x35 x36 x37 x38 x39 x40 x41 x42 x43 x44 x45 x46 x47 x48 x49 x50 x51 x52 x53 x54 x55 x56 x57 x58 x59 x60 x61 x62 x63 x64 x65 x66 x67 x68 x69 x70 x71 x72 v0 v3 v4 v5 v6 v7 v8 v13 v16:Value) (j:Nat -> Value)
abbrev q10:=cQ Tryz.f10 K E
abbrev d10:=cD Tryz.f10
abbrev zyu:=za6 k2 (blk 2 (za6 (d10 [1,1,0,1,0,0,1,0,0,1,1,1] (blk 1 (za6 (d10 [1,1,0,1,0,0,1,1] (za6 k1 (blk 0 (za6 (d10 [1,1,1] (q10 K E)) (q10 K E))))) (za6 k1 (blk 0 (za6 (d10 [1,1,1] (q10 K E)) (q10 K E))))))) (blk 1 (za6 (d10 [1,1,0,1,0,0,1,1] (za6 k1 (blk 0 (za6 (d10 [1,1,1] (q10 K E)) (q10 K E))))) (za6 k1 (blk 0 (za6 (d10 [1,1,1] (q10 K E)) (q10 K E))))))))
abbrev zyz:=za6 k1 (blk 0 (za6 (d10 [1,1,1] (q10 K E)) (q10 K E)))
def zeq (j:Nat -> Value):Env:=#[x0,x1,x2,v3,v4,(j 5),(j 6),(j 7),(j 8),(j 9),(j 10),(j 11),(j 12),(j 13),(j 14),(j 15),(j 16),(j 17),(j 18),(j 19),(j 20),(j 21),(j 22),(j 23),(j 24),(j 25),(j 26),(j 27),(j 28),(j 29),(j 30),(j 31),(j 32),(j 33),(j 34),(j 35),(j 36),(j 37),(j 38),(j 39),(j 40),(j 41),(j 42),(j 43),(j 44),(j 45),(j 46),(j 47),(j 48),(j 49),(j 50),(j 51),(j 52),(j 53),(j 54),(j 55),(j 56),(j 57),(j 58),(j 59),(j 60),(j 61),(j 62),(j 63),x64,x65,x66,x67,x68,x69,x70,x71,x72]
def zbr (j:Nat -> Value):Env:=#[x0,x1,x2,x3,x4,x5,v6,v7,x8,x9,x10,x11,x12,x13,x14,x15,x16,x17,x18,x19,x20,x21,x22,x23,x24,x25,x26,(j 27),(j 28),(j 29),(j 30),(j 31),(j 32),(j 33),(j 34),(j 35),(j 36),(j 37),(j 38),(j 39),(j 40),(j 41),(j 42),(j 43),(j 44),(j 45),(j 46),(j 47),(j 48),(j 49),(j 50),(j 51),(j 52),(j 53),(j 54),(j 55),(j 56),(j 57),(j 58),(j 59),x60,x61,x62,x63,x64,x65,x66,x67,x68,x69,x70,x71,x72]
theorem t10:d10 [] (q10 K E) #[x0,U,U,U,U,U,U,U,U,U,U,U,U,U,U,U,U,U,U,U,U,U,U,U,U,U,U,U,U,U,U,U,U,U,U,U,U,U,U,U,U,U,U,U,U,U,U,U,U,U,U,U,U,U,U,U,U,U,U,U,U,U,U,U,U,U,U,U,U,U,U,U,U] =
 lp (λk1=>d10 [1,1,0,1,0,0] (zyz K E k1)) (zeq x0 U (.slice none 0 0) U U U U U U U U U (.slice none 0 0) (.int .i64 0) (jf #[])):=by kernel_rfl
theorem zvg:d10 [1,1,0,1,0,0] (zyz K E k1) (zeq x0 x1 x2 x64 x65 x66 x67 x68 x69 x70 x71 x72 v3 v4 j) =
 pv (zab x0) λt1=>
 pv (za2 .none .lss v4 t1) λt2=>
 gdK t2 true (λk=>k v4) λt3=>
 gdK t2 true (λk=>pv (za2 .none .lss t3 (.int .i64 4)) k) λt4=>
 pv (zad t2 t4 (.bool false)) λt5=>
 cnd t5 (
  pv (iaV none 2 x0 v4) λt6=>
  pv (faV 0 t6) λt7=>
  ld false 1 t7 λt8=>
  pv (za2 .none .rem t8 (.int .u16 200)) λt9=>
  pv (cvV .i64 t9) λt10=>
  pv (za2 .none .add (.int .i64 1) t10) λt11=>
  pv (bdC #[(.int .i64 0),(.slice none 0 0)] [(0,1),(1,1)] #[(0,t11)]) λt12=>
  nw 108 [(.int .i64 0),(.slice none 0 0)] λt13=>
  st 2 t13 t12 λ_=>
  lp (λk2=>d10 [1,1,0,1,0,0,1,0,0,1,1,0,1,0,0] (zyu K E k1 k2)) (zbr x0 x1 x2 v3 v4 t13 v4 x0 t1 t2 t2 t3 t4 t5 (j 16) (j 17) x0 v4 t6 t7 t8 t9 t10 t11 t12 (j 60) (j 61) (j 62) (j 63) x64 x65 x66 x67 x68 x69 x70 x71 x72 (.int .i64 1) (.int .i64 0) (jf #[U,U,U,U,U,U,U,U,U,U,U,U,U,U,U,U,U,U,U,U,U,U,U,U,U,U,U,(j 27),(j 28),(j 29),(j 30),(j 31),(j 32),(j 33),(j 34),(j 35),(j 36),(j 37),(j 38),(j 39),(j 40),(j 41),(j 42),(j 43),(j 44),(j 45),(j 46),(j 47),(j 48),(j 49),(j 50),(j 51),(j 52),(j 53),(j 54),(j 55),(j 56),(j 57),(j 58),(j 59)]))) (
  pv (zab v3) λt14=>
  pv (za2 .none .eql t14 (.int .i64 0)) λt15=>
  cnd t15 (
  nws 3 1 (bsC #[(.int .i64 0)] 1 1 #[(0,(.int .i64 10))]) λt16=>
  pv (bdC #[(.int .i64 0),(.slice none 0 0)] [(0,1),(1,1)] #[(0,(.int .i64 100)),(1,t16)]) λt17=>
  nws 108 1 (bsC #[(.int .i64 0),(.slice none 0 0)] 2 1 #[(0,t17)]) λt18=>
  zdl 108 2 32 v3 t18 λt19=>
  d10 [1,1,1,1] (q10 K E) #[x0,x1,x2,t19,v4,(j 5),(j 6),(j 7),v4,x0,t1,t2,t2,t3,t4,t5,(j 16),(j 17),(j 18),(j 19),(j 20),(j 21),(j 22),(j 23),(j 24),(j 25),(j 26),(j 27),(j 28),(j 29),(j 30),(j 31),(j 32),(j 33),(j 34),(j 35),(j 36),(j 37),(j 38),(j 39),(j 40),(j 41),(j 42),(j 43),(j 44),(j 45),(j 46),(j 47),(j 48),(j 49),(j 50),(j 51),(j 52),(j 53),(j 54),(j 55),(j 56),(j 57),(j 58),(j 59),(j 60),(j 61),(j 62),(j 63),v3,t14,t15,v3,t16,t17,t18,t19,x72]) (
  d10 [1,1,1,1] (q10 K E) #[x0,x1,x2,v3,v4,(j 5),(j 6),(j 7),v4,x0,t1,t2,t2,t3,t4,t5,(j 16),(j 17),(j 18),(j 19),(j 20),(j 21),(j 22),(j 23),(j 24),(j 25),(j 26),(j 27),(j 28),(j 29),(j 30),(j 31),(j 32),(j 33),(j 34),(j 35),(j 36),(j 37),(j 38),(j 39),(j 40),(j 41),(j 42),(j 43),(j 44),(j 45),(j 46),(j 47),(j 48),(j 49),(j 50),(j 51),(j 52),(j 53),(j 54),(j 55),(j 56),(j 57),(j 58),(j 59),(j 60),(j 61),(j 62),(j 63),v3,t14,t15,x67,x68,x69,x70,x71,x72])):=by kernel_rfl
theorem zif:d10 [1,1,0,1,0,0,1,0,0,1,1,0,1,0,0] (zyu K E k1 k2) (zbr x0 x1 x2 x3 x4 x5 x8 x9 x10 x11 x12 x13 x14 x15 x16 x17 x18 x19 x20 x21 x22 x23 x24 x25 x26 x60 x61 x62 x63 x64 x65 x66 x67 x68 x69 x70 x71 x72 v6 v7 j) =
 pv (iaV none 2 x0 x4) λt1=>
 pv (faV 1 t1) λt2=>
 ld false 1 t2 λt3=>
 pv (zab t3) λt4=>
 pv (za2 .none .lss v7 t4) λt5=>
 gdK t5 true (λk=>k v7) λt6=>
 gdK t5 true (λk=>pv (za2 .none .lss t6 (.int .i64 4)) k) λt7=>
 pv (zad t5 t7 (.bool false)) λt8=>
 cnd t8 (
  pv (iaV none 2 x0 x4) λt9=>
  pv (faV 1 t9) λt10=>
  ld false 1 t10 λt11=>
  pv (iaV none 1 t11 v7) λt12=>
  ld false 1 t12 λt13=>
  pv (za2 .none .rem t13 (.int .u8 4)) λt14=>
  pv (cvV .i64 t14) λt15=>
  pv (za2 .none .add (.int .i64 2) t15) λt16=>
  pv (za2 .none .mul v6 t16) λt17=>
  pv (faV 1 x5) λt18=>
  ld false 1 t18 λt19=>
  nws 3 1 (bsC #[(.int .i64 0)] 1 1 #[(0,t17)]) λt20=>
  zdl 3 1 8 t19 t20 λt21=>
  pv (faV 1 x5) λt22=>
  st 1 t22 t21 λ_=>
  pv (za2 .none .add v7 (.int .i64 1)) λt23=>
  k2 (zbr x0 x1 x2 x3 x4 x5 x8 x9 x10 x11 x12 x13 x14 x15 x16 x17 x18 x19 x20 x21 x22 x23 x24 x25 x26 x60 x61 x62 x63 x64 x65 x66 x67 x68 x69 x70 x71 x72 t17 t23 (jf #[U,U,U,U,U,U,U,U,U,U,U,U,U,U,U,U,U,U,U,U,U,U,U,U,U,U,U,v7,x0,x4,t1,t2,t3,t4,t5,t5,t6,t7,t8,v7,t23,v6,x0,x4,t9,t10,t11,v7,t12,t13,t14,t15,t16,t17,t18,t19,t17,t20,t21,t22]))) (
  ld true 2 x5 λt24=>
  nws 108 1 (bsC #[(.int .i64 0),(.slice none 0 0)] 2 1 #[(0,t24)]) λt25=>
  zdl 108 2 32 x3 t25 λt26=>
  pv (za2 .none .add x4 (.int .i64 1)) λt27=>
  k1 (zeq x0 x1 x2 x64 x65 x66 x67 x68 x69 x70 x71 x72 t26 t27 (jf #[U,U,U,U,U,x5,v6,v7,x8,x9,x10,x11,x12,x13,x14,x15,x4,t27,x18,x19,x20,x21,x22,x23,x24,x25,x26,v7,x0,x4,t1,t2,t3,t4,t5,t5,t6,t7,t8,(j 39),(j 40),(j 41),(j 42),(j 43),(j 44),(j 45),(j 46),(j 47),(j 48),(j 49),(j 50),(j 51),(j 52),(j 53),(j 54),(j 55),(j 56),(j 57),(j 58),(j 59),x3,t24,t25,t26]))):=by kernel_rfl
theorem zrn:d10 [1,1,1,1] (q10 K E) #[x0,x1,x2,x3,x4,x5,x6,x7,x8,x9,x10,x11,x12,x13,x14,x15,x16,x17,x18,x19,x20,x21,x22,x23,x24,x25,x26,x27,x28,x29,x30,x31,x32,x33,x34,x35,x36,x37,x38,x39,x40,x41,x42,x43,x44,x45,x46,x47,x48,x49,x50,x51,x52,x53,x54,x55,x56,x57,x58,x59,x60,x61,x62,x63,x64,x65,x66,x67,x68,x69,x70,x71,x72] =
 K x3:=by kernel_rfl
abbrev q15:=cQ Tryz.f15 K E
abbrev d15:=cD Tryz.f15
abbrev zk9:=za6 k1 (blk 0 (za6 (d15 [1,1,1] (q15 K E)) (q15 K E)))
def zeo (j:Nat -> Value):Env:=#[x0,x1,x2,x3,x4,x5,x6,v7,v8,(j 9),(j 10),(j 11),(j 12),(j 13),(j 14),(j 15),(j 16),(j 17),(j 18),(j 19),(j 20),(j 21),(j 22),(j 23),(j 24),(j 25),(j 26),(j 27),(j 28),(j 29),(j 30),(j 31),(j 32),(j 33),(j 34),(j 35),(j 36),(j 37),(j 38),(j 39),(j 40),(j 41),x42]
theorem t15:d15 [] (q15 K E) #[x0,x1,x2,U,U,U,U,U,U,U,U,U,U,U,U,U,U,U,U,U,U,U,U,U,U,U,U,U,U,U,U,U,U,U,U,U,U,U,U,U,U,U,U] =
 lp (λk1=>d15 [1,1,0,1,0,0] (zk9 K E k1)) (zeo x0 x1 x2 U U U (.slice none 0 0) U (.slice none 0 0) (.int .i64 0) (jf #[])):=by kernel_rfl
theorem zuz:d15 [1,1,0,1,0,0] (zk9 K E k1) (zeo x0 x1 x2 x3 x4 x5 x6 x42 v7 v8 j) =
 pv (zab x1) λt1=>
 pv (za2 .none .lss v8 t1) λt2=>
 gdK t2 true (λk=>k v8) λt3=>
 gdK t2 true (λk=>pv (za2 .none .lss t3 (.int .i64 200)) k) λt4=>
 pv (zad t2 t4 (.bool false)) λt5=>
 cnd t5 (
  pv (iaV none 1 x1 v8) λt6=>
  ld false 1 t6 λt7=>
  cF 41 #[x0,t7] (λt8=>
  pv (bdC #[(.slice none 0 0),(.int .i64 0)] [(0,1),(1,1)] #[(0,t8)]) λt9=>
  nw 110 [(.slice none 0 0),(.int .i64 0)] λt10=>
  st 2 t10 t9 λ_=>
  pv (zab x2) λt11=>
  pv (za2 .none .gtr t11 (.int .i64 0)) λt12=>
  cnd t12 (
  pv (zab x2) λt13=>
  pv (za2 .none .rem v8 t13) λt14=>
  pv (iaV none 1 x2 t14) λt15=>
  ld false 1 t15 λt16=>
  pv (faV 1 t10) λt17=>
  st 1 t17 t16 λ_=>
  d15 [1,1,0,1,0,0,1,0,0,1,1] (blk 1 (za6 (d15 [1,1,0,1,0,0,1,1] (zk9 K E k1)) (zk9 K E k1))) #[x0,x1,x2,x3,x4,x5,x6,v7,v8,t10,v8,x1,t1,t2,t2,t3,t4,t5,(j 18),(j 19),x0,x1,v8,t6,t7,t8,t9,x2,t11,t12,x2,v8,x2,t13,t14,t15,t16,t17,(j 38),(j 39),(j 40),(j 41),x42]) (
  d15 [1,1,0,1,0,0,1,0,0,1,1] (blk 1 (za6 (d15 [1,1,0,1,0,0,1,1] (zk9 K E k1)) (zk9 K E k1))) #[x0,x1,x2,x3,x4,x5,x6,v7,v8,t10,v8,x1,t1,t2,t2,t3,t4,t5,(j 18),(j 19),x0,x1,v8,t6,t7,t8,t9,x2,t11,t12,(j 30),(j 31),(j 32),(j 33),(j 34),(j 35),(j 36),(j 37),(j 38),(j 39),(j 40),(j 41),x42])) E) (
  K v7):=by kernel_rfl
theorem zl0:d15 [1,1,0,1,0,0,1,0,0,1,1] (blk 1 (za6 (d15 [1,1,0,1,0,0,1,1] (zk9 K E k1)) (zk9 K E k1))) #[x0,x1,x2,x3,x4,x5,x6,x7,x8,x9,x10,x11,x12,x13,x14,x15,x16,x17,x18,x19,x20,x21,x22,x23,x24,x25,x26,x27,x28,x29,x30,x31,x32,x33,x34,x35,x36,x37,x38,x39,x40,x41,x42] =
 ld true 2 x9 λt1=>
 nws 110 1 (bsC #[(.slice none 0 0),(.int .i64 0)] 2 1 #[(0,t1)]) λt2=>
 zdl 110 2 32 x7 t2 λt3=>
 pv (za2 .none .add x8 (.int .i64 1)) λt4=>
 k1 (zeo x0 x1 x2 x3 x4 x5 x6 x42 t3 t4 (jf #[U,U,U,U,U,U,U,U,U,x9,x10,x11,x12,x13,x14,x15,x16,x17,x8,t4,x20,x21,x22,x23,x24,x25,x26,x27,x28,x29,x30,x31,x32,x33,x34,x35,x36,x37,x7,t1,t2,t3])):=by kernel_rfl
abbrev q19:=cQ Tryz.f19 K E
abbrev d19:=cD Tryz.f19
abbrev znm:=za6 k1 (blk 0 (za6 (d19 [1,1,1] (q19 K E)) (q19 K E)))
def zer (j:Nat -> Value):Env:=#[x0,x1,x2,x3,x4,x5,x6,v7,x8,(j 9),(j 10),x11,x12,x13,x14,x15,v16,(j 17),(j 18),(j 19),(j 20),(j 21),(j 22),(j 23),(j 24),(j 25),(j 26),(j 27),(j 28),(j 29),(j 30),(j 31),(j 32),(j 33),(j 34),(j 35),(j 36),x37]
theorem t19:d19 [] (q19 K E) #[x0,x1,x2,U,U,U,U,U,U,U,U,U,U,U,U,U,U,U,U,U,U,U,U,U,U,U,U,U,U,U,U,U,U,U,U,U,U,U] =
 pv (zai x0) λt1=>
 pv (faV 0 t1) λt2=>
 ld false 1 t2 λt3=>
 pv (zab t3) λt4=>
 lp (λk1=>d19 [1,1,0,1,0,0] (znm K E k1)) (zer x0 x1 x2 U U U (.slice none 0 0) U x0 t1 t2 t3 t4 U (.slice none 0 0) (.int .i64 0) (jf #[])):=by kernel_rfl
theorem zun:d19 [1,1,0,1,0,0] (znm K E k1) (zer x0 x1 x2 x3 x4 x5 x6 x8 x11 x12 x13 x14 x15 x37 v7 v16 j) =
 pv (za2 .none .lss v16 x15) λt1=>
 cnd t1 (
  pv (iaV none 2 x14 v16) λt2=>
  ld true 2 t2 λt3=>
  nw 143 [(.int .u32 0),(.slice none 0 0)] λt4=>
  st 2 t4 t3 λ_=>
  pv (faV 1 t4) λt5=>
  ld false 1 t5 λt6=>
  cF 52 #[x1,x2] (λt7 h8=>(ldV h8 false 1 t5 t6)∧(
  cF 51 #[t6,t7,(.bool true)] (λt9=>
  pv (zab t9) λt10=>
  pv (za2 .none .gtr t10 (.int .i64 0)) λt11=>
  cnd t11 (
   pv (faV 0 t4) λt12=>
   ld false 1 t12 λt13=>
   pv (bdC #[(.int .u32 0),(.slice none 0 0)] [(0,1),(1,1)] #[(0,t13),(1,t9)]) λt14=>
   nws 143 1 (bsC #[(.int .u32 0),(.slice none 0 0)] 2 1 #[(0,t14)]) λt15=>
   zdl 143 2 32 v7 t15 λt16=>
   d19 [1,1,0,1,0,0,1,1,1] (znm K E k1) #[x0,x1,x2,x3,x4,x5,x6,t16,x8,t4,t9,x11,x12,x13,x14,x15,v16,t1,t2,t3,t5,t6,x1,x2,t7,t9,t9,t10,t11,v7,t12,t13,t9,t14,t15,t16,(j 36),x37]) (
   d19 [1,1,0,1,0,0,1,1,1] (znm K E k1) #[x0,x1,x2,x3,x4,x5,x6,v7,x8,t4,t9,x11,x12,x13,x14,x15,v16,t1,t2,t3,t5,t6,x1,x2,t7,t9,t9,t10,t11,(j 29),(j 30),(j 31),(j 32),(j 33),(j 34),(j 35),(j 36),x37])) E) h8) E) (
  K v7):=by kernel_rfl
theorem zj8:d19 [1,1,0,1,0,0,1,1,1] (znm K E k1) #[x0,x1,x2,x3,x4,x5,x6,x7,x8,x9,x10,x11,x12,x13,x14,x15,x16,x17,x18,x19,x20,x21,x22,x23,x24,x25,x26,x27,x28,x29,x30,x31,x32,x33,x34,x35,x36,x37] =
 pv (za2 .none .add x16 (.int .i64 1)) λt1=>
 k1 (zer x0 x1 x2 x3 x4 x5 x6 x8 x11 x12 x13 x14 x15 x37 x7 t1 (jf #[U,U,U,U,U,U,U,U,U,x9,x10,U,U,U,U,U,U,x17,x18,x19,x20,x21,x22,x23,x24,x25,x26,x27,x28,x29,x30,x31,x32,x33,x34,x35,t1])):=by kernel_rfl
abbrev q20:=cQ Tryz.f20 K E
abbrev d20:=cD Tryz.f20
theorem t20:d20 [] (q20 K E) #[x0,x1,U,U,U,U,U,U,U,U,U,U] =
 cF 53 #[(.slice none 0 0),x0] (λt1=>
 bs t1 λt2=>
 cF 53 #[(.slice none 0 0),x1] (λt3 h4=>(bsV h4 t1 t2)∧(
  bs t3 λt5=>
  pv (za2 .none .eql t2 t5) λt6=>
  K t6) h4) E) E:=by kernel_rfl
abbrev q31:=cQ Tryz.f31 K E
abbrev d31:=cD Tryz.f31
theorem t31:d31 [] (q31 K E) #[x0,x1,x2,x3,U,U,U,U,U,U,U,U,U,U,U,U,U,U,U,U,U,U,U,U] =
 nw 93 [(.slice none 0 0),(.slice none 0 0),(.slice none 0 0)] λt1=>
 cF 71 #[x0,x2,x3] (λt2=>
 pv (exV 0 t2) λt3=>
 pv (exV 1 t2) λt4=>
 cF 72 #[x0,x1,(.slice none 0 0)] (λt5=>
 pv (bdC #[(.slice none 0 0),(.slice none 0 0),(.slice none 0 0)] [(0,1),(1,1),(2,1)] #[(0,t5),(1,t3),(2,t4)]) λt6=>
 st 3 t1 t6 λ_=>
 ld true 3 t1 λt7=>
 K t7) E) E:=by kernel_rfl
abbrev q41:=cQ Tryz.f41 K E
abbrev d41:=cD Tryz.f41
abbrev zkd:=za6 k1 (blk 0 (za6 (d41 [1,1,1] (q41 K E)) (q41 K E)))
def zem (j:Nat -> Value):Env:=#[x0,x1,x2,x3,x4,v5,v6,(j 7),(j 8),(j 9),(j 10),(j 11),(j 12),(j 13),(j 14),(j 15),(j 16),(j 17),(j 18),(j 19),(j 20),(j 21),(j 22),(j 23),(j 24),(j 25),(j 26),(j 27),(j 28),(j 29),(j 30),(j 31),(j 32),x33]
theorem t41:d41 [] (q41 K E) #[x0,x1,U,U,U,U,U,U,U,U,U,U,U,U,U,U,U,U,U,U,U,U,U,U,U,U,U,U,U,U,U,U,U,U] =
 lp (λk1=>d41 [1,1,0,1,0,0] (zkd K E k1)) (zem x0 x1 U U (.slice none 0 0) U (.slice none 0 0) (.int .i64 0) (jf #[])):=by kernel_rfl
theorem zvm:d41 [1,1,0,1,0,0] (zkd K E k1) (zem x0 x1 x2 x3 x4 x33 v5 v6 j) =
 pv (zab x0) λt1=>
 pv (za2 .none .lss v6 t1) λt2=>
 cnd t2 (
  pv (zab x1) λt3=>
  pv (za2 .none .lss v6 t3) λt4=>
  cnd t4 (
  pv (iaV none 1 x1 v6) λt5=>
  ld false 1 t5 λt6=>
  pv (cvV .i64 t6) λt7=>
  d41 [1,1,0,1,0,0,1,0,0,1,1] (blk 1 (za6 (d41 [1,1,0,1,0,0,1,1] (zkd K E k1)) (zkd K E k1))) #[x0,x1,x2,x3,x4,v5,v6,t7,v6,x0,t1,t2,(j 12),(j 13),v6,x1,t3,t4,x1,v6,t5,t6,t7,(j 23),(j 24),(j 25),(j 26),(j 27),(j 28),(j 29),(j 30),(j 31),(j 32),x33]) (
  d41 [1,1,0,1,0,0,1,0,0,1,1] (blk 1 (za6 (d41 [1,1,0,1,0,0,1,1] (zkd K E k1)) (zkd K E k1))) #[x0,x1,x2,x3,x4,v5,v6,(.int .i64 0),v6,x0,t1,t2,(j 12),(j 13),v6,x1,t3,t4,(j 18),(j 19),(j 20),(j 21),(j 22),(j 23),(j 24),(j 25),(j 26),(j 27),(j 28),(j 29),(j 30),(j 31),(j 32),x33])) (
  K v5):=by kernel_rfl
theorem zl2:d41 [1,1,0,1,0,0,1,0,0,1,1] (blk 1 (za6 (d41 [1,1,0,1,0,0,1,1] (zkd K E k1)) (zkd K E k1))) #[x0,x1,x2,x3,x4,x5,x6,x7,x8,x9,x10,x11,x12,x13,x14,x15,x16,x17,x18,x19,x20,x21,x22,x23,x24,x25,x26,x27,x28,x29,x30,x31,x32,x33] =
 pv (iaV none 2 x0 x6) λt1=>
 pv (faV 0 t1) λt2=>
 ld false 1 t2 λt3=>
 pv (za2 .none .rem x7 t3) λt4=>
 nws 3 1 (bsC #[(.int .i64 0)] 1 1 #[(0,t4)]) λt5=>
 zdl 3 1 8 x5 t5 λt6=>
 pv (za2 .none .add x6 (.int .i64 1)) λt7=>
 k1 (zem x0 x1 x2 x3 x4 x33 t6 t7 (jf #[U,U,U,U,U,U,U,x7,x8,x9,x10,x11,x6,t7,x14,x15,x16,x17,x18,x19,x20,x21,x22,x5,x7,x0,x6,t1,t2,t3,t4,t5,t6])):=by kernel_rfl
abbrev q51:=cQ Tryz.f51 K E
abbrev d51:=cD Tryz.f51
theorem t51:d51 [] (q51 K E) #[x0,x1,x2,U,U,U,U,U,U,U,U] =
 nw 145 (Value.cells x1).toList λt1=>
 nw 4 (Value.cells x2).toList λt2=>
 cF 103 #[x0] (λt3=>
 cF 102 #[t3,(.func (.func 104) #[] #[t1,t2])] (λt4=>
 K t4) E) E:=by kernel_rfl
abbrev q52:=cQ Tryz.f52 K E
abbrev d52:=cD Tryz.f52
theorem t52:d52 [] (q52 K E) #[x0,x1,U,U,U,U] =
 nw 3 (Value.cells x0).toList λt1=>
 nw 3 (Value.cells x1).toList λt2=>
 K (.func (.func 105) #[] #[t1,t2]):=by kernel_rfl
abbrev q53:=cQ Tryz.f53 K E
abbrev d53:=cD Tryz.f53
abbrev zyy:=za6 k1 (blk 0 (za6 (d53 [1,1,1] (q53 K E)) (q53 K E)))
def zes (j:Nat -> Value):Env:=#[v0,x1,x2,x3,x4,v5,x6,x7,x8,x9,x10,(j 11),(j 12),(j 13),(j 14),(j 15),(j 16),(j 17),(j 18),(j 19),(j 20),(j 21),(j 22),(j 23),(j 24),(j 25),(j 26),(j 27),(j 28),(j 29),(j 30),(j 31),x32]
theorem t53:d53 [] (q53 K E) #[x0,x1,U,U,U,U,U,U,U,U,U,U,U,U,U,U,U,U,U,U,U,U,U,U,U,U,U,U,U,U,U,U,U] =
 pv (zab x1) λt1=>
 pv (cvV .u64 t1) λt2=>
 cF 106 #[x0,t2,(.int .i64 4)] (λt3=>
 lp (λk1=>d53 [1,1,0,1,0,0] (zyy K E k1)) (zes x1 U U (.slice none 0 0) x0 x1 t1 t2 t3 U t3 (.int .i64 0) (jf #[]))) E:=by kernel_rfl
theorem zu2:d53 [1,1,0,1,0,0] (zyy K E k1) (zes x1 x2 x3 x4 x6 x7 x8 x9 x10 x32 v0 v5 j) =
 pv (zab x1) λt1=>
 pv (za2 .none .lss v5 t1) λt2=>
 cnd t2 (
  pv (iaV none 2 x1 v5) λt3=>
  pv (faV 0 t3) λt4=>
  ld false 1 t4 λt5=>
  pv (cvV .u64 t5) λt6=>
  cF 106 #[v0,t6,(.int .i64 4)] (λt7=>
  pv (iaV none 2 x1 v5) λt8=>
  pv (faV 1 t8) λt9=>
  ld false 1 t9 λt10=>
  cF 107 #[t7,t10] (λt11=>
  pv (za2 .none .add v5 (.int .i64 1)) λt12=>
  k1 (zes x1 x2 x3 x4 x6 x7 x8 x9 x10 x32 t11 t12 (jf #[U,U,U,U,U,U,U,U,U,U,U,v5,x1,t1,t2,v5,t12,v0,x1,v5,t3,t4,t5,t6,t7,t7,x1,v5,t8,t9,t10,t11]))) E) E) (
  K v0):=by kernel_rfl
abbrev q87:=cQ Tryz.f87 K E
abbrev d87:=cD Tryz.f87
abbrev zz3:=za6 k1 (blk 0 (za6 (d87 [1,1,1,1] (q87 K E)) (q87 K E)))
def zdn (j:Nat -> Value):Env:=#[x0,x1,x2,x3,x4,(j 5),x6,x7,x8,x9,x10,x11,x12,v13,(j 14),(j 15),(j 16),(j 17),(j 18),(j 19),(j 20),(j 21),(j 22),(j 23),(j 24),(j 25),(j 26),(j 27),(j 28),(j 29),(j 30),(j 31),(j 32),x33]
theorem t87:d87 [] (q87 K E) #[x0,U,U,U,U,U,U,U,U,U,U,U,U,U,U,U,U,U,U,U,U,U,U,U,U,U,U,U,U,U,U,U,U,U] =
 cF 129 #[x0] (λt1=>
 pv (unV .not t1) λt2=>
 cnd t2 (
  K (.pointer none)) (
  pv (bdC #[(.slice none 0 0),(.slice none 0 0)] [(0,1),(1,1)] #[]) λt3=>
  nw 141 (Value.cells t3).toList λt4=>
  pv (zab x0) λt5=>
  lp (λk1=>d87 [1,1,1,0,1,0,0] (zz3 K E k1)) (zdn x0 U (.pointer none) t4 U x0 t1 t2 t3 t4 x0 t5 U (.int .i64 0) (jf #[])))) E:=by kernel_rfl
theorem zrg:d87 [1,1,1,0,1,0,0] (zz3 K E k1) (zdn x0 x1 x2 x3 x4 x6 x7 x8 x9 x10 x11 x12 x33 v13 j) =
 pv (za2 .none .lss v13 x12) λt1=>
 cnd t1 (
  pv (iaV none 2 x11 v13) λt2=>
  ld true 2 t2 λt3=>
  nw 108 [(.int .i64 0),(.slice none 0 0)] λt4=>
  st 2 t4 t3 λ_=>
  pv (zai x3) λt5=>
  pv (faV 1 t5) λt6=>
  ld false 1 t6 λt7=>
  pv (faV 0 t4) λt8=>
  ld false 1 t8 λt9=>
  pv (faV 1 t4) λt10=>
  ld false 1 t10 λt11=>
  cF 122 #[t11] (λt12 h13=>(ldV h13 false 1 t8 t9)∧(ldV h13 false 1 t6 t7)∧(
  pv (bdC #[(.int .i64 0),(.slice none 0 0)] [(0,1),(1,1)] #[(0,t9),(1,t12)]) λt14=>
  nws 108 1 (bsC #[(.int .i64 0),(.slice none 0 0)] 2 1 #[(0,t14)]) (λt15 h16=>(ldV h16 false 1 t6 t7)∧(
   zdl 108 2 32 t7 t15 λt17=>
   pv (zai x3) λt18=>
   pv (faV 1 t18) λt19=>
   st 1 t19 t17 λ_=>
   pv (za2 .none .add v13 (.int .i64 1)) λt20=>
   k1 (zdn x0 x1 x2 x3 x4 x6 x7 x8 x9 x10 x11 x12 x33 t20 (jf #[U,U,U,U,U,t4,U,U,U,U,U,U,U,U,t1,t2,t3,x3,x3,t5,t6,t7,t8,t9,t10,t11,t12,t14,t15,t17,t18,t19,t20]))) h16)) h13) E) (
  K x3):=by kernel_rfl
abbrev q98:=cQ Tryz.f98 K E
abbrev d98:=cD Tryz.f98
theorem t98:d98 [] (q98 K E) #[x0,x1,U,U,U,U,U,U,U,U,U,U,U,U] =
 nw 55 (Value.cells x0).toList λt1=>
 pv (zab x1) λt2=>
 pv (za2 .none .leq t2 (.int .i64 200)) λt3=>
 gdK t3 true (λk=>k x1) λt4=>
 gdK t3 true (λk=>k (.func (.func 143) #[] #[t1])) λt5=>
 gdK t3 true (λk=>cF 142 #[t4,t5] k E) λt6=>
 gdK t3 true (λk=>pv (unV .not t6) k) λt7=>
 pv (zad t3 t7 (.bool false)) λt8=>
 K t8:=by kernel_rfl
abbrev yiv:=cQ Tryz.f102 K E
abbrev znj:=cD Tryz.f102
abbrev zll:=za6 k1 (blk 0 (za6 (znj [1,1,1,1] (yiv K E)) (yiv K E)))
def zdb (j:Nat -> Value):Env:=#[x0,x1,x2,x3,x4,v5,v6,(j 7),x8,x9,x10,x11,x12,x13,x14,x15,(j 16),(j 17),(j 18),(j 19),(j 20),(j 21),(j 22),(j 23),(j 24),(j 25),(j 26),(j 27),(j 28),(j 29),(j 30),(j 31),(j 32),(j 33),(j 34),(j 35),x36,x37,x38,x39,x40,x41]
theorem zje:znj [] (yiv K E) #[x0,x1,U,U,U,U,U,U,U,U,U,U,U,U,U,U,U,U,U,U,U,U,U,U,U,U,U,U,U,U,U,U,U,U,U,U,U,U,U,U,U,U] =
 cF 152 #[x0,x1] (λt1=>
 pv (za2 .none .eql t1 (.int .i64 (-1))) λt2=>
 cnd t2 (
  K x0) (
  pv (za2 .none .add t1 (.int .i64 1)) λt3=>
  lp (λk1=>znj [1,1,1,0,1,0,0] (zll K E k1)) (zdb x0 x1 U U (.slice none 0 0) x0 x1 t1 t1 t2 U t1 t3 U U U U U U t1 t3 (jf #[])))) E:=by kernel_rfl
theorem zq1:znj [1,1,1,0,1,0,0] (zll K E k1) (zdb x0 x1 x2 x3 x4 x8 x9 x10 x11 x12 x13 x14 x15 x36 x37 x38 x39 x40 x41 v5 v6 j) =
 pv (zab x0) λt1=>
 pv (za2 .none .lss v6 t1) λt2=>
 cnd t2 (
  pv (iaV none 2 x0 v6) λt3=>
  ld true 2 t3 λt4=>
  nw 110 [(.slice none 0 0),(.int .i64 0)] λt5=>
  st 2 t5 t4 λ_=>
  ld true 2 t5 λt6=>
  zbs Tryz.prog x1 #[t6] (λt7=>
  pv (unV .not t7) λt8=>
  cnd t8 (
  ld true 2 t5 λt9=>
  pv (iaV none 2 x0 v5) λt10=>
  st 2 t10 t9 λ_=>
  pv (za2 .none .add v5 (.int .i64 1)) λt11=>
  znj [1,1,1,0,1,0,0,1,1] (zll K E k1) #[x0,x1,x2,x3,x4,t11,v6,t5,x8,x9,x10,x11,x12,x13,x14,x15,v6,x0,t1,t2,(j 20),(j 21),x0,v6,t3,t4,x1,t6,t7,t8,x0,v5,t9,t10,v5,t11,x36,x37,x38,x39,x40,x41]) (
  znj [1,1,1,0,1,0,0,1,1] (zll K E k1) #[x0,x1,x2,x3,x4,v5,v6,t5,x8,x9,x10,x11,x12,x13,x14,x15,v6,x0,t1,t2,(j 20),(j 21),x0,v6,t3,t4,x1,t6,t7,t8,(j 30),(j 31),(j 32),(j 33),(j 34),(j 35),x36,x37,x38,x39,x40,x41])) E) (
  pv (slV 2 x0 (some v5) none none) λt12=>
  clr 110 [(.slice none 0 0),(.int .i64 0)] 2 t12 λ_=>
  pv (slV 2 x0 none (some v5) none) λt13=>
  K t13):=by kernel_rfl
theorem zie:znj [1,1,1,0,1,0,0,1,1] (zll K E k1) #[x0,x1,x2,x3,x4,x5,x6,x7,x8,x9,x10,x11,x12,x13,x14,x15,x16,x17,x18,x19,x20,x21,x22,x23,x24,x25,x26,x27,x28,x29,x30,x31,x32,x33,x34,x35,x36,x37,x38,x39,x40,x41] =
 pv (za2 .none .add x6 (.int .i64 1)) λt1=>
 k1 (zdb x0 x1 x2 x3 x4 x8 x9 x10 x11 x12 x13 x14 x15 x36 x37 x38 x39 x40 x41 x5 t1 (jf #[U,U,U,U,U,U,U,x7,U,U,U,U,U,U,U,U,x16,x17,x18,x19,x6,t1,x22,x23,x24,x25,x26,x27,x28,x29,x30,x31,x32,x33,x34,x35])):=by kernel_rfl
end
section
variable {K:zae} {E:zb2} {k1 k2:Env -> Hp -> Prop} {σ:Type} {x0 x1 x2 x3 x4 x5 x6 x7 x8 x9 x10 x11 x12 x13 x14 x15 x16 x17 x18 x19 x20 x21 x22 x23 x24 x25 x26 x32 x33 x36 x37 x38 x39 x40 x41 x42 x60 x61 x62 x63 x64 x65 x66 x67 x68 x69 x70 x71 x72 v0 v3 v4 v5 v6 v7 v8 v13 v16:Value} {h:Hp} {j:Nat -> Value}
theorem zu0 (f3 f4:σ -> Value) (I:σ -> Hp -> Prop) (μ:σ -> Nat) (s0:σ) (e3:v3=f3 s0) (e4:v4=f4 s0) (h0:h.wf -> ∃ h',h.wk h'∧I s0 h')
 (round:∀ (k1:Env -> Hp -> Prop) (s:σ) (j:Nat -> Value) (h:Hp),I s h -> h.wf -> (∀ s' j' h',μ s'<μ s -> (h'.wf -> ∃ h'',h'.wk h''∧I s' h'') -> k1 (zeq x0 x1 x2 x64 x65 x66 x67 x68 x69 x70 x71 x72 (f3 s') (f4 s') j') h') -> d10 [1,1,0,1,0,0] (zyz K E k1) (zeq x0 x1 x2 x64 x65 x66 x67 x68 x69 x70 x71 x72 (f3 s) (f4 s) j) h) :
 lp (λk1=>d10 [1,1,0,1,0,0] (zyz K E k1)) (zeq x0 x1 x2 x64 x65 x66 x67 x68 x69 x70 x71 x72 v3 v4 j) h:=by
 subst e3;subst e4;exact zaw _ I μ round s0 j h0
theorem zid (f6 f7:σ -> Value) (I:σ -> Hp -> Prop) (μ:σ -> Nat) (s0:σ) (e6:v6=f6 s0) (e7:v7=f7 s0) (h0:h.wf -> ∃ h',h.wk h'∧I s0 h')
 (round:∀ (k2:Env -> Hp -> Prop) (s:σ) (j:Nat -> Value) (h:Hp),I s h -> h.wf -> (∀ s' j' h',μ s'<μ s -> (h'.wf -> ∃ h'',h'.wk h''∧I s' h'') -> k2 (zbr x0 x1 x2 x3 x4 x5 x8 x9 x10 x11 x12 x13 x14 x15 x16 x17 x18 x19 x20 x21 x22 x23 x24 x25 x26 x60 x61 x62 x63 x64 x65 x66 x67 x68 x69 x70 x71 x72 (f6 s') (f7 s') j') h') -> d10 [1,1,0,1,0,0,1,0,0,1,1,0,1,0,0] (zyu K E k1 k2) (zbr x0 x1 x2 x3 x4 x5 x8 x9 x10 x11 x12 x13 x14 x15 x16 x17 x18 x19 x20 x21 x22 x23 x24 x25 x26 x60 x61 x62 x63 x64 x65 x66 x67 x68 x69 x70 x71 x72 (f6 s) (f7 s) j) h) :
 lp (λk2=>d10 [1,1,0,1,0,0,1,0,0,1,1,0,1,0,0] (zyu K E k1 k2)) (zbr x0 x1 x2 x3 x4 x5 x8 x9 x10 x11 x12 x13 x14 x15 x16 x17 x18 x19 x20 x21 x22 x23 x24 x25 x26 x60 x61 x62 x63 x64 x65 x66 x67 x68 x69 x70 x71 x72 v6 v7 j) h:=by
 subst e6;subst e7;exact zaw _ I μ round s0 j h0
theorem zvf (f7 f8:σ -> Value) (I:σ -> Hp -> Prop) (μ:σ -> Nat) (s0:σ) (e7:v7=f7 s0) (e8:v8=f8 s0) (h0:h.wf -> ∃ h',h.wk h'∧I s0 h')
 (round:∀ (k1:Env -> Hp -> Prop) (s:σ) (j:Nat -> Value) (h:Hp),I s h -> h.wf -> (∀ s' j' h',μ s'<μ s -> (h'.wf -> ∃ h'',h'.wk h''∧I s' h'') -> k1 (zeo x0 x1 x2 x3 x4 x5 x6 x42 (f7 s') (f8 s') j') h') -> d15 [1,1,0,1,0,0] (zk9 K E k1) (zeo x0 x1 x2 x3 x4 x5 x6 x42 (f7 s) (f8 s) j) h) :
 lp (λk1=>d15 [1,1,0,1,0,0] (zk9 K E k1)) (zeo x0 x1 x2 x3 x4 x5 x6 x42 v7 v8 j) h:=by
 subst e7;subst e8;exact zaw _ I μ round s0 j h0
theorem zvs (f7 f16:σ -> Value) (I:σ -> Hp -> Prop) (μ:σ -> Nat) (s0:σ) (e7:v7=f7 s0) (e16:v16=f16 s0) (h0:h.wf -> ∃ h',h.wk h'∧I s0 h')
 (round:∀ (k1:Env -> Hp -> Prop) (s:σ) (j:Nat -> Value) (h:Hp),I s h -> h.wf -> (∀ s' j' h',μ s'<μ s -> (h'.wf -> ∃ h'',h'.wk h''∧I s' h'') -> k1 (zer x0 x1 x2 x3 x4 x5 x6 x8 x11 x12 x13 x14 x15 x37 (f7 s') (f16 s') j') h') -> d19 [1,1,0,1,0,0] (znm K E k1) (zer x0 x1 x2 x3 x4 x5 x6 x8 x11 x12 x13 x14 x15 x37 (f7 s) (f16 s) j) h) :
 lp (λk1=>d19 [1,1,0,1,0,0] (znm K E k1)) (zer x0 x1 x2 x3 x4 x5 x6 x8 x11 x12 x13 x14 x15 x37 v7 v16 j) h:=by
 subst e7;subst e16;exact zaw _ I μ round s0 j h0
theorem zv2 (f5 f6:σ -> Value) (I:σ -> Hp -> Prop) (μ:σ -> Nat) (s0:σ) (e5:v5=f5 s0) (e6:v6=f6 s0) (h0:h.wf -> ∃ h',h.wk h'∧I s0 h')
 (round:∀ (k1:Env -> Hp -> Prop) (s:σ) (j:Nat -> Value) (h:Hp),I s h -> h.wf -> (∀ s' j' h',μ s'<μ s -> (h'.wf -> ∃ h'',h'.wk h''∧I s' h'') -> k1 (zem x0 x1 x2 x3 x4 x33 (f5 s') (f6 s') j') h') -> d41 [1,1,0,1,0,0] (zkd K E k1) (zem x0 x1 x2 x3 x4 x33 (f5 s) (f6 s) j) h) :
 lp (λk1=>d41 [1,1,0,1,0,0] (zkd K E k1)) (zem x0 x1 x2 x3 x4 x33 v5 v6 j) h:=by
 subst e5;subst e6;exact zaw _ I μ round s0 j h0
theorem zu6 (f0 f5:σ -> Value) (I:σ -> Hp -> Prop) (μ:σ -> Nat) (s0:σ) (e0:v0=f0 s0) (e5:v5=f5 s0) (h0:h.wf -> ∃ h',h.wk h'∧I s0 h')
 (round:∀ (k1:Env -> Hp -> Prop) (s:σ) (j:Nat -> Value) (h:Hp),I s h -> h.wf -> (∀ s' j' h',μ s'<μ s -> (h'.wf -> ∃ h'',h'.wk h''∧I s' h'') -> k1 (zes x1 x2 x3 x4 x6 x7 x8 x9 x10 x32 (f0 s') (f5 s') j') h') -> d53 [1,1,0,1,0,0] (zyy K E k1) (zes x1 x2 x3 x4 x6 x7 x8 x9 x10 x32 (f0 s) (f5 s) j) h) :
 lp (λk1=>d53 [1,1,0,1,0,0] (zyy K E k1)) (zes x1 x2 x3 x4 x6 x7 x8 x9 x10 x32 v0 v5 j) h:=by
 subst e0;subst e5;exact zaw _ I μ round s0 j h0
theorem zri (f13:σ -> Value) (I:σ -> Hp -> Prop) (μ:σ -> Nat) (s0:σ) (e13:v13=f13 s0) (h0:h.wf -> ∃ h',h.wk h'∧I s0 h')
 (round:∀ (k1:Env -> Hp -> Prop) (s:σ) (j:Nat -> Value) (h:Hp),I s h -> h.wf -> (∀ s' j' h',μ s'<μ s -> (h'.wf -> ∃ h'',h'.wk h''∧I s' h'') -> k1 (zdn x0 x1 x2 x3 x4 x6 x7 x8 x9 x10 x11 x12 x33 (f13 s') j') h') -> d87 [1,1,1,0,1,0,0] (zz3 K E k1) (zdn x0 x1 x2 x3 x4 x6 x7 x8 x9 x10 x11 x12 x33 (f13 s) j) h) :
 lp (λk1=>d87 [1,1,1,0,1,0,0] (zz3 K E k1)) (zdn x0 x1 x2 x3 x4 x6 x7 x8 x9 x10 x11 x12 x33 v13 j) h:=by
 subst e13;exact zaw _ I μ round s0 j h0
theorem zqj (f5 f6:σ -> Value) (I:σ -> Hp -> Prop) (μ:σ -> Nat) (s0:σ) (e5:v5=f5 s0) (e6:v6=f6 s0) (h0:h.wf -> ∃ h',h.wk h'∧I s0 h')
 (round:∀ (k1:Env -> Hp -> Prop) (s:σ) (j:Nat -> Value) (h:Hp),I s h -> h.wf -> (∀ s' j' h',μ s'<μ s -> (h'.wf -> ∃ h'',h'.wk h''∧I s' h'') -> k1 (zdb x0 x1 x2 x3 x4 x8 x9 x10 x11 x12 x13 x14 x15 x36 x37 x38 x39 x40 x41 (f5 s') (f6 s') j') h') -> znj [1,1,1,0,1,0,0] (zll K E k1) (zdb x0 x1 x2 x3 x4 x8 x9 x10 x11 x12 x13 x14 x15 x36 x37 x38 x39 x40 x41 (f5 s) (f6 s) j) h) :
 lp (λk1=>znj [1,1,1,0,1,0,0] (zll K E k1)) (zdb x0 x1 x2 x3 x4 x8 x9 x10 x11 x12 x13 x14 x15 x36 x37 x38 x39 x40 x41 v5 v6 j) h:=by
 subst e5;subst e6;exact zaw _ I μ round s0 j h0
end
end Go.Proofs.YtlhlhpgjnjjhnaaGreatDoor.T
