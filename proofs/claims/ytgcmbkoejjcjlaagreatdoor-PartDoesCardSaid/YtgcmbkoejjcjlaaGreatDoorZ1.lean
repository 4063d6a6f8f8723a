import Derived.RangeFuncGives
import Derived.Shelf.SlIter.Collect
import Derived.Maps.AppendAt
import Derived.Shelf.Abstract
import Derived.Sort.KeysCollected
import Derived.Test.YtgcmbkoejjcjlaaGreatDoorProg
import Derived.WalkKit
import Derived.KernelRfl
import Derived.Orders
import Derived.Laws.AppendOwn
import Derived.Laws.OwnMore
import Derived.Laws.StructEq
import Derived.Laws.BytesString
import Derived.Laws.MakeOwn
import Derived.Lib.ConvBytes
import Derived.Scope
import Derived.ChangeArms
import Derived.SizedLaws
import Derived.MapKept
import Derived.StringKeys
set_option maxHeartbeats 4000000
/- slices.Collect(maps.Keys(m)) at keys uint32: turned from the worked proof GgCollectAtTheDump (keys of a string's kind). -/
namespace Go.Proofs.YtgcmbkoejjcjlaaGreatDoor.A
open Go Go.Proofs Go.RowKit Go.Maps Go.Sort Go.Shelf
set_option linter.unusedVariables false
set_option linter.unusedSimpArgs false
abbrev zg9 (x:Int):Value:=.int .u32 x
theorem yi8 {x y:Int} (h:zg9 x=zg9 y):x=y:=by simpa [zg9] using h
theorem yby {P:Program} {k:TypeId} (hk:P.underlying k=some (.int .u32)) {key:Value} {kl:Lit} (h:keyOf P k key=some kl):∃ x:Int,key=zg9 x∧kl=.int .u32 x∧(Lit.int .u32 x).wf=true:=by
 obtain ⟨x,h1,h2,h3⟩:=Maps.keyOf_int_inv hk h
 exact ⟨x,h1,h2,h3⟩
def zns {H:Type} (v:Value):Option (DataW H×List MemPlace):=some (.lit (.bool true),[])
def zkd {H:Type} (D0:DataW H) (left:Lit→Bool) (ss:List Int):Prop:=ss.Nodup∧∀ x,x∈ss↔(has D0 (.int .u32 x)=true∧left (.int .u32 x)=false)
theorem zkd.start {H:Type} (D0:DataW H):zkd D0 (has D0) []:=⟨List.nodup_nil,fun x=>by cases has D0 (.int .u32 x)<;>simp⟩
theorem zkd.step {H:Type} {D0:DataW H} {left:Lit→Bool} {ss:List Int} (h:zkd D0 left ss) {x:Int} {y:DataW H} (hlk:left (.int .u32 x)=true) (hat:∀ zd,D0.atKey (.int .u32 x) zd=y):zkd D0 (fun z=>left z && !z.sameKey (.int .u32 x)) (ss++[x]):=by
 have hhas:has D0 (.int .u32 x)=true:=has_true_of_atKey hat
 have hnew:x ∉ ss:=fun hx=>by have := ((h.2 x).1 hx).2; rw [hlk] at this; cases this
 refine ⟨List.nodup_append.2 ⟨h.1,by simp,fun a ha b hb=>by simp at hb; subst hb; exact fun e=>hnew (e ▸ ha)⟩,fun y=>?_⟩
 by_cases hy:y=x
 ·subst hy; simp [hhas,Lit.sameKey]
 ·simp [h.2 y,hy,Lit.sameKey]
theorem zkd.all {H:Type} {D0:DataW H} {left:Lit→Bool} {ss:List Int} (h:zkd D0 left ss) (hl:∀ kl,left kl=false):ss.Nodup∧∀ x,x∈ss↔has D0 (.int .u32 x)=true:=⟨h.1,fun x=>by rw [h.2 x,hl]; simp⟩
set_option maxRecDepth 100000 in
set_option maxHeartbeats 1000000 in
theorem zzu {H:Type} (F:Fence) (n:Nat) (h10:F.fn 71) (hro:F.round=none) (hn:1≤n) (l Bm b nn:Nat) (D0:DataW H) (J:List Int→World→Prop)
  (hY:∀ pre x W,J pre W→pre.length<Maps.size D0→YieldAt F (n - 1) Tryz.prog l #[zg9 x] W fun e W'=>e=.returned (.bool true)∧J (pre++[x]) W'∧KeepsWalks W W')
  (W:World) (hJ:AbidesFrom W.heap.size J) (hm:W.cell? ⟨Bm,0,none⟩=some (.map (some b))) (hown:W.ownsMap Tryz.prog 30 zns b nn D0) (h0:J [] W) :
  CallsIn F n Tryz.prog 71 #[.func (.yield l) #[] #[],.pointer (some ⟨Bm,0,none⟩)] W fun e W'=>(∃ v,e=.returned v)∧∃ ss:List Int,(ss.Nodup∧∀ x,x∈ss↔has D0 (.int .u32 x)=true)∧J ss W':=by
 refine callsIn_of_wp Tryz.func71 rfl h10 ?_ hro
 simp only [Tryz.ntmps71,List.size_toArray,List.length_cons,List.length_nil,Nat.reduceAdd,Nat.reduceSub,Array.replicate_succ,Array.replicate_zero,List.push_toArray,List.append_toArray,List.nil_append,List.cons_append]
 gi_wp2_with (first
  | (gi_at_range; refine wpListIn_range_own _ rfl _ 70 rfl 30 95 (int_keyed Tryz.underlying30) Tryz.underlying70 _ b nn _ rfl hown ?_; intro w0 hrg0 hg0 hs0)
  | gi_in)
 go_frame
 gi_loopw [3] (fun _ wr=>∃ (left:Lit→Bool) (cnt:Nat) (ss:List Int),wr.ranges Tryz.prog 30 zns b W.heap.size nn D0 left cnt∧ss.length+cnt≤Maps.size D0∧zkd D0 left ss∧J ss wr)
  (fun _ wr=>wr.rangeLeft b W.heap.size)
 case atStart=>
  exact ⟨_,_,[],hrg0,by simp,zkd.start D0,hJ [] W w0 none h0 hg0 (fun r e=>by cases e)⟩
 case round=>
  obtain ⟨left,cnt,ss,hrg,hcs,hC,hJs⟩:=hrel
  gi_wp2_with (first
   | (gi_at_next; refine wpListIn_next_ranges _ rfl _ rfl 30 (int_keyed Tryz.underlying30) zns zg9 id (fun key kl hk=>by obtain ⟨x,hx,_⟩:=yby Tryz.underlying30 hk; exact ⟨x,hx⟩) (fun v _ _=>⟨v,rfl⟩) b W.heap.size nn _ _ _ rfl hrg ?_ ?_)
   | gi_in)
  ·
   intro hc0 hl0
   gi_wp2
   go_end0
   exact ⟨⟨_,rfl⟩,ss,hC.all hl0,hJs⟩
  ·
   intro x c kl yd yp w2 cnt2 hkey hlk hv hat hrg2 hlt hg2 hs2 hen
   obtain ⟨x',ex,rfl,_⟩:=yby Tryz.underlying30 hkey
   obtain rfl:x=x':=yi8 ex
   have hJ2:J ss w2:=hJ ss wr w2 (some W.heap.size) hJs hg2 (fun r e=>by cases e; exact ⟨Nat.le_refl _,hrg.iter_walk⟩)
   obtain ⟨fn,tmps,assign,body,hy,hR⟩:=hY ss x w2 hJ2 (by omega)
   clear hs2
   gi_wp2
   refine hR.mono ?_
   rintro e W3 ⟨rfl,hJ3,hk3⟩
   gi_wp2
   have hrg3:=hrg2.of_walks hk3
   go_roundw
   case rel=>exact ⟨_,cnt2,ss++[x],hrg3,by simp; omega,hC.step hlk hat,hJ3⟩
   case measure=>rw [hrg3.left_eq,hrg.left_eq]; exact hlt
theorem zye {H:Type} (F:Fence) (n:Nat) (h10:F.fn 71) (hro:F.round=none) (hn:1≤n) (Bm b nn:Nat) (D0:DataW H) (w:World) (hBm:Bm<w.heap.size)
  (hm:w.cell? ⟨Bm,0,none⟩=some (.map (some b))) (hown:w.ownsMap Tryz.prog 30 zns b nn D0) :
  SeqGives F n Tryz.prog 71 #[.pointer (some ⟨Bm,0,none⟩)] zg9 (fun ss=>(ss.Nodup∧∀ x,x∈ss↔has D0 (.int .u32 x)=true)) (Maps.size D0) w:=fun l J W hW hJ hY h0=>by
 have hown':W.ownsMap Tryz.prog 30 zns b nn D0:=by
  have hbl:=hown.lt
  obtain ⟨es,clock,hb,Ft,hs,hD⟩:=hown
  exact ⟨es,clock,(hW.block b hbl).trans hb,Ft,hs,hD⟩
 exact zzu F n h10 hro hn l Bm b nn D0 J hY W hJ ((hW.cell (p:=⟨Bm,0,none⟩) hBm).trans hm) hown' h0
def zm3:Code:=(Code.region 2 #[{ dst:=some 5,op:=Op.assign (Operand.tmp 7),type:=30,pos := "iter.go:51",after:=#[],guard:=none }] false)
def zog:Code:=(Code.block 1 (Code.region 3 #[{ dst:=some 8,op:=Op.load 57 (Operand.tmp 2),type:=57,pos := "iter.go:52",after:=#[],guard:=none },{ dst:=some 9,op:=Op.move (Operand.tmp 5),type:=30,pos := "iter.go:52",after:=#[],guard:=none },{ dst:=some 10,op:=Op.buildSlice 57 1 #[(0,Operand.tmp 9)],type:=57,pos := "iter.go:52",after:=#[{ on:=1,ground:=Ground.data }],guard:=none },{ dst:=some 11,op:=Op.call { callee:=Callee.builtin Builtin.append,args:=#[Operand.tmp 8,Operand.tmp 10],argTypes:=#[57,57] },type:=57,pos := "iter.go:52",after:=#[{ on:=0,ground:=Ground.data },{ on:=2,ground:=Ground.data }],guard:=none },{ dst:=none,op:=Op.store 57 (Operand.tmp 2) (Operand.tmp 11),type:=0,pos := "iter.go:52",after:=#[{ on:=3,ground:=Ground.data },{ on:=3,ground:=Ground.chain },{ on:=0,ground:=Ground.phase },{ on:=1,ground:=Ground.phase },{ on:=2,ground:=Ground.phase },{ on:=3,ground:=Ground.phase }],guard:=none }] false))
def zfw (fn:FuncId) (sv:Value) (Bs D:Nat) (st:LoopState) (pend:Option Code):Loop :=
 { state:=st,pending:=pend,fn,tmps:=#[.slice none 0 0,sv,.pointer (some ⟨Bs,0,none⟩),undef,.slice none 0 0,undef,sv,undef,undef,undef,undef,undef,undef],params:=#[7],assign:=zm3,body:=zog,defers:=D }
structure zmp (w0:World) (fn:FuncId) (sv:Value) (Bs l D:Nat) (ss:List Int) (W:World):Prop where
 box:∃ v,W.heap[Bs]?=some (.cells #[v] 57 (0,0))∧W.ownsRow w0.heap.size 30 1 v ss.length (ss.map zg9)∧(v=.slice none 0 0↔ss=[])
 L:W.heap[l]?=some (.loop (zfw fn sv Bs D .ready none))
 K:W.heap[D]?=some (.deferred (some []))
 below:Below w0.heap.size w0 W
theorem zzs (w0:World) (fn:FuncId) (sv:Value) (Bs l D B:Nat) (hB:w0.heap.size≤B):AbidesFrom B (zmp w0 fn sv Bs l D):=fun s W W' row h hg hrow=>by
 have hrow':∀ r,row=some r→∃ o:Obj,W.heap[r]?=some o∧o.isWalk=true:=fun r e=>(hrow r e).2
 obtain ⟨v,hv,hr,hn⟩:=h.box
 exact ⟨⟨v,(grownBy_keeps hg hrow' hv rfl).trans hv,ownsRow_abides_a hr hg hrow',hn⟩,(grownBy_keeps hg hrow' h.L rfl).trans h.L,(grownBy_keeps hg hrow' h.K rfl).trans h.K,
  h.below.grown hg h.below.size (fun k e=>Nat.le_trans hB (hrow k e).1)⟩
theorem yl0:(Tryz.prog.info? 30).map (fun i=>(i.zero,i.size,i.bytes))=some (some (.int .u32 0),1,4):=by kernel_rfl
set_option maxRecDepth 100000 in
set_option maxHeartbeats 2000000 in
theorem ydr (F:Fence) (m:Nat) (w0:World) (fn:FuncId) (hfn:F.fn fn) (sv:Value) (Bs l D:Nat) (hBl:Bs≠l) (hDl:D≠l) (hDB:D≠Bs) (h0B:w0.heap.size≤Bs) (h0l:w0.heap.size≤l)
  (N:Nat) (hN:N≤maxLen) (hNb:N*4≤140737488355328) (ss:List Int) (x:Int) (W:World) (h:zmp w0 fn sv Bs l D ss W) (hlen:ss.length<N) :
  YieldAt F m Tryz.prog l #[zg9 x] W fun e W'=>e=.returned (.bool true)∧zmp w0 fn sv Bs l D (ss++[x]) W'∧KeepsWalks W W':=by
 obtain ⟨i0,hi,hz0,hz1,hz2⟩:=info_parts yl0
 obtain ⟨v,hv,hrow,_⟩:=h.box
 refine ⟨fn,#[.slice none 0 0,sv,.pointer (some ⟨Bs,0,none⟩),undef,.slice none 0 0,undef,sv,zg9 x,undef,undef,undef,undef,undef],zm3,zog,by simpa [zfw] using run_yield (P:=Tryz.prog) (args:=#[zg9 x]) h.L rfl,roundIn_of_wpIn hfn ?_⟩
 have hl:l<W.heap.size:=(Array.getElem?_eq_some_iff.1 h.L).1
 have hbr:=run_beginRound (P:=Tryz.prog) h.L rfl
 obtain ⟨W2,hW2⟩:∃ W2,W.putObj l (.loop { zfw fn sv Bs D .ready none with state:=.busy })=W2:=⟨_,rfl⟩
 rw [hW2] at hbr
 have hg2:W.grownBy W2 (some l):=by rw [← hW2]; exact grownBy_putObj_a _ _ _
 have hk2:KeepsWalks W W2:=by rw [← hW2]; exact KeepsWalks.putObj _ h.L rfl
 have hv2:W2.heap[Bs]?=some (.cells #[v] 57 (0,0)):=by rw [← hW2]; exact (World.putObj_heap_other hBl).trans hv
 have hK2:W2.heap[D]?=some (.deferred (some [])):=by rw [← hW2]; exact (World.putObj_heap_other hDl).trans h.K
 have hL2:W2.heap[l]?=some (.loop { zfw fn sv Bs D .ready none with state:=.busy }):=by rw [← hW2]; exact World.putObj_heap_same hl
 have hrow2:W2.ownsRow w0.heap.size 30 1 v ss.length (ss.map zg9):=hrow.kept hg2 (ownsRow_ne_a hrow h.L (fun cur e=>by cases e))
 have hb2:Below w0.heap.size w0 W2:=h.below.grown hg2 h.below.size (fun k e=>by cases e; exact h0l)
 obtain ⟨hc2,hf2⟩:=cell_of_box_a hv2
 have hBlt:Bs<W2.heap.size:=(Array.getElem?_eq_some_iff.1 hv2).1
 have hl2:l<W2.heap.size:=(Array.getElem?_eq_some_iff.1 hL2).1
 have hDlt:D<W2.heap.size:=(Array.getElem?_eq_some_iff.1 hK2).1
 have ne_of:∀ {j:Nat} {o:Obj},W2.heap[j]?=some o→(∀ cur,o≠.cells cur 30 (0,0))→some j≠v.ownBlock:=fun hj hno=>by
  rcases ownsRow_ne_a hrow2 hj hno with e | e
  ·rw [e]; simp
  ·exact fun e'=>e e'.symm
 clear hW2
 unfold zm3
 gi_wp2_with (rw [Oper.semAt_eq _ _ _ (fun c h=>by cases h)]; go_simp; try go_bits)
 unfold zog
 gi_wp2_with (first
  | (gi_at_builtin; refine wpListIn_append_own _ rfl _ _ 57 rfl w0.heap.size 30 i0 (.int .u32 0) 1 4 Tryz.underlying57 hi hz0 hz1 hz2 rfl (by decide) _ _ _ rfl (hrow2.alloc _) ⟨W2.heap.size,0,none⟩ 1 1 [zg9 x] rfl rfl (cell_one_new _ _ _) (by simp [Value.oneCell',zg9]) (by omega) (by omega) (by have := hb2.size; simp; omega) ?_; intro v' w3 hown' hg3 hnil3
     have hv3:w3.heap[Bs]?=some (.cells #[v] 57 (0,0)):=(hg3.block Bs (by simp; omega) (ne_of hv2 (fun cur e=>by cases e))).trans ((Below.heap_alloc _ _ Bs hBlt).trans hv2)
     obtain ⟨hc3,hf3⟩:=cell_of_box_a hv3
     obtain ⟨g',cap',cur',rfl,hbase',hgb',hr1,hr2,hr3,hr4⟩:∃ g' cap' cur',v'=.slice (some ⟨g',0,none⟩) (ss.length+1) cap'∧w0.heap.size≤g'∧w3.heap[g']?=some (.cells cur' 30 (0,0))∧ss.length+1≤cap'∧cap'≤maxLen∧cur'.size=cap'*1∧cur'.toList.take ((ss.length+1)*1)=ss.map zg9++[zg9 x]:=by
      rcases hown'.2 with ⟨_,h0⟩ | h'
      ·exact absurd h0 (by omega)
      ·exact h'
     go_frame)
  | (rw [Oper.semAt_eq _ _ _ (fun c h=>by cases h)]; go_simp; try go_bits))
 have hg3':(W2.alloc (.cells #[zg9 x] 30)).grownBy w3 v.ownBlock:=hg3
 have hL3:w3.heap[l]?=some (.loop { zfw fn sv Bs D .ready none with state:=.busy }):=(hg3'.block l (by simp; omega) (ne_of hL2 (fun cur e=>by cases e))).trans ((Below.heap_alloc _ _ l hl2).trans hL2)
 have hK3:w3.heap[D]?=some (.deferred (some [])):=(hg3'.block D (by simp; omega) (ne_of hK2 (fun cur e=>by cases e))).trans ((Below.heap_alloc _ _ D hDlt).trans hK2)
 obtain ⟨w4,hw4⟩:∃ w4,w3.setCell ⟨Bs,0,none⟩ (.slice (some ⟨g',0,none⟩) (ss.length+1) cap')=w4:=⟨_,rfl⟩
 rw [hw4]
 have hg4:w3.grownBy w4 (some Bs):=by rw [← hw4]; exact grownBy_setCell0_a _ _ _
 have hv4:w4.heap[Bs]?=some (.cells #[.slice (some ⟨g',0,none⟩) (ss.length+1) cap'] 57 (0,0)):=by rw [← hw4]; exact heap_setCell_box_a _ hv3
 have hL4:w4.heap[l]?=some (.loop { zfw fn sv Bs D .ready none with state:=.busy }):=(hg4.block l (Array.getElem?_eq_some_iff.1 hL3).1 (fun e=>hBl (by cases e; rfl))).trans hL3
 have hK4:w4.heap[D]?=some (.deferred (some [])):=(hg4.block D (Array.getElem?_eq_some_iff.1 hK3).1 (fun e=>hDB (by cases e; rfl))).trans hK3
 have hrow4:=hown'.kept hg4 (ownsRow_ne_a hown' hv3 (fun cur e=>by cases e))
 have hl4:l<w4.heap.size:=(Array.getElem?_eq_some_iff.1 hL4).1
 have hb3:Below w0.heap.size w0 w3:=(hb2.alloc hb2.size _).grown hg3' (by have := hb2.size; simp; omega) (fun k e=>(hrow2.lt k e).1)
 have hb4:Below w0.heap.size w0 w4:=hb3.grown hg4 hb3.size (fun k e=>by cases e; exact h0B)
 have hk4:KeepsWalks W w4:=((hk2.trans (KeepsWalks.alloc _ _)).trans (KeepsWalks.of_grownBy hg3' (ownsRow_not_walk_a (hrow2.alloc _)))).trans (by rw [← hw4]; exact KeepsWalks.setCell _ _ _)
 clear hw4
 refine ⟨_,_,run_endRound none hL4,rfl,⟨⟨_,(World.putObj_heap_other hBl).trans hv4,?_,by simp⟩,World.putObj_heap_same hl4,(World.putObj_heap_other hDl).trans hK4,hb4.grown (grownBy_putObj_a _ _ _) hb4.size (fun k e=>by cases e; exact h0l)⟩,hk4.trans (KeepsWalks.putObj _ hL4 rfl)⟩
 have := hrow4.kept (grownBy_putObj_a w4 l (.loop { { zfw fn sv Bs D .ready none with state:=.busy } with state:=if (none:Option Code).isNone then .ready else .done,pending:=none })) (ownsRow_ne_a hrow4 hL4 (fun cur e=>by cases e))
 simpa using this
set_option maxRecDepth 100000 in
set_option maxHeartbeats 2000000 in
theorem zsp (F:Fence) (n:Nat) (h11:F.fn 97) (hro:F.round=none) (hn:2≤n) (g:Nat) (lb:Array Value) (hFg:F.fn g) (eg:∀ args w,(callFunc g args).run Tryz.prog w=.ok (.enter g args) w)
  (S:List Int→Prop) (N:Nat) (hN:N≤maxLen) (hNb:N*4≤140737488355328) (w:World) (hseq:SeqGives F (n - 1) Tryz.prog g lb zg9 S N w) :
  CallsIn F n Tryz.prog 97 #[.slice none 0 0,.func (.func g) #[] lb] w fun e w'=>∃ (v:Value) (ss:List Int),e=.returned v∧S ss∧w'.ownsRow w.heap.size 30 1 v ss.length (ss.map zg9)∧(v=.slice none 0 0↔ss=[])∧Below w.heap.size w w':=by
 have h1:1≤n:=by omega
 refine callsIn_of_wp_marks Tryz.func97 rfl h11 ?_ hro
 simp only [Tryz.ntmps97,List.size_toArray,List.length_cons,List.length_nil,Nat.reduceAdd,Nat.reduceSub,Array.replicate_succ,Array.replicate_zero,List.push_toArray,List.append_toArray,List.nil_append,List.cons_append]
 gi_wp2
 refine wpIn_rangeFunc ?_
 intro fn hfn
 rw [hro]
 obtain ⟨W0,hW0⟩:∃ W0,w.alloc (.cells #[.slice none 0 0] 57)=W0:=⟨_,rfl⟩
 have hs0:W0.heap.size=w.heap.size+1:=by rw [← hW0]; simp
 have hv0:W0.heap[w.heap.size]?=some (.cells #[.slice none 0 0] 57 (0,0)):=by rw [← hW0]; exact World.alloc_heap_new w _
 have hb0:Below w.heap.size w W0:=by rw [← hW0]; exact (Below.refl _ w).alloc (Nat.le_refl _) _
 rw [hW0]
 obtain ⟨W1,hW1⟩:∃ W1,(W0.alloc (.deferred (some []))).alloc (.loop (zfw fn (.func (.func g) #[] lb) w.heap.size W0.heap.size .ready none))=W1:=⟨_,rfl⟩
 have hold:∀ k,k<W0.heap.size→W1.heap[k]?=W0.heap[k]?:=fun k hk=>by
  rw [← hW1]; exact (Below.heap_alloc _ _ k (by simp; omega)).trans (Below.heap_alloc _ _ k hk)
 have hb1:Below w.heap.size w W1:=by rw [← hW1]; exact (hb0.alloc hb0.size _).alloc (by have := hb0.size; simp; omega) _
 have hs1:W1.heap.size=W0.heap.size+2:=by rw [← hW1]; simp
 have hM:zmp w fn (.func (.func g) #[] lb) w.heap.size (W0.heap.size+1) W0.heap.size [] W1 :=
  ⟨⟨_,(hold w.heap.size (by omega)).trans hv0,⟨rfl,.inl ⟨rfl,rfl⟩⟩,by simp⟩,
   by rw [← hW1]; have := World.alloc_heap_new (W0.alloc (.deferred (some []))) (.loop (zfw fn (.func (.func g) #[] lb) w.heap.size W0.heap.size .ready none)); rwa [World.size_alloc] at this,
   by rw [← hW1]; exact (Below.heap_alloc _ _ _ (by simp)).trans (World.alloc_heap_new W0 _),hb1⟩
 refine ⟨W0.heap.size+1,[{ target:=.collected W0.heap.size,args:=#[] }],W1,{ target:=.fn (.func g) lb,args:=#[.func (.yield (W0.heap.size+1)) #[] #[]] },W1,g,
  #[.func (.yield (W0.heap.size+1)) #[] #[]]++lb,W1,?_,?_,?_,?_,fun _=>h1,?_⟩
 ·rw [← hW1]; exact run_enterLoop_outer _ _ _ _ _
 ·simp [resolve,go_sem]
 ·intro f' hf'; simp [Target.leads] at hf'; subst hf'; exact hFg
 ·simp [invoke,go_sem,eg]
 ·refine (hseq (W0.heap.size+1) (zmp w fn (.func (.func g) #[] lb) w.heap.size (W0.heap.size+1) W0.heap.size) W1 hb1 (zzs _ _ _ _ _ _ _ hb1.size)
   (fun pre x W hJ hl=>ydr F (n - 1 - 1) w fn hfn _ w.heap.size (W0.heap.size+1) W0.heap.size (by omega) (by omega) (by omega) (Nat.le_refl _) (by omega) N hN hNb pre x W hJ hl) hM).mono ?_
  rintro e W2 ⟨⟨v0,rfl⟩,ss,hS,h2⟩
  obtain ⟨v,hv,hrow,hnil⟩:=h2.box
  have hend:=run_endLoop (P:=Tryz.prog) h2.L (by simp [zfw])
  obtain ⟨W3,hW3⟩:∃ W3,W2.putObj (W0.heap.size+1) (.loop { zfw fn (.func (.func g) #[] lb) w.heap.size W0.heap.size .ready none with state:=.exhausted })=W3:=⟨_,rfl⟩
  rw [hW3] at hend
  have hg3:W2.grownBy W3 (some (W0.heap.size+1)):=by rw [← hW3]; exact grownBy_putObj_a _ _ _
  have hv3:W3.heap[w.heap.size]?=some (.cells #[v] 57 (0,0)):=by rw [← hW3]; exact (World.putObj_heap_other (by omega)).trans hv
  have hK3:W3.heap[W0.heap.size]?=some (.deferred (some [])):=by rw [← hW3]; exact (World.putObj_heap_other (by omega)).trans h2.K
  have hrow3:=hrow.kept hg3 (ownsRow_ne_a hrow h2.L (fun cur e=>by cases e))
  have hb3:Below w.heap.size w W3:=h2.below.grown hg3 h2.below.size (fun k e=>by cases e; omega)
  obtain ⟨hc3,hf3⟩:=cell_of_box_a hv3
  clear hW3
  refine ⟨none,W3,hend,?_⟩
  gi_wp2
  rw [← hs0]
  refine ⟨by simp,.inl ⟨_,_,rfl,run_takeDeferred hK3,?_⟩⟩
  exact ⟨_,results_tmp rfl _ _ _,v,ss,rfl,hS,hrow3.kept (grownBy_putObj_a _ _ _) (ownsRow_ne_a hrow3 hK3 (fun cur e=>by cases e)),hnil,hb3.grown (grownBy_putObj_a _ _ _) hb3.size (fun k e=>by cases e; omega)⟩
set_option maxHeartbeats 1000000 in
theorem zy2 (F:Fence) (n:Nat) (h8:F.fn 69) (h11:F.fn 97) (hro:F.round=none) (hn:3≤n) (g:Nat) (lb:Array Value) (hFg:F.fn g) (eg:∀ args w,(callFunc g args).run Tryz.prog w=.ok (.enter g args) w)
  (S:List Int→Prop) (N:Nat) (hN:N≤maxLen) (hNb:N*4≤140737488355328) (w:World) (hseq:SeqGives F (n - 1 - 1) Tryz.prog g lb zg9 S N w) :
  CallsIn F n Tryz.prog 69 #[.func (.func g) #[] lb] w fun e w'=>∃ (v:Value) (ss:List Int),e=.returned v∧S ss∧w'.ownsRow w.heap.size 30 1 v ss.length (ss.map zg9)∧(v=.slice none 0 0↔ss=[])∧Below w.heap.size w w':=by
 have h1:1≤n:=by omega
 refine callsIn_of_wp Tryz.func69 rfl h8 ?_ hro
 simp only [Tryz.ntmps69,List.size_toArray,List.length_cons,List.length_nil,Nat.reduceAdd,Nat.reduceSub,Array.replicate_succ,Array.replicate_zero,List.push_toArray,List.append_toArray,List.nil_append,List.cons_append]
 gi_wp2_with (gi_at_call 97; refine (zsp F (n - 1) h11 hro (by omega) g lb hFg eg S N hN hNb _ hseq).mono ?_; rintro e w' ⟨v,ss,rfl,hS,hrow,hnil,hb⟩)
 go_ret
 exact ⟨v,ss,rfl,hS,hrow,hnil,hb⟩
end Go.Proofs.YtgcmbkoejjcjlaaGreatDoor.A
open Go Go.RowKit
set_option linter.unusedVariables false
set_option linter.unusedSimpArgs false
namespace Go.Proofs.YtgcmbkoejjcjlaaGreatDoor.K
inductive zak where
 | cells (e:TypeId) (cs:List Value) (tot:Nat)
 | obj (o:Obj)
structure Hp where
 F:Nat→Option (List Value)
 M:Nat→Option zak
 nx:Nat
def Obj.noCells:Obj→Prop
 | .cells .. => False
 | _=>True
structure Rep (w0:World) (h:Hp) (w:World):Prop where
 below:Below w0.heap.size w0 w
 dr:w0.drawn≤w.drawn
 nx:h.nx≤w.heap.size
 base:w0.heap.size≤h.nx
 fr:∀ b cs,h.F b=some cs→b<h.nx∧∃ arr e z,w.heap[b]?=some (.cells arr e z)∧cs <+: arr.toList
 cl:∀ b e cs tot,h.M b=some (.cells e cs tot)→b<h.nx∧w0.heap.size≤b∧h.F b=none∧∃ arr,w.heap[b]?=some (.cells arr e (0,0))∧arr.size=tot∧cs <+: arr.toList
 ob:∀ b o,h.M b=some (.obj o)→b<h.nx∧w0.heap.size≤b∧h.F b=none∧w.heap[b]?=some o∧Obj.noCells o
def Hp.row (h:Hp) (b:Nat) (cs:List Value):Prop:=h.F b=some cs∨∃ e tot,h.M b=some (.cells e cs tot)
def upd {α:Type} (f:Nat→Option α) (b:Nat) (v:Option α):Nat→Option α:=fun k=>if k=b then v else f k
theorem za5 {α:Type} (f:Nat→Option α) (b:Nat) (v:Option α):upd f b v b=v:=by simp [upd]
theorem za4 {α:Type} (f:Nat→Option α) {b k:Nat} (v:Option α) (h:k≠b):upd f b v k=f k:=by simp [upd,h]
theorem Rep.cell {w0 w:World} {h:Hp} (r:Rep w0 h w) {b:Nat} {cs:List Value} (hb:h.row b cs) {o:Nat} {v:Value} (hv:cs[o]?=some v):w.cell? ⟨b,o,none⟩=some v:=by
 have pre:∀ (arr:Array Value) e z,w.heap[b]?=some (.cells arr e z)→cs <+: arr.toList→w.cell? ⟨b,o,none⟩=some v:=by
  intro arr e z ha hp
  obtain ⟨t,ht⟩:=hp
  have:arr[o]?=some v:=by
   rw [← Array.getElem?_toList,← ht,List.getElem?_append_left (List.getElem?_eq_some_iff.1 hv).1]; exact hv
  simp [World.cell?,ha,this]
 rcases hb with hb | ⟨e,tot,hM⟩
 ·obtain ⟨_,arr,e,z,ha,hp⟩:=r.fr b cs hb
  exact pre arr e z ha hp
 ·obtain ⟨_,_,_,arr,ha,_,hp⟩:=r.cl b e _ tot hM
  exact pre arr e (0,0) ha hp
def Hp.set (h:Hp) (b:Nat) (c:zak):Hp:={ h with M:=upd h.M b (some c) }
def Hp.new (h:Hp) (b:Nat) (c:zak):Hp:={ h with M:=upd h.M b (some c),nx:=b+1 }
def Hp.del (h:Hp) (b:Nat):Hp:={ h with M:=upd h.M b none }
theorem Rep.drew {w0 w:World} {h:Hp} (r:Rep w0 h w):Rep w0 h w.drew:=⟨r.below.drew,Nat.le_succ_of_le r.dr,r.nx,r.base,r.fr,r.cl,r.ob⟩
theorem zq0 {w:World} {b:Nat} {arr:Array Value} {e:TypeId} {z:Nat×Nat} (h:w.heap[b]?=some (.cells arr e z)) (o:Nat) (u:Value) :
  (w.setCell ⟨b,o,none⟩ u).heap[b]?=some (.cells (arr.setIfInBounds o u) e z):=by
 simp [World.setCell,Array.getElem?_modify,h]
theorem Rep.turn {w0 w w':World} {h:Hp} (r:Rep w0 h w) {b:Nat} (hb:w0.heap.size≤b) (hF:h.F b=none) (hos:w'.os=w.os) (htape:w'.tape=w.tape) (hout:w'.output=w.output)
  (hsz:w.heap.size≤w'.heap.size) (hlt:b<w'.heap.size) (hother:∀ k,k≠b→k<w.heap.size→w'.heap[k]?=w.heap[k]?) (c:Option zak) (nx:Nat) (hnx:h.nx≤nx) (hnx':nx≤w'.heap.size) (hbn:b<nx)
  (hc:match c with
   | some (.cells e cs tot)=>∃ arr,w'.heap[b]?=some (.cells arr e (0,0))∧arr.size=tot∧cs <+: arr.toList
   | some (.obj o)=>w'.heap[b]?=some o∧Obj.noCells o
   | none=>True) (hdr:w.drawn≤w'.drawn:=by exact Nat.le_refl _):Rep w0 ⟨h.F,upd h.M b c,nx⟩ w':=by
 have lt:∀ k,k<h.nx→k<w.heap.size:=fun k hk=>Nat.lt_of_lt_of_le hk r.nx
 refine ⟨?_,Nat.le_trans r.dr hdr,hnx',Nat.le_trans r.base hnx,?_,?_,?_⟩
 ·exact r.below.trans ⟨hos,htape,hout,hsz,fun k hk=>hother k (by omega) (Nat.lt_of_lt_of_le hk r.below.size)⟩
 ·intro k cs hk
  obtain ⟨h1,arr,e,z,h2,h3⟩:=r.fr k cs hk
  refine ⟨Nat.lt_of_lt_of_le h1 hnx,arr,e,z,?_,h3⟩
  rw [hother k (fun he=>by subst he; simp only at hk; rw [hF] at hk; cases hk) (lt k h1)]; exact h2
 ·intro k e cs tot hk
  simp only [upd] at hk
  split at hk
  ·rename_i he
   subst he
   rw [hk] at hc
   exact ⟨hbn,hb,hF,hc⟩
  ·rename_i he
   obtain ⟨h1,h2,h3,arr,h4,h5⟩:=r.cl k e cs tot hk
   exact ⟨Nat.lt_of_lt_of_le h1 hnx,h2,h3,arr,by rw [hother k he (lt k h1)]; exact h4,h5⟩
 ·intro k o hk
  simp only [upd] at hk
  split at hk
  ·rename_i he
   subst he
   rw [hk] at hc
   exact ⟨hbn,hb,hF,hc⟩
  ·rename_i he
   obtain ⟨h1,h2,h3,h4,h5⟩:=r.ob k o hk
   exact ⟨Nat.lt_of_lt_of_le h1 hnx,h2,h3,by rw [hother k he (lt k h1)]; exact h4,h5⟩
theorem Rep.alloc {w0 w:World} {h:Hp} (r:Rep w0 h w) (o:Obj) (c:Option zak)
  (hc:match c with
   | some (.cells e cs tot)=>∃ arr,o=.cells arr e (0,0)∧arr.size=tot∧cs <+: arr.toList
   | some (.obj o')=>o=o'∧Obj.noCells o
   | none=>True):Rep w0 ⟨h.F,upd h.M w.heap.size c,w.heap.size+1⟩ (w.alloc o):=by
 refine r.turn (w':=w.alloc o) (b:=w.heap.size) (Nat.le_trans r.base r.nx) ?_ rfl rfl rfl (by simp) (by simp) (fun k _ hk=>Below.heap_alloc w o k hk) c _ (Nat.le_succ_of_le r.nx) (by simp) (by omega) ?_
 ·cases hF:h.F w.heap.size with
  | none=>rfl
  | some cs=>obtain ⟨h1,_⟩:=r.fr _ cs hF; have := r.nx; omega
 ·have hn:=heap_alloc_new w o
  split at hc
  ·obtain ⟨arr,rfl,h2⟩:=hc
   exact ⟨arr,hn,h2⟩
  ·obtain ⟨rfl,h2⟩:=hc
   exact ⟨hn,h2⟩
  ·trivial
def zbs (cs:List Value) (o:Nat) (vs:List Value):List Value:=cs.take o++vs++cs.drop (o+vs.length)
theorem zux (cs:List Value) (o:Nat):zbs cs o []=cs:=by simp [zbs]
theorem zuh {cs:List Value} {o:Nat} {vs:List Value} (h:o+vs.length≤cs.length) (k:Nat) :
  (zbs cs o vs)[k]?=if o≤k∧k<o+vs.length then vs[k - o]? else cs[k]?:=by
 unfold zbs
 by_cases h1:k<o
 ·rw [List.getElem?_append_left (by simp; omega),List.getElem?_append_left (by simp; omega),if_neg (by omega),List.getElem?_take,if_pos h1]
 ·by_cases h2:k<o+vs.length
  ·rw [List.getElem?_append_left (by simp; omega),List.getElem?_append_right (by simp; omega),if_pos (by omega)]
   simp [Nat.min_eq_left (by omega:o≤cs.length)]
  ·rw [List.getElem?_append_right (by simp; omega),if_neg (by omega),List.getElem?_drop]
   congr 1
   simp [Nat.min_eq_left (by omega:o≤cs.length)]; omega
theorem zme {cs:List Value} {o:Nat} {v:Value} {vs:List Value} (h:o+(v::vs).length≤cs.length):zbs cs o (v::vs)=zbs (cs.set o v) (o+1) vs:=by
 apply List.ext_getElem?
 intro k
 have h':o+1+vs.length≤(cs.set o v).length:=by simp at h ⊢; omega
 rw [zuh h,zuh h',List.getElem?_set]
 simp only [List.length_cons]
 by_cases h1:k=o
 ·subst h1
  rw [if_pos (by omega),if_neg (by omega),if_pos rfl,if_pos (by simp at h; omega)]
  simp
 ·by_cases h2:o≤k∧k<o+(vs.length+1)
  ·rw [if_pos h2,if_pos (by omega)]
   obtain ⟨j,rfl⟩:∃ j,k=o+1+j:=⟨k - (o+1),by omega⟩
   rw [show o+1+j - o=j+1 by omega,List.getElem?_cons_succ]
   congr 1; omega
  ·rw [if_neg h2,if_neg (by omega),if_neg (fun e=>h1 e.symm)]
theorem ydf {cs:List Value} {arr:Array Value} (h:cs <+: arr.toList) {o:Nat} (ho:o<cs.length) (v:Value):cs.set o v <+: (arr.setIfInBounds o v).toList:=by
 obtain ⟨t,ht⟩:=h
 refine ⟨t,?_⟩
 rw [Array.toList_setIfInBounds,← ht,List.set_append_left _ _ ho]
theorem Rep.setCell {w0 w:World} {h:Hp} (r:Rep w0 h w) {b:Nat} {e:TypeId} {cs:List Value} {tot:Nat} (hM:h.M b=some (.cells e cs tot)) {o:Nat} (ho:o<cs.length) (v:Value) :
  Rep w0 (h.set b (.cells e (cs.set o v) tot)) (w.setCell ⟨b,o,none⟩ v):=by
 obtain ⟨h1,h2,h3,arr,h4,h5,h6⟩:=r.cl b e cs tot hM
 refine r.turn (w':=w.setCell ⟨b,o,none⟩ v) h2 h3 rfl rfl rfl (by simp) (by simp; have := r.nx; omega) (fun k hk _=>Below.heap_setCell _ _ _ _ hk) (some _) h.nx (Nat.le_refl _) (by simpa using r.nx) h1 ?_
 exact ⟨_,zq0 h4 o v,by simpa using h5,ydf h6 ho v⟩
theorem Addr.add_plain (b o n:Nat):(⟨b,o,none⟩:Addr).add n=⟨b,o+n,none⟩:=by unfold Addr.add; split<;>simp_all
theorem Hp.set_set (h:Hp) (b:Nat) (c c':zak):(h.set b c).set b c'=h.set b c':=by
 simp only [Hp.set]; congr 1; funext k; simp only [upd]; split<;>rfl
theorem Rep.storeCells {P:Program} {w0:World} {b:Nat} {e:TypeId} {tot:Nat}:∀ (vs:List Value) (h:Hp) (w:World) (cs:List Value) (o i:Nat),Rep w0 h w→h.M b=some (.cells e cs tot) →
  o+i+vs.length≤cs.length→(∀ v∈vs,v.oneCell'=true) →
  ∃ w',(Go.storeCells ⟨b,o,none⟩ vs i).run P w=.ok () w'∧Rep w0 (h.set b (.cells e (zbs cs (o+i) vs) tot)) w'
 | [],h,w,cs,o,i,r,hM,hl,_=>⟨w,by simp [Go.storeCells],by
   rw [zux]
   have:h.set b (.cells e cs tot)=h:=by
    simp only [Hp.set]
    have:upd h.M b (some (.cells e cs tot))=h.M:=by funext k; simp only [upd]; split<;>simp_all
    rw [this]
   rw [this]; exact r⟩
 | v::vs,h,w,cs,o,i,r,hM,hl,hv=>by
  have ho:o+i<cs.length:=by simp at hl; omega
  obtain ⟨h1,h2,h3,arr,h4,h5,h6⟩:=r.cl b e cs tot hM
  have hc:w.cell? ⟨b,o+i,none⟩=some (cs[o+i]'ho):=r.cell (cs:=cs) (.inr ⟨e,tot,hM⟩) (by simp [ho])
  have hz:w.frozen? ⟨b,o+i,none⟩=false:=by simp [World.frozen?,h4]
  have r':=r.setCell hM ho v
  obtain ⟨w',hw',hr'⟩:=Rep.storeCells (P:=P) vs _ _ (cs.set (o+i) v) o (i+1) r' (za5 _ _ _) (by simp at hl ⊢; omega) (fun u hu=>hv u (by simp [hu]))
  refine ⟨w',?_,?_⟩
  ·simp only [Go.storeCells,Addr.add_plain,Sem.run_bind]
   rw [run_store P w _ v _ (hv v (by simp)),hc]
   simp only [hz,Bool.false_eq_true,if_false,Result.andThen_ok]
   exact hw'
  ·rw [Hp.set_set] at hr'
   rw [zme (by simp at hl ⊢; omega)]
   exact hr'
def zk7 (A M:Nat→Option zak):Prop:=∀ k c,A k=some c→M k=some c
structure Hp.wk (h h':Hp):Prop where
 nx:h'.nx=h.nx
 M:zk7 h'.M h.M
 F:∀ b cs,h'.F b=some cs→h.F b=some cs∨(h'.M b=none∧∃ e cs' tot,h.M b=some (.cells e cs' tot)∧cs <+: cs')
 d:∀ b cs,h'.F b=some cs→h'.M b=none
theorem Rep.wk {w0 w:World} {h h':Hp} (r:Rep w0 h w) (k:h.wk h'):Rep w0 h' w:=by
 refine ⟨r.below,r.dr,by rw [k.nx]; exact r.nx,by rw [k.nx]; exact r.base,?_,?_,?_⟩
 ·intro b cs hb
  rcases k.F b cs hb with h1 | ⟨_,e,cs',tot,h1,h2⟩
  ·rw [k.nx]; exact r.fr b cs h1
  ·obtain ⟨a1,a2,a3,arr,a4,a5,a6⟩:=r.cl b e cs' tot h1
   exact ⟨by rw [k.nx]; exact a1,arr,e,_,a4,h2.trans a6⟩
 ·intro b e cs tot hb
  obtain ⟨a1,a2,a3,a4⟩:=r.cl b e cs tot (k.M _ _ hb)
  refine ⟨by rw [k.nx]; exact a1,a2,?_,a4⟩
  cases hF:h'.F b with
  | none=>rfl
  | some cs'=>rw [k.d b cs' hF] at hb; cases hb
 ·intro b o hb
  obtain ⟨a1,a2,a3,a4⟩:=r.ob b o (k.M _ _ hb)
  refine ⟨by rw [k.nx]; exact a1,a2,?_,a4⟩
  cases hF:h'.F b with
  | none=>rfl
  | some cs'=>rw [k.d b cs' hF] at hb; cases hb
structure Hp.wf (h:Hp):Prop where
 M:∀ k,h.nx≤k→h.M k=none
 F:∀ k,h.nx≤k→h.F k=none
 d:∀ k cs,h.F k=some cs→h.M k=none
theorem Rep.wf {w0 w:World} {h:Hp} (r:Rep w0 h w):h.wf:=by
 refine ⟨fun k hk=>?_,fun k hk=>?_,fun k cs hk=>?_⟩
 ·cases hM:h.M k with
  | none=>rfl
  | some c=>
   cases c with
   | cells e cs tot=>have := (r.cl k e cs tot hM).1; omega
   | obj o=>have := (r.ob k o hM).1; omega
 ·cases hF:h.F k with
  | none=>rfl
  | some cs=>have := (r.fr k cs hF).1; omega
 ·cases hM:h.M k with
  | none=>rfl
  | some c=>
   cases c with
   | cells e cs' tot=>have := (r.cl k e cs' tot hM).2.2.1; rw [hk] at this; cases this
   | obj o=>have := (r.ob k o hM).2.2.1; rw [hk] at this; cases this
theorem zb6 (M:Nat→Option zak):zk7 M M:=fun _ _ h=>h
theorem zav {A M:Nat→Option zak} {b:Nat} {x:Option zak} (h:zk7 A M) (hb:A b=none):zk7 A (upd M b x):=fun k c hk=>by
 simp only [upd]; split
 ·rename_i e; subst e; rw [hb] at hk; cases hk
 ·exact h k c hk
theorem zx2 {A M:Nat→Option zak} {b:Nat} {x:Option zak} (h:zk7 A M):zk7 (upd A b x) (upd M b x):=fun k c hk=>by
 simp only [upd] at hk ⊢; split
 ·rename_i e; rw [if_pos e] at hk; exact hk
 ·rename_i e; rw [if_neg e] at hk; exact h k c hk
def zl3 (P:Program) (ops:Array Oper) (o:Oper) (v:Value) (a:Act) (w:World):Prop :=
 (Region.wanted o (yielded ops a.tmps)=true∧(execOp a.eval o).run P w=.ok (.value v) w)∨(Region.wanted o (yielded ops a.tmps)=false∧v=undef)
def zpg (ops:Array Oper) (j:Nat):List Nat:=match ops[j]? with
 | none=>[]
 | some o=>(o.after.toList.filter (Region.binds .any)).map (·.on)
def yde (ops:Array Oper):Nat→List Nat→List Nat
 | 0,s=>s
 | n+1,s=>yde ops n ((s++s.flatMap (zpg ops)).eraseDups)
def ahead (ops:Array Oper) (i j:Nat):Bool:=(yde ops 5 (zpg ops j)).contains i
def zii (ops:Array Oper) (listed:Array Bool):Prop :=
 ∀ j o,listed.getD j false=true→ops[j]?=some o→∀ e∈o.after,Region.binds .any e=true→listed.getD e.on false=true
theorem yb1 {ops:Array Oper} {listed:Array Bool} (hc:zii ops listed) {k:Nat} (hk:listed.getD k false=true):∀ i∈zpg ops k,listed.getD i false=true:=by
 intro i hi
 unfold zpg at hi
 cases ho:ops[k]? with
 | none=>simp [ho] at hi
 | some o=>
  simp only [ho,List.mem_map,List.mem_filter] at hi
  obtain ⟨e,⟨he,hb⟩,rfl⟩:=hi
  exact hc k o hk ho e (by simpa using he) hb
theorem zow {ops:Array Oper} {listed:Array Bool} (hc:zii ops listed):∀ (n:Nat) (s:List Nat),(∀ i∈s,listed.getD i false=true)→∀ i∈yde ops n s,listed.getD i false=true
 | 0,_,h,i,hi=>h i hi
 | n+1,s,h,i,hi=>by
  refine zow hc n _ (fun k hk=>?_) i hi
  rw [List.mem_eraseDups,List.mem_append,List.mem_flatMap] at hk
  rcases hk with hk | ⟨m,hm,hk⟩
  ·exact h k hk
  ·exact yb1 hc (h m hm) k hk
theorem yaj {ops:Array Oper} {listed:Array Bool} (hc:zii ops listed) {i j:Nat}
  (hj:∀ o,ops[j]?=some o→∀ e∈o.after,Region.binds .any e=true→listed.getD e.on false=true) (h:ahead ops i j=true):listed.getD i false=true:=by
 refine zow hc 5 (zpg ops j) (fun k hk=>?_) i (by simpa [ahead] using h)
 unfold zpg at hk
 cases ho:ops[j]? with
 | none=>simp [ho] at hk
 | some o=>
  simp only [ho,List.mem_map,List.mem_filter] at hk
  obtain ⟨e,⟨he,hb⟩,rfl⟩:=hk
  exact hj o ho e (by simpa using he) hb
theorem ziy {ops:Array Oper} {listed:Array Bool} (hc:zii ops listed) {j:Nat} (hj:j∈Region.ready .any ops listed):zii ops (listed.setIfInBounds j true):=by
 intro k o hk ho e he hb
 by_cases hjk:j=k
 ·subst hjk
  obtain ⟨_,o',ho',hall⟩:=mem_ready.1 hj
  rw [ho] at ho'
  cases ho'
  exact getD_set_true (hall e he hb)
 ·rw [getD_set_ne false hjk] at hk
  exact getD_set_true (hc k o hk ho e he hb)
theorem ybi (ops:Array Oper) (n:Nat):zii ops (Array.replicate n false):=by
 intro j o hj ho
 by_cases h:j<n<;>simp [h] at hj
abbrev zi0:=List (Nat×(World→Prop))
def later (ops:Array Oper) (T:zi0) (j:Nat):zi0:=T.filter fun p=>!ahead ops p.1 j
def zhs (P:Program) (ops:Array Oper) (Q:Exit→Act→World→Prop):Nat→Array Bool→zi0→Act→World→Prop
 | 0,listed,T,a,w=>Region.ready .any ops listed=[]∧Q .normal a w
 | fuel+1,listed,T,a,w=>
  (Region.ready .any ops listed=[]→Q .normal a w) ∧
  ∀ i∈Region.ready .any ops listed,wpOp P ops Q i (fun a' w'=>(∀ p∈later ops T i,p.2 w')∧zhs P ops Q fuel (listed.setIfInBounds i true) (later ops T i) a' w') a w
theorem ztk {P:Program} {ops:Array Oper} {Q:Exit→Act→World→Prop}:∀ (fuel:Nat) (listed:Array Bool) (T:zi0) (a:Act) (w:World),zhs P ops Q fuel listed T a w→wpAny P .any ops Q fuel listed a w
 | 0,_,_,_,_,h=>h
 | fuel+1,_,_,_,_,h=>⟨h.1,fun i hi=>wpOp_mono (fun a' w' h'=>ztk fuel _ _ a' w' h'.2) (h.2 i hi)⟩
theorem zxj {ops:Array Oper} {T T':zi0} {j:Nat} (hs:∀ p∈T',p∈T):∀ p∈later ops T' j,p∈later ops T j:=fun p hp=>by
 simp only [later,List.mem_filter] at *
 exact ⟨hs p hp.1,hp.2⟩
theorem zlv {P:Program} {ops:Array Oper} {Q:Exit→Act→World→Prop}:∀ (fuel:Nat) (listed:Array Bool) (T T':zi0) (a:Act) (w:World),(∀ p∈T',p∈T)→zhs P ops Q fuel listed T a w→zhs P ops Q fuel listed T' a w
 | 0,_,_,_,_,_,_,h=>h
 | fuel+1,_,_,_,_,_,hs,h=>⟨h.1,fun i hi=>wpOp_mono (fun a' w' h'=>⟨fun p hp=>h'.1 p (zxj hs p hp),zlv fuel _ _ _ a' w' (zxj hs) h'.2⟩) (h.2 i hi)⟩
section
variable {P:Program} {ops:Array Oper} {Q:Exit→Act→World→Prop}
theorem zl3.of_same {o:Oper} {v:Value} {a a':Act} {w:World} (hy:zl3 P ops o v a w) (he:execOp a'.eval o=execOp a.eval o)
  (hw:Region.wanted o (yielded ops a'.tmps)=Region.wanted o (yielded ops a.tmps)):zl3 P ops o v a' w:=by
 unfold zl3 at *
 rw [he,hw]
 exact hy
def zg1 (P:Program) (ops:Array Oper) (S:World→Prop) (o:Oper) (v:Value) (a:Act):Prop:=∀ w,S w→zl3 P ops o v a w
theorem zg1.of_same {S:World→Prop} {o:Oper} {v:Value} {a a':Act} (hy:zg1 P ops S o v a) (he:execOp a'.eval o=execOp a.eval o)
  (hw:Region.wanted o (yielded ops a'.tmps)=Region.wanted o (yielded ops a.tmps)):zg1 P ops S o v a':=fun w hs=>(hy w hs).of_same he hw
theorem zg1.wpOp {S:World→Prop} {i:Nat} {o:Oper} {v:Value} {a:Act} (hi:ops[i]?=some o) (hy:zg1 P ops S o v a)
  {K:Act→World→Prop} {w:World} (hS:S w) (h:K (a.put o.dst v) w):wpOp P ops Q i K a w:=by
 unfold Go.wpOp
 try simp only [hi]
 rcases hy w hS with ⟨hw,hv⟩ | ⟨hw,rfl⟩
 ·simp only [hw,if_true,Oper.wp,hv,Oper.upon]; exact .inl h
 ·simp only [hw,Bool.false_eq_true,if_false]; exact h
theorem yfa {S:World→Prop} {j:Nat} {oi oj:Oper} {v:Value} (hj:ops[j]?=some oj) (hap:oi.apart ops oj=true)
  (hsi:∀ cs b,oi.op≠.select cs b) (hsj:∀ cs b,oj.op≠.select cs b)
  (hQ:∀ c a w,Q (.panic c) (a.put oi.dst v) w→Q (.panic c) a w) {K:Act→World→Prop} {a:Act} {w:World}
  (hy:zg1 P ops S oi v a) (h:wpOp P ops Q j K (a.put oi.dst v) w) :
  wpOp P ops Q j (fun a' w'=>zg1 P ops S oi v a'∧K (a'.put oi.dst v) w') a w:=by
 obtain ⟨h1,h2,h3⟩:=Oper.apart_spec hap
 have keep:∀ (a:Act),zg1 P ops S oi v a→∀ u,zg1 P ops S oi v (a.put oj.dst u):=fun a hy u=>
  hy.of_same (execOp_put oi hsi a oj.dst u h3) (wanted_put oi a oj.dst u h3)
 have keepD:∀ d,zg1 P ops S oi v { a with defers:=d::a.defers }:=fun d=>hy.of_same rfl rfl
 unfold wpOp at *
 simp only [hj] at *
 rw [wanted_put oj a oi.dst v h1] at h
 split
 ·rename_i hw
  simp only [hw,if_true] at h
  rcases h with h | ⟨hasks,hlets⟩
  case inr=>exact .inr ⟨by unfold Oper.asks at *; rw [execOp_put oj hsj a oi.dst v h1] at hasks; exact hasks,hlets⟩
  refine .inl ?_
  unfold Oper.wp at *
  rw [execOp_put oj hsj a oi.dst v h1] at h
  generalize (execOp a.eval oj).run P w=r at *
  cases r with
  | ok n w'=>
   cases n<;>simp only [Oper.upon] at h ⊢
   case value u=>exact ⟨keep a hy u,by rw [← Act.put_comm a v u h2]; exact h⟩
   case skip=>exact ⟨keep a hy _,by rw [← Act.put_comm a v undef h2]; exact h⟩
   case defer d=>
    refine ⟨keep _ (keepD d) _,?_⟩
    rw [← Act.put_comm _ v undef h2,← Act.put_defers]
    exact h
   case enter f args=>
    refine Calls.mono h fun e w'' he=>?_
    cases e with
    | returned u=>exact ⟨keep a hy u,by rw [← Act.put_comm a v u h2]; exact he⟩
    | panicked c=>exact hQ _ _ _ he
    | outgrown=>exact he
   case row row args=>exact Rows.mono h fun u w'' he=>⟨keep a hy u,by rw [← Act.put_comm a v u h2]; exact he⟩
  | halt x w'=>
   cases x<;>simp only [Oper.upon] at h ⊢
   case panic u=>exact hQ _ _ _ h
 ·rename_i hw
  simp only [hw] at h
  exact ⟨keep a hy _,by rw [← Act.put_comm a v undef h2]; exact h⟩
theorem yam {S:World→Prop} {i:Nat} {oi:Oper} {v:Value} (hi:ops[i]?=some oi) (hsel:∀ (j:Nat) (o:Oper) cs b,ops[j]?=some o→o.op≠.select cs b)
  (hQ:∀ c a w,Q (.panic c) (a.put oi.dst v) w→Q (.panic c) a w) :
  ∀ (fuel:Nat) (listed:Array Bool) (T:zi0) (a:Act) (w:World),zii ops listed →
   (∀ j oj,ops[j]?=some oj→j≠i→listed.getD j true=false→(∀ e∈oj.after,Region.binds .any e=true→e.on≠i)→oi.apart ops oj=true) →
   i∈Region.ready .any ops listed→zg1 P ops S oi v a→S w→(∀ p∈T,p.2 w) →
   zhs P ops Q fuel (listed.setIfInBounds i true) ((i,S)::T) (a.put oi.dst v) w→zhs P ops Q (fuel+1) listed T a w:=by
 intro fuel
 induction fuel with
 | zero=>
  intro listed T a w hcl _ hr hy hS hT H
  refine ⟨fun h=>(by rw [h] at hr; cases hr),fun j hj=>?_⟩
  by_cases hji:j=i
  ·subst hji; exact hy.wpOp hi hS ⟨fun p hp=>hT p (List.mem_filter.1 hp).1,zlv _ _ _ _ _ _ (fun p hp=>List.mem_cons_of_mem _ (List.mem_filter.1 hp).1) H⟩
  ·have := ready_mono hj hji
   rw [H.1] at this
   cases this
 | succ fuel ih=>
  intro listed T a w hcl hfree hr hy hS hT H
  refine ⟨fun h=>(by rw [h] at hr; cases hr),fun j hj=>?_⟩
  by_cases hji:j=i
  ·subst hji; exact hy.wpOp hi hS ⟨fun p hp=>hT p (List.mem_filter.1 hp).1,zlv _ _ _ _ _ _ (fun p hp=>List.mem_cons_of_mem _ (List.mem_filter.1 hp).1) H⟩
  ·have h1:=H.2 j (ready_mono hj hji)
   obtain ⟨hjun,oj,hoj,hall⟩:=mem_ready.1 hj
   have hnot:∀ e∈oj.after,Region.binds .any e=true→e.on≠i:=fun e he hb heq=>by
    have h1:=hall e he hb
    have h0:=(mem_ready.1 hr).1
    rw [heq] at h1
    rcases Nat.lt_or_ge i listed.size with h' | h'
    ·simp [h'] at h0 h1; rw [h0] at h1; cases h1
    ·simp [Array.getElem?_eq_none h'] at h1
   have hah:ahead ops i j=false:=by
    cases hb:ahead ops i j with
    | false=>rfl
    | true=>
     have := yaj hcl (fun o ho e he hb=>by rw [hoj] at ho; cases ho; exact hall e he hb) hb
     have h0:=(mem_ready.1 hr).1
     rcases Nat.lt_or_ge i listed.size with h' | h'
     ·simp [h'] at h0 this; rw [h0] at this; cases this
     ·simp [Array.getElem?_eq_none h'] at this
   have h2:=yfa hoj (hfree j oj hoj hji hjun hnot) (fun cs b=>hsel i oi cs b hi) (fun cs b=>hsel j oj cs b hoj) hQ hy h1
   have hfree':∀ k ok,ops[k]?=some ok→k≠i→(listed.setIfInBounds j true).getD k true=false →
     (∀ e∈ok.after,Region.binds .any e=true→e.on≠i)→oi.apart ops ok=true:=fun k ok hk hki hun hno=>by
    refine hfree k ok hk hki ?_ hno
    by_cases hjk:j=k
    ·subst hjk; exact hjun
    ·rw [getD_set_ne true hjk] at hun; exact hun
   have hl:later ops ((i,S)::T) j=(i,S)::later ops T j:=by simp [later,List.filter_cons,hah]
   refine wpOp_mono (fun a' w' h3=>?_) h2
   obtain ⟨h4,h5,h6⟩:=h3
   rw [hl] at h5 h6
   refine ⟨fun p hp=>h5 p (List.mem_cons_of_mem _ hp),ih (listed.setIfInBounds j true) _ a' w' (ziy hcl hj) hfree' (ready_mono hr (Ne.symm hji)) h4 (h5 _ (List.mem_cons_self ..)) (fun p hp=>h5 p (List.mem_cons_of_mem _ hp)) ?_⟩
   rw [Array.setIfInBounds_comm _ _ hji]
   exact h6
theorem zva {rs:List Nat} {fuel:Nat} {listed:Array Bool} {T:zi0} {a:Act} {w:World} (hr:Region.ready .any ops listed=rs) (hne:rs≠[])
  (h:∀ i∈rs,wpOp P ops Q i (fun a' w'=>(∀ p∈later ops T i,p.2 w')∧zhs P ops Q fuel (listed.setIfInBounds i true) (later ops T i) a' w') a w):zhs P ops Q (fuel+1) listed T a w :=
 ⟨fun h0=>absurd (hr ▸ h0) hne,hr ▸ h⟩
theorem ybd {id:Nat} {a:Act} {w:World} (hm:P.follows .mixedOrders=true)
  (h:zhs P ops Q ops.size (Array.replicate ops.size false) [] a { w with drawn:=w.drawn+1 }):(Code.region id ops true).wp P Q a w :=
 wp_region_any hm (ztk _ _ _ _ _ h)
end
abbrev Env:=Array Value
abbrev zae:=Value→Hp→Prop
abbrev ev (env:Env) (x:Operand):Value:=(Act.mk env []).eval x
def zj0 (env:Env) (d:Option Tmp) (v:Value):Env:=(Act.put ⟨env,[]⟩ d v).tmps
def znf {α β:Type} (f:α→β) (xs:Array α):Array β:=(xs.toList.map f).toArray
theorem yc6 {α β:Type} (f:α→β) (xs:Array α):znf f xs=xs.map f:=by
 apply Array.toList_inj.1
 simp [znf]
def zh9 (xs ys:Array Value):Array Value:=(xs.toList++ys.toList).toArray
theorem zvm (xs ys:Array Value):zh9 xs ys=xs++ys:=by simp [zh9]
def ldV (h:Hp) (agg:Bool) (sz:Nat) (p v:Value):Prop :=
 match p with
 | .pointer (some ⟨b,o,none⟩)=>∃ cs,h.row b cs∧(if agg=true then o+sz≤cs.length∧v=.agg ((cs.drop o).take sz).toArray else cs[o]?=some v)
 | _=>False
def pv (o:Option Value) (K:zae) (h:Hp):Prop:=∃ v,o=some v∧K v h
def ld (agg:Bool) (sz:Nat) (p:Value) (K:zae) (h:Hp):Prop:=∃ v,ldV h agg sz p v∧K v h
def ykp (p:Value) (vs:List Value) (K:Hp→Prop) (h:Hp):Prop :=
 ∃ b o e cs tot,p=.pointer (some ⟨b,o,none⟩)∧h.M b=some (.cells e cs tot)∧(∀ c∈vs,c.oneCell'=true)∧o+vs.length≤cs.length∧K (h.set b (.cells e (zbs cs o vs) tot))
def st (sz:Nat) (p v:Value) (K:zae) (h:Hp):Prop:=v.cells.size=sz∧ykp p v.cells.toList (K undef) h
def nw (t:TypeId) (cells:List Value) (K:zae) (h:Hp):Prop:=∀ b,h.nx≤b→K (.pointer (some ⟨b,0,none⟩)) (h.new b (.cells t cells cells.length))
def nws (t:TypeId) (n:Nat) (cells:Option (Array Value)) (K:zae) (h:Hp):Prop :=
 ∃ cs,cells=some cs∧∀ b,h.nx≤b→K (.slice (some ⟨b,0,none⟩) n n) (h.new b (.cells t cs.toList cs.size))
def faV (off:Nat):Value→Option Value
 | .pointer (some ⟨b,o,none⟩)=>some (.pointer (some ⟨b,o+off,none⟩))
 | _=>none
def fdV (agg:Bool) (off sz:Nat):Value→Option Value
 | .agg cs=>if agg then some (.agg (cs.extract off (off+sz))) else cs[off]?
 | _=>none
def iaV (arr:Option Nat) (sz:Nat):Value→Value→Option Value
 | .slice (some ⟨b,o,none⟩) n _,.int _ i=>if arr=none∧0≤i∧i<n then some (.pointer (some ⟨b,o+i.toNat*sz,none⟩)) else none
 | .pointer (some ⟨b,o,none⟩),.int _ i=>match arr with
  | some n=>if 0≤i∧i<(n:Int) then some (.pointer (some ⟨b,o+i.toNat*sz,none⟩)) else none
  | none=>none
 | _,_=>none
def ixV:Value→Value→Option Value
 | .string s,.int _ i=>if 0≤i then (s[i.toNat]?).map (fun b=>.int .u8 b.toNat) else none
 | _,_=>none
def zan:Value→Option Value
 | .pointer none | .nilIface | .nilFunc=>none
 | .func (.method _) _ _=>none
 | v=>some v
def zah:Value→Value→Value→Option Value
 | .bool t,a,b=>some (if t then a else b)
 | _,_,_=>none
def exV (i:Nat):Value→Option Value
 | .tuple vs=>vs[i]?
 | _=>none
def zg0 (op:BinOp) (k:IntKind) (a b:Int):Option Value :=
 match op with
 | .add=>some (.int k (k.wrap (a+b)))
 | .sub=>some (.int k (k.wrap (a - b)))
 | .mul=>some (.int k (k.wrap (a*b)))
 | .quo=>if b=0 then none else some (.int k (k.wrap (a.tdiv b)))
 | .rem=>if b=0 then none else some (.int k (a.tmod b))
 | .and=>some (.int k (k.wrap (BitVec.ofInt k.bits a &&& BitVec.ofInt k.bits b).toNat))
 | .or=>some (.int k (k.wrap (BitVec.ofInt k.bits a|||BitVec.ofInt k.bits b).toNat))
 | .xor=>some (.int k (k.wrap (BitVec.ofInt k.bits a ^^^ BitVec.ofInt k.bits b).toNat))
 | .andNot=>some (.int k (k.wrap (BitVec.ofInt k.bits a &&& ~~~ BitVec.ofInt k.bits b).toNat))
 | .eql=>some (.bool (a == b))
 | .neq=>some (.bool (a != b))
 | .lss=>some (.bool (decide (a<b)))
 | .leq=>some (.bool (decide (a≤b)))
 | .gtr=>some (.bool (decide (a>b)))
 | .geq=>some (.bool (decide (a≥b)))
 | _=>none
def zp6 (op:BinOp) (k:IntKind) (x:Int) (y:Int):Option Value :=
 if y<0 then none else match op with
 | .shl=>some (.int k (k.wrap (x*2 ^ (min y.toNat k.bits))))
 | .shr=>some (.int k (x.fdiv (2 ^ (min y.toNat k.bits))))
 | _=>none
inductive EqK | none | bool | ptr | slc | map | fn
def zl7:Nat→Value→Value→Option Bool
 | 0,.int k a,.int k' b=>if k=k' then some (a == b) else none
 | 1,.bool a,.bool b=>some (a == b)
 | 2,.string a,.string b=>some (a.toList == b.toList)
 | _,_,_=>none
def zht:List Nat→List Value→List Value→Option Bool
 | [],[],[]=>some true
 | c::cs,x::xs,y::ys=>match zl7 c x y with
  | some true=>zht cs xs ys
  | some false=>some false
  | none=>none
 | _,_,_=>none
def eqV (e:EqK):Value→Value→Option Bool
 | .bool a,.bool b=>match e with | .bool=>some (a == b) | _=>none
 | .pointer none,.pointer b=>match e with | .ptr=>some b.isNone | _=>none
 | .pointer (some _),.pointer none=>match e with | .ptr=>some false | _=>none
 | .slice none _ _,.slice b _ _=>match e with | .slc=>some b.isNone | _=>none
 | .slice (some _) _ _,.slice none _ _=>match e with | .slc=>some false | _=>none
 | .map none,.map b=>match e with | .map=>some b.isNone | _=>none
 | .map (some _),.map none=>match e with | .map=>some false | _=>none
 | .nilFunc,.nilFunc=>match e with | .fn=>some true | _=>none
 | .nilFunc,.func _ _ _=>match e with | .fn=>some false | _=>none
 | .func _ _ _,.nilFunc=>match e with | .fn=>some false | _=>none
 | _,_=>none
def yd2 (op:BinOp) (x y:ByteArray):Option Value :=
 match op with
 | .add=>if ((x.size+y.size:Nat):Int)>IntKind.i64.max then none else some (.string (x++y))
 | .eql=>some (.bool (x.toList == y.toList))
 | .neq=>some (.bool !(x.toList == y.toList))
 | .lss=>some (.bool (Op.bytesLess x.toList y.toList))
 | .leq=>some (.bool (Op.bytesLess x.toList y.toList||x.toList == y.toList))
 | .gtr=>some (.bool !(Op.bytesLess x.toList y.toList||x.toList == y.toList))
 | .geq=>some (.bool !(Op.bytesLess x.toList y.toList))
 | _=>none
def za1 (e:EqK) (op:BinOp) (x y:Value):Option Value :=
 match x,y with
 | .int k a,.int k' b=>match op with
  | .shl | .shr=>zp6 op k a b
  | _=>if k=k' then zg0 op k a b else none
 | .string a,.string b=>yd2 op a b
 | x,y=>match op with
  | .eql=>(eqV e x y).map .bool
  | .neq=>(eqV e x y).map fun b=>.bool !b
  | _=>none
def unV (op:UnOp):Value→Option Value
 | .bool b=>match op with | .not=>some (.bool !b) | _=>none
 | .int k n=>match op with
  | .neg=>some (.int k (k.wrap (0 - n)))
  | .xor=>zg0 .xor k (if k.signed then -1 else k.max) n
  | _=>none
 | _=>none
def cvV (k:IntKind):Value→Option Value
 | .int _ n=>some (.int k (k.wrap n))
 | _=>none
def yb6 (t:TypeId) (x:Value):Option Value:=some (.iface t x)
def ydz:Value→Option Int
 | .int _ i=>some i
 | _=>none
def bnd (d:Option Int):Option Value→Option Int
 | none=>d
 | some v=>ydz v
def slV (sz:Nat) (x:Value) (lo hi mx:Option Value):Option Value :=
 match x with
 | .slice a len cap=>
  match bnd (some cap) mx,(bnd (some len) hi),bnd (some 0) lo with
  | some m,some h,some l=>
   if 0≤l∧l≤h∧h≤m∧m≤cap∧(hi=none→mx=none∧(len:Int)≤cap) then
    some (.slice (if m=l then a else a.map (·.add (l.toNat*sz))) (h - l).toNat (m - l).toNat) else none
  | _,_,_=>none
 | _=>none
def zqu (n:Nat):Value→Value
 | .pointer (some a)=>.slice (some a) n n
 | _=>undef
def slT (x:Value) (lo hi mx:Option Value):Option Value :=
 match x with
 | .string s=>
  match mx,(bnd (some s.size) hi),bnd (some 0) lo with
  | none,some h,some l=>if 0≤l∧l≤h∧h≤s.size then some (.string (s.extract l.toNat h.toNat)) else none
  | _,_,_=>none
 | _=>none
def za9:Value→Option Value
 | .slice _ n _=>some (.int .i64 n)
 | _=>none
def ylu:Value→Option Value
 | .string s=>some (.int .i64 s.size)
 | _=>none
def mm (max:Bool):Value→Value→Option Value
 | .int k x,.int _ y=>some (.int k (if max then (if y>x then y else x) else (if y<x then y else x)))
 | _,_=>none
def ylw (h:Hp) (e:TypeId) (sz:Nat) (s:Value) (n:Nat) (cs:List Value):Prop :=
 cs.length=n*sz∧((s=.slice none 0 0∧n=0)∨∃ b c,s=.slice (some ⟨b,0,none⟩) n c∧n≤c∧c≤maxLen∧∃ rest,h.M b=some (.cells e (cs++rest) (c*sz)))
def zjv (h:Hp) (sz:Nat) (x:Value) (m:Nat) (news:List Value):Prop :=
 news.length=m*sz∧((∃ a c,x=.slice a m c∧m=0)∨∃ b o c cs,x=.slice (some ⟨b,o,none⟩) m c∧(m=0∨h.row b cs∧(cs.drop o).take (m*sz)=news))
def zgg (M:Nat→Option zak) (s:Value):Nat→Option zak:=match s.ownBlock with
 | some b=>upd M b none
 | none=>M
def Hp.moved (h:Hp) (s:Value) (b:Nat) (c:zak):Hp :=
 ⟨h.F,upd (zgg h.M s) b (some c),max h.nx (b+1)⟩
def app (e:TypeId) (sz bytes:Nat) (s x:Value) (K:zae) (h:Hp):Prop :=
 ∃ n cs m news,ylw h e sz s n cs∧zjv h sz x m news∧(∀ c∈news,c.oneCell'=true)∧(n+m)*bytes≤140737488355328∧n+m≤maxLen ∧
  (s=.slice none 0 0→m=0→K (.slice none 0 0) h) ∧
  (s≠.slice none 0 0∨m≠0→∀ b c,(h.nx≤b∨s.ownBlock=some b)→n+m≤c→c≤maxLen→K (.slice (some ⟨b,0,none⟩) (n+m) c) (h.moved s b (.cells e (cs++news) (c*sz))))
def cpy (sz:Nat) (d s:Value) (K:zae) (h:Hp):Prop :=
 ∃ b o dn dc e cs tot m news,d=.slice (some ⟨b,o,none⟩) dn dc∧h.M b=some (.cells e cs tot)∧zjv h sz s m news∧(∀ c∈news.take (min m dn*sz),c.oneCell'=true) ∧
  o+(min m dn)*sz≤cs.length∧K (.int .i64 (min m dn:Nat)) (h.set b (.cells e (zbs cs o (news.take (min m dn*sz))) tot))
def mks (e:TypeId) (z:List Value) (sz bytes:Nat) (l c:Value) (K:zae) (h:Hp):Prop :=
 ∃ kl n kc m,l=.int kl (n:Nat)∧c=.int kc (m:Nat)∧n≤m∧m*bytes≤140737488355328∧m≤maxLen ∧
  ∀ b,h.nx≤b→K (.slice (some ⟨b,0,none⟩) n m) (h.new b (.cells e (List.replicate n z).flatten (m*sz)))
def bth (A B:Hp→Prop) (h:Hp):Prop:=A h∧B h
def mkm (K:zae) (h:Hp):Prop:=∀ b,h.nx≤b→K (.map (some b)) (h.new b (.obj (.map #[] 0)))
def lkp (P:Program) (t:TypeId) (x ix:Value) (ok:Bool) (K:zae) (h:Hp):Prop :=
 ∃ b es clock v,x=.map (some b)∧h.M b=some (.obj (.map es clock))∧(∀ w:World,w.heap[b]?=some (.map es clock)→(Instr.lookup t x ix ok).run P w=.ok v w)∧K v h
def mup (P:Program) (t:TypeId) (m k x:Value) (K:zae) (h:Hp):Prop :=
 ∃ b es clock es' clock',m=.map (some b)∧h.M b=some (.obj (.map es clock)) ∧
  (∀ w:World,w.heap[b]?=some (.map es clock)→(Instr.mapUpdate t m k x).run P w=.ok () { w with heap:=w.heap.setIfInBounds b (.map es' clock') })∧K undef (h.set b (.obj (.map es' clock')))
def bsV (h:Hp) (x v:Value):Prop:=∃ (m:Nat) (ns:List Int),zjv h 1 x m (ns.map (fun n=>.int .u8 n))∧v=.string ⟨(ns.map (fun n=>UInt8.ofNat (Int.toNat n))).toArray⟩
def bs (x:Value) (K:zae) (h:Hp):Prop:=∃ v,bsV h x v∧K v h
def yjw (e:TypeId) (sz:Nat) (s x:Value) (K:zae) (h:Hp):Prop :=
 ∃ b n c cs m news,s=.slice (some ⟨b,0,none⟩) n c∧h.M b=some (.cells e cs (c*sz))∧zjv h sz x m news∧(∀ c∈news,c.oneCell'=true)∧n+m≤c∧(n+m)*sz≤cs.length ∧
  K (.slice (some ⟨b,0,none⟩) (n+m) c) (h.set b (.cells e (zbs cs (n*sz) news) (c*sz)))
def yd7 (e:TypeId) (z:List Value) (sz bytes:Nat) (s x:Value) (K:zae) (h:Hp):Prop :=
 ∃ (a:Option Addr) (n c:Nat) (olds:List Value) (m:Nat) (k:IntKind),s=.slice a n c∧x=.int k (m:Nat)∧zjv h sz s n olds∧n≤c∧c<n+m∧(n+m)*bytes≤140737488355328∧n+m≤maxLen ∧
  ∀ b' c',h.nx≤b'→n+m≤c'→c'≤maxLen→K (.slice (some ⟨b',0,none⟩) (n+m) c') (h.new b' (.cells e (olds++(List.replicate m z).flatten) (c'*sz)))
def zbf (e:TypeId) (sz bytes:Nat) (s x:Value) (K:zae) (h:Hp):Prop:=app e sz bytes s x K h∨yjw e sz s x K h
def clr (e:TypeId) (z:List Value) (sz:Nat) (x:Value) (K:zae) (h:Hp):Prop :=
 (∃ a c,x=.slice a 0 c∧K (.tuple #[]) h) ∨
 ∃ b o n c e' cs tot,x=.slice (some ⟨b,o,none⟩) n c∧0<n∧h.M b=some (.cells e' cs tot)∧(∀ c∈z,c.oneCell'=true)∧o+n*sz≤cs.length ∧
  K (.tuple #[]) (h.set b (.cells e' (zbs cs o (List.replicate n z).flatten) tot))
def zr0:Value→Option Value
 | .slice _ _ n=>some (.int .i64 n)
 | _=>none
def Hp.frz (h:Hp) (b:Nat) (cs:List Value):Hp:=⟨upd h.F b (some cs),upd h.M b none,h.nx⟩
def mk (x:Value) (K:zae) (h:Hp):Prop:=∃ b n c e cs tot,x=.slice (some ⟨b,0,none⟩) n c∧h.M b=some (.cells e cs tot)∧K x (h.frz b cs)
def sb (s:Value) (K:zae) (h:Hp):Prop:=∃ t,s=.string t∧∀ b c,h.nx≤b→t.size≤c→K (.slice (some ⟨b,0,none⟩) t.size c) ⟨upd h.F b (some (t.data.toList.map fun x=>.int .u8 x.toNat)),h.M,b+1⟩
def zh4:Hp:=⟨fun _=>some [],fun _=>none,0⟩
def call (P:Program) (f:FuncId) (args:Array Value) (K:zae) (E:List PanicEntry→Hp→Prop) (h:Hp):Prop :=
 ∀ w0 w,(E [] zh4→w0.drawn=0)→Rep w0 h w→Calls P f args w fun e w'=>∃ h',Rep w0 h' w'∧match e with
  | .returned v=>K v h'
  | .panicked c=>E c h'
  | .outgrown=>False
def ynx (P:Program) (f:FuncId) (args:Array Value) (K:zae) (h:Hp):Prop :=
 ∀ w0 w,Rep w0 h w→∃ v w' h',(callFunc f args).run P w=.ok (.value v) w'∧Rep w0 h' w'∧K v h'
def za2 (P:Program) (f:Value) (args:Array Value) (K:zae) (E:List PanicEntry→Hp→Prop) (h:Hp):Prop :=
 match f with
 | .func (.func f) first captured=>((((P.funcs[f]?).map fun fn=>fn.name != "runtime.NumGoroutine" && fn.body.isSome).getD false)=true∧call P f (zh9 (zh9 first args) captured) K E h)∨ynx P f (zh9 (zh9 first args) captured) K h
 | _=>False
def isB (v:Value) (want:Bool):Bool:=match v with
 | .bool b=>b == want
 | _=>false
def gdK (v:Value) (want:Bool) (A:zae→Hp→Prop) (K:zae) (h:Hp):Prop :=
 if isB v want=true then A K h else K undef h
def cnd (v:Value) (A B:Hp→Prop) (h:Hp):Prop:=∃ t,v=.bool t∧(if t=true then A h else B h)
abbrev zat:=List PanicEntry→Hp→Prop
abbrev QD:=Exit→Env→Hp→Prop
def zmd (P:Program) (t:TypeId):Option Bool:=(P.underlying t).map fun d=>match d with | .struct _ | .array _ _=>true | _=>false
def eqk (P:Program) (t:TypeId):EqK:=match P.underlying t with
 | some .bool=>.bool
 | some (.pointer _)=>.ptr
 | some (.slice _)=>.slc
 | some (.map ..)=>.map
 | some (.func ..)=>.fn
 | _=>.none
def zpi (P:Program) (t:TypeId):Option Nat:=match P.underlying t with
 | some (.int _)=>some 0
 | some .bool=>some 1
 | some .string=>some 2
 | _=>none
def ydc (P:Program) (t:TypeId):Option (List Nat):=match P.underlying t with
 | some (.struct fs)=>if !P.stoodInHeld t && !P.eqGuardType P.depth t&&(fs.toList.zipIdx.all fun (f,i)=>f.name != "_" && f.offset == i) then fs.toList.mapM (fun f=>zpi P f.type) else none
 | _=>none
def zkc (P:Program) (t:TypeId):Option (Array Value):=((P.info? t).bind (·.zero)).map (·.cells)
def bdC (zero:Array Value) (places:List (Nat×Nat)) (parts:Array (Nat×Value)):Option Value:=(Instr.fill (fun i=>places[i]?) zero parts.toList).map .agg
def zkw (P:Program) (fs:List Field):Option (List (Nat×Nat)):=fs.mapM fun f=>(P.info? f.type).map fun i=>(f.offset,i.size)
def bsC (zero:Array Value) (sz len:Nat) (parts:Array (Nat×Value)):Option (Array Value):=Instr.fill (fun i=>some (i*sz,sz)) ((Array.range (len*sz)).map (zero[· % zero.size]!)) parts.toList
def ze0 (op:BinOp) (n:List Nat) (x y:Value):Option Value:=match x,y with
 | .agg xs,.agg ys=>match op with | .eql=>(zht n xs.toList ys.toList).map .bool | .neq=>(zht n xs.toList ys.toList).map fun b=>.bool !b | _=>none
 | _,_=>none
section
variable (P:Program) (env:Env)
def opD (o:Oper) (K:zae) (E:zat) (h:Hp):Prop :=
 match o.op with
 | .move x | .assign x=>K (ev env x) h
 | .pick c a b=>pv (zah (ev env c) (ev env a) (ev env b)) K h
 | .alloc t=>match zkc P t with
  | some z=>nw t z.toList K h
  | none=>False
 | .box t x=>nw t (ev env x).cells.toList K h
 | .build t parts=>match P.underlying t,zkc P t with
  | some (.struct fs),some z=>match zkw P fs.toList with
   | some pl=>pv (bdC z pl (znf (fun p=>(p.1,ev env p.2)) parts)) K h
   | none=>False
  | _,_=>False
 | .buildSlice t len parts=>match P.underlying t with
  | some (.slice e)=>match P.info? e,zkc P e with
   | some i,some z=>if len*i.size≤2 ^ 24 then nws e len (bsC z i.size len (znf (fun p=>(p.1,ev env p.2)) parts)) K h else False
   | _,_=>False
  | _=>False
 | .load t x=>match zmd P t,P.info? t with
  | some g,some i=>ld g i.size (ev env x) K h
  | _,_=>False
 | .store t a x=>match P.info? t with
  | some i=>st i.size (ev env a) (ev env x) K h
  | none=>False
 | .nilCheck x=>pv (zan (ev env x)) K h
 | .binOp op t x y _=>match ydc P t with
  | some n=>pv (ze0 op n (ev env x) (ev env y)) K h
  | none=>pv (za1 (eqk P t) op (ev env x) (ev env y)) K h
 | .unOp op _ x=>pv (unV op (ev env x)) K h
 | .convert src dst x=>match P.underlying src,P.underlying dst with
  | some (.int _),some (.int k)=>pv (cvV k (ev env x)) K h
  | some .string,some .string=>match ev env x with
   | .string s=>K (.string s) h
   | _=>False
  | some (.slice e),some .string=>match P.underlying e with
   | some (.int .u8)=>bs (ev env x) K h
   | _=>False
  | some (.slice e),some (.slice e')=>match P.underlying e' with
   | some (.int .u8)=>if src=dst then mk (ev env x) K h else False
   | _=>False
  | some .string,some (.slice e)=>match P.underlying e with
   | some (.int .u8)=>sb (ev env x) K h
   | _=>False
  | _,_=>False
 | .makeInterface t x=>match P.underlying t with
  | some (.interface _)=>False
  | some _=>pv (yb6 t (ev env x)) K h
  | none=>False
 | .makeFunc fn first captured=>K (.func fn (znf (ev env) first) (znf (ev env) captured)) h
 | .makeMap _ none=>mkm K h
 | .lookup t x ix ok=>lkp P t (ev env x) (ev env ix) ok K h
 | .mapUpdate t m k x=>mup P t (ev env m) (ev env k) (ev env x) K h
 | .makeSlice t l c=>match P.underlying t with
  | some (.slice e)=>match P.info? e,zkc P e with
   | some i,some z=>if z.size=i.size∧0<i.size then mks e z.toList i.size i.bytes (ev env l) (ev env c) K h else False
   | _,_=>False
  | _=>False
 | .slice t x lo hi mx=>match P.underlying t with
  | some (.slice e)=>match P.info? e with
   | some i=>pv (slV i.size (ev env x) (lo.map (ev env)) (hi.map (ev env)) (mx.map (ev env))) K h
   | none=>False
  | some .string=>pv (slT (ev env x) (lo.map (ev env)) (hi.map (ev env)) (mx.map (ev env))) K h
  | some (.array n e)=>match P.info? e,mx with
   | some i,none=>pv (slV i.size (zqu n (ev env x)) (lo.map (ev env)) (hi.map (ev env)) none) K h
   | _,_=>False
  | _=>False
 | .fieldAddr s x f=>match P.underlying s with
  | some (.struct fs)=>match fs[f]? with
   | some fd=>match P.info? fd.type with
    | some i=>if i.size=0 then False else pv (faV fd.offset (ev env x)) K h
    | none=>False
   | none=>False
  | _=>False
 | .field t x f=>match P.underlying t with
  | some (.struct fs)=>match fs[f]? with
   | some fd=>match zmd P fd.type,P.info? fd.type with
    | some g,some i=>pv (fdV g fd.offset i.size (ev env x)) K h
    | _,_=>False
   | none=>False
  | _=>False
 | .indexAddr t x ix=>match P.underlying t with
  | some (.slice e)=>match P.info? e with
   | some i=>pv (iaV none i.size (ev env x) (ev env ix)) K h
   | none=>False
  | some (.array n e)=>match P.info? e with
   | some i=>pv (iaV (some n) i.size (ev env x) (ev env ix)) K h
   | none=>False
  | _=>False
 | .index t x ix=>match P.underlying t with
  | some .string=>pv (ixV (ev env x) (ev env ix)) K h
  | _=>False
 | .extract t i=>pv (exV i (ev env t)) K h
 | .panic x=>match ev env x with
  | .iface t v=>E [{ v:=.iface t v,recovered:=false }] h
  | _=>False
 | .call c=>match c.callee with
  | .value (.func f)=>za2 P (.func (.func f) #[] #[]) (znf (ev env) c.args) K E h
  | .value x=>za2 P (ev env x) (znf (ev env) c.args) K E h
  | .invoke _ _=>False
  | .builtin b=>match b,c.argTypes.toList,(znf (ev env) c.args).toList with
   | .len,[t],[x]=>(match P.underlying t with
    | some (.slice _)=>pv (za9 x) K h
    | some .string=>pv (ylu x) K h
    | _=>False)
   | .append,[t,u],[s,x]=>(match P.underlying t with
    | some (.slice e)=>(match P.info? e,zkc P e with
     | some i,some z=>if z.size=i.size∧0<i.size then (if t=u then zbf e i.size i.bytes s x K h else match P.underlying u with
      | some (.int _)=>yd7 e z.toList i.size i.bytes s x K h
      | some (.slice _)=>zbf e i.size i.bytes s x K h
      | _=>False) else False
     | _,_=>False)
    | _=>False)
   | .copy,[t,u],[d,s]=>(match P.underlying t with
    | some (.slice e)=>(match P.info? e with
     | some i=>cpy i.size d s K h
     | none=>False)
    | _=>False)
   | .clear,[t],[x]=>(match P.underlying t with
    | some (.slice e)=>(match P.info? e,zkc P e with
     | some i,some z=>if z.size=i.size∧0<i.size then clr e z.toList i.size x K h else False
     | _,_=>False)
    | _=>False)
   | .cap,[t],[x]=>(match P.underlying t with
    | some (.slice _)=>pv (zr0 x) K h
    | _=>False)
   | .min,_,[x,y]=>pv (mm false x y) K h
   | .max,_,[x,y]=>pv (mm true x y) K h
   | _,_,_=>False
 | _=>False
def keepD (o:Oper) (v:Value) (h:Hp):Prop :=
 match o.op with
 | .load t x=>match zmd P t,P.info? t with
  | some g,some i=>ldV h g i.size (ev env x) v
  | _,_=>False
 | .convert src dst x=>match P.underlying src,P.underlying dst with
  | some (.slice _),some .string=>bsV h (ev env x) v
  | _,_=>True
 | _=>True
end
def zzj:Op→Bool
 | .move _ | .assign _ | .pick .. | .build .. | .load .. | .nilCheck _ | .binOp .. | .unOp .. | .makeInterface .. | .makeFunc .. | .slice .. | .fieldAddr .. | .field .. | .indexAddr .. | .index .. | .extract .. => true
 | .call { callee:=.builtin .len,.. } | .call { callee:=.builtin .cap,.. } | .call { callee:=.builtin .min,.. } | .call { callee:=.builtin .max,.. }=>true
 | _=>false
def zoi (P:Program) (o:Op):Bool:=zzj o||match o with
 | .convert src dst _=>(match P.underlying src,P.underlying dst with | some (.int _),some (.int _) | some .string,some .string | some (.slice _),some .string=>true | _,_=>false)
 | _=>false
def gv (ops:Array Oper) (env:Env) (j:Nat):Value:=match ((ops[j]?).bind (·.dst)).bind (env[·]?) with
 | some v=>v
 | none=>.tuple #[]
def opG (P:Program) (ops:Array Oper) (env:Env) (o:Oper) (K:zae) (E:zat):Hp→Prop :=
 match o.guard with
 | none=>opD P env o K E
 | some (j,want)=>gdK (gv ops env j) want (fun K=>opD P env o K E) K
def zzr (P:Program) (ops:Array Oper) (Q:QD):List Oper→Env→Hp→Prop
 | [],env=>Q .normal env
 | o::r,env=>opG P ops env o (fun v=>zzr P ops Q r (zj0 env o.dst v)) (fun c=>Q (.panic c) env)
inductive zkq | fin | take (i:Nat) (p:zkq) | exec (i:Nat) (p:zkq) | two (i:Nat) (p:zkq) (j:Nat) (q:zkq)
def ydv (P:Program) (ops:Array Oper) (listed:Array Bool) (i:Nat):Bool:=(match ops[i]? with | some o=>zoi P o.op | none=>false)&&Region.free .any ops listed i
def zgt (P:Program) (ops:Array Oper):Nat→Array Bool→Option zkq
 | 0,listed=>if Region.ready .any ops listed=[] then some .fin else none
 | n+1,listed=>match Region.ready .any ops listed with
  | []=>some .fin
  | rs=>match rs.find? (ydv P ops listed) with
   | some i=>(zgt P ops n (listed.setIfInBounds i true)).map (zkq.take i)
   | none=>match rs with
    | [i]=>(zgt P ops n (listed.setIfInBounds i true)).map (zkq.exec i)
    | [i,j]=>match zgt P ops n (listed.setIfInBounds i true),zgt P ops n (listed.setIfInBounds j true) with
     | some p,some q=>some (zkq.two i p j q)
     | _,_=>none
    | _=>none
abbrev TK:=List (Nat×(Hp→Prop))
def zgq (ops:Array Oper) (T:TK) (j:Nat):TK:=T.filter fun p=>!ahead ops p.1 j
def zrm:TK→Hp→Prop→Prop
 | [],_,X=>X
 | p::r,h,X=>p.2 h∧zrm r h X
def zky (P:Program):Op→Bool
 | .load .. => true
 | .convert src dst _=>(match P.underlying src,P.underlying dst with | some (.slice _),some .string=>true | _,_=>false)
 | _=>false
def znb (P:Program) (ops:Array Oper) (env:Env) (o:Oper) (v:Value) (h:Hp):Prop :=
 match o.guard with
 | none=>keepD P env o v h
 | some (j,want)=>isB (gv ops env j) want=true→keepD P env o v h
def zfv (P:Program) (ops:Array Oper) (Q:QD):zkq→TK→Env→Hp→Prop
 | .fin,_,env=>Q .normal env
 | .take i r,T,env=>match ops[i]? with
  | some o=>opG P ops env o (fun v=>zfv P ops Q r (if zky P o.op then (i,znb P ops env o v)::T else T) (zj0 env o.dst v)) (fun c=>Q (.panic c) env)
  | none=>fun _=>False
 | .exec i r,T,env=>match ops[i]? with
  | some o=>opG P ops env o (fun v h=>zrm (zgq ops T i) h (zfv P ops Q r (zgq ops T i) (zj0 env o.dst v) h)) (fun c=>Q (.panic c) env)
  | none=>fun _=>False
 | .two i p j q,T,env=>bth
  (match ops[i]? with
   | some o=>opG P ops env o (fun v h=>zrm (zgq ops T i) h (zfv P ops Q p (zgq ops T i) (zj0 env o.dst v) h)) (fun c=>Q (.panic c) env)
   | none=>fun _=>False)
  (match ops[j]? with
   | some o=>opG P ops env o (fun v h=>zrm (zgq ops T j) h (zfv P ops Q q (zgq ops T j) (zj0 env o.dst v) h)) (fun c=>Q (.panic c) env)
   | none=>fun _=>False)
def za6 (K:Env→Hp→Prop) (Q:QD):QD
 | .normal=>K
 | e=>Q e
def blk (id:Nat) (Q:QD):QD
 | .exit i=>if i=id then Q .normal else Q (.exit i)
 | e=>Q e
def scp (Q:QD):QD
 | .goto _=>fun _ _=>False
 | e=>Q e
def lpn (B:(Env→Hp→Prop)→Env→Hp→Prop):Nat→Env→Hp→Prop
 | 0=>fun _ _=>False
 | n+1=>fun env h=>h.wf→∃ h',h.wk h'∧(h'.wf→B (lpn B n) env h')
def lp (B:(Env→Hp→Prop)→Env→Hp→Prop) (env:Env) (h:Hp):Prop:=∃ n,lpn B n env h
def den (P:Program):Code→QD→Env→Hp→Prop
 | .skip,Q=>Q .normal
 | .label _,Q=>Q .normal
 | .region _ ops draw,Q=>if draw then
   (match zgt P ops ops.size (Array.replicate ops.size false) with
    | some l=>if Region.noSelect ops then zfv P ops Q l [] else fun _ _=>False
    | none=>fun _ _=>False)
  else zzr P ops Q ops.toList
 | .seq a b,Q=>den P a (za6 (den P b Q) Q)
 | .cond c a b,Q=>fun env=>cnd (ev env c) (den P a Q env) (den P b Q env)
 | .block id c,Q=>den P c (blk id Q)
 | .loop c,Q=>lp (fun K=>den P c (za6 K Q))
 | .exit id,Q=>Q (.exit id)
 | .scope c,Q=>den P c (scp Q)
 | .ret,Q=>Q .ret
 | _,_=>fun _ _=>False
theorem zos (env:Env) (d:Option Tmp) (v:Value):(Act.mk env []).put d v=⟨zj0 env d v,[]⟩:=by cases d<;>rfl
theorem zb3 {P:Program} {t:TypeId} {i:TypeInfo} (h:P.info? t=some i) (w:World):(sizeOf t).run P w=.ok i.size w:=by simp [sizeOf,typeInfo,h]
theorem znn {P:Program} {t:TypeId} {g:Bool} (h:zmd P t=some g) (w:World):(isAgg t).run P w=.ok g w:=by
 unfold zmd at h
 cases hu:P.underlying t with
 | none=>simp [hu] at h
 | some d=>
  simp only [hu,Option.map_some,Option.some.injEq] at h
  simp only [isAgg,Sem.run_bind,run_underlying hu,Result.andThen_ok]
  cases d<;>simp_all
theorem zoc {P:Program} {w0 w:World} {h:Hp} (r:Rep w0 h w) {t:TypeId} {g:Bool} {i:TypeInfo} (hg:zmd P t=some g) (hi:P.info? t=some i) {p v:Value} (hv:ldV h g i.size p v) :
  (Instr.loadAt t p).run P w=.ok v w:=by
 unfold ldV at hv
 split at hv
 case h_2=>cases hv
 rename_i b o
 simp only [Instr.loadAt,Instr.sureAddr,Sem.run_bind,Sem.run_pure,Result.andThen_ok,loadVar,znn hg]
 obtain ⟨cs,hr,hv⟩:=hv
 cases g with
 | false=>
  simp only [Bool.false_eq_true,if_false] at hv ⊢
  have := r.cell hr hv
  simp [this]
 | true=>
  simp only [if_true] at hv ⊢
  obtain ⟨hl,rfl⟩:=hv
  simp only [Sem.run_bind,zb3 hi,Result.andThen_ok]
  have := run_loadCells_list (P:=P) w ⟨b,o,none⟩ ((cs.drop o).take i.size) (fun j u hu=>by
   rw [Addr.add_plain]
   refine r.cell hr ?_
   rw [List.getElem?_take] at hu
   split at hu
   ·rwa [List.getElem?_drop] at hu
   ·cases hu)
  have hlen:((cs.drop o).take i.size).length=i.size:=by simp; omega
  rw [hlen] at this
  rw [this]
  rfl
theorem zzi {P:Program} {s:TypeId} {fs:Array Field} {f:Nat} {fd:Field} {i:TypeInfo} (hs:P.underlying s=some (.struct fs)) (hf:fs[f]?=some fd) (hi:P.info? fd.type=some i) (hz:i.size≠0) {p v:Value}
  (hv:faV fd.offset p=some v) (w:World):(Instr.fieldAt s p f).run P w=.ok v w:=by
 unfold faV at hv
 split at hv
 ·cases hv
  simp [Instr.fieldAt,run_underlying hs,hf,Instr.sureAddr,fieldPlace,zb3 hi,hz,Addr.add_plain]
 ·cases hv
theorem yh4 {P:Program} {t:TypeId} {g:Bool} {i:TypeInfo} (hg:zmd P t=some g) (hi:P.info? t=some i) {off:Nat} {cs:Array Value} {v:Value} (hv:fdV g off i.size (.agg cs)=some v) (w:World) :
  (part t cs off).run P w=.ok v w:=by
 simp only [part,Sem.run_bind,znn hg,Result.andThen_ok]
 unfold fdV at hv
 cases g with
 | true=>
  simp only [if_true,Option.some.injEq] at hv
  subst hv
  simp [zb3 hi]
 | false=>
  simp only [Bool.false_eq_true,if_false] at hv ⊢
  rw [hv]; rfl
theorem zpb {P:Program} {t e:TypeId} {i:TypeInfo} (ht:P.underlying t=some (.slice e)) (hi:P.info? e=some i) {x ix v:Value} (hv:iaV none i.size x ix=some v) (w:World) :
  (Instr.indexAt t x ix).run P w=.ok v w:=by
 unfold iaV at hv
 split at hv
 ·rename_i b o n c k q
  split at hv
  ·rename_i hc
   cases hv
   simp [Instr.indexAt,run_underlying ht,asIntOf,zb3 hi,hc.2.1,hc.2.2,Addr.add_plain]
  ·cases hv
 ·cases hv
 ·cases hv
theorem zov {P:Program} {t e:TypeId} {n:Nat} {i:TypeInfo} (ht:P.underlying t=some (.array n e)) (hi:P.info? e=some i) {x ix v:Value} (hv:iaV (some n) i.size x ix=some v) (w:World) :
  (Instr.indexAt t x ix).run P w=.ok v w:=by
 unfold iaV at hv
 split at hv
 ·simp at hv
 ·rename_i b o k q
  simp only at hv
  split at hv
  ·rename_i hc
   cases hv
   simp [Instr.indexAt,run_underlying ht,asIntOf,Instr.sureAddr,zb3 hi,hc.1,hc.2,Addr.add_plain]
  ·cases hv
 ·cases hv
theorem zpy {P:Program} {t:TypeId} (ht:P.underlying t=some .string) {x ix v:Value} (hv:ixV x ix=some v) (w:World):(Instr.index t x ix).run P w=.ok v w:=by
 unfold ixV at hv
 split at hv
 ·rename_i s k q
  split at hv
  ·rename_i hc
   obtain ⟨b,hb,rfl⟩:=Option.map_eq_some_iff.1 hv
   simp [Instr.index,asIntOf,run_underlying ht,hc,hb]
  ·cases hv
 ·cases hv
theorem zbx {P:Program} (w:World) {v:Value} {n:Int} (hn:ydz v=some n) {y:Nat} (code:BoundsCode) (h0:0≤n) (h1:n≤y):(Instr.sliceBound v y code).run P w=.ok n.toNat w:=by
 cases v<;>simp [ydz] at hn
 subst hn
 simp [Instr.sliceBound,asIntOf,h0,h1]
theorem ydp {P:Program} {t e:TypeId} {i:TypeInfo} (ht:P.underlying t=some (.slice e)) (hi:P.info? e=some i) {a:Option Addr} {len cap:Nat} {lo hi' mx:Option Value} {v:Value} (hv:slV i.size (.slice a len cap) lo hi' mx=some v) (w:World) :
  (Instr.sliceAt t (.slice a len cap) lo hi' mx).run P w=.ok v w:=by
 unfold slV at hv
 simp only at hv
 split at hv
 case h_2=>cases hv
 rename_i m h l hm hh hl
 split at hv
 case isFalse=>cases hv
 rename_i hc
 cases hv
 obtain ⟨h0,h1,h2,h3,h4⟩:=hc
 obtain ⟨l',rfl⟩:∃ l':Nat,l=l':=⟨l.toNat,by omega⟩
 obtain ⟨h',rfl⟩:∃ h':Nat,h=h':=⟨h.toNat,by omega⟩
 obtain ⟨m',rfl⟩:∃ m':Nat,m=m':=⟨m.toNat,by omega⟩
 have e1:((h':Int) - (l':Int)).toNat=h' - l':=by omega
 have e2:((m':Int) - (l':Int)).toNat=m' - l':=by omega
 rw [e1,e2]
 simp only [Instr.sliceAt,Instr.slice,Sem.run_bind,run_underlying ht,Result.andThen_ok,Instr.sliceBounds]
 have fin:∀ (x y:Nat),(((x:Int)=(y:Int))↔x=y):=fun x y=>by omega
 cases mx with
 | none=>
  simp [bnd] at hm
  have hm':cap=m':=by omega
  subst hm'
  cases hi' with
  | none=>
   simp [bnd] at hh
   have:len=h':=by omega
   subst this
   cases lo with
   | none=>
    simp [bnd] at hl
    have:l'=0:=by omega
    subst this
    simp [zb3 hi]
   | some lv=>
    simp [bnd] at hl
    simp [zbx (P:=P) w hl (y:=len) .sliceB h0 h1,zb3 hi]
    all_goals (split<;>split<;>first | rfl | (exfalso; omega))
  | some hv2=>
   simp [bnd] at hh
   have hhi:=zbx (P:=P) w hh (y:=cap) .sliceAcap (by omega) (by omega)
   cases lo with
   | none=>
    simp [bnd] at hl
    have:l'=0:=by omega
    subst this
    simp [hhi,zb3 hi]
   | some lv=>
    simp [bnd] at hl
    simp [hhi,zbx (P:=P) w hl (y:=h') .sliceB h0 h1,zb3 hi]
    all_goals (split<;>split<;>first | rfl | (exfalso; omega))
 | some mv=>
  simp [bnd] at hm
  have hmx:=zbx (P:=P) w hm (y:=cap) .slice3Acap (by omega) (by omega)
  cases hi' with
  | none=>exact absurd (h4 rfl).1 (by simp)
  | some hv2=>
   simp [bnd] at hh
   have hhi:=zbx (P:=P) w hh (y:=m') .slice3B (by omega) (by omega)
   cases lo with
   | none=>
    simp [bnd] at hl
    have:l'=0:=by omega
    subst this
    simp [hmx,hhi,zb3 hi]
   | some lv=>
    simp [bnd] at hl
    simp [hmx,hhi,zbx (P:=P) w hl (y:=h') .slice3C h0 h1,zb3 hi]
    all_goals (split<;>split<;>first | rfl | (exfalso; omega))
theorem zvu {P:Program} {t:TypeId} (ht:P.underlying t=some .string) {s:ByteArray} {lo hi' mx:Option Value} {v:Value} (hv:slT (.string s) lo hi' mx=some v) (w:World) :
  (Instr.sliceAt t (.string s) lo hi' mx).run P w=.ok v w:=by
 unfold slT at hv
 simp only at hv
 split at hv
 case h_2=>cases hv
 rename_i h l hh hl
 split at hv
 case isFalse=>cases hv
 rename_i hc
 cases hv
 obtain ⟨h0,h1,h2⟩:=hc
 obtain ⟨l',rfl⟩:∃ l':Nat,l=l':=⟨l.toNat,by omega⟩
 obtain ⟨h',rfl⟩:∃ h':Nat,h=h':=⟨h.toNat,by omega⟩
 simp only [Instr.sliceAt,Instr.slice,Sem.run_bind,run_underlying ht,Result.andThen_ok,Instr.sliceBounds,Option.isSome_none,Bool.false_eq_true,if_false]
 cases hi' with
 | none=>
  simp [bnd] at hh
  have:s.size=h':=by omega
  subst this
  cases lo with
  | none=>
   simp [bnd] at hl
   have:l'=0:=by omega
   subst this
   simp
  | some lv=>
   simp [bnd] at hl
   simp [zbx (P:=P) w hl (y:=s.size) .sliceB h0 h1]
 | some hv2=>
  simp [bnd] at hh
  have hhi:=zbx (P:=P) w hh (y:=s.size) .sliceAlen (by omega) (by omega)
  cases lo with
  | none=>
   simp [bnd] at hl
   have:l'=0:=by omega
   subst this
   simp [hhi]
  | some lv=>
   simp [bnd] at hl
   simp [hhi,zbx (P:=P) w hl (y:=h') .sliceB h0 h1]
theorem zvw {P:Program} {t e:TypeId} {n:Nat} {i:TypeInfo} (ht:P.underlying t=some (.array n e)) (hi:P.info? e=some i) {a:Addr} {lo hi':Option Value} {v:Value} (hv:slV i.size (.slice (some a) n n) lo hi' none=some v) (w:World) :
  (Instr.sliceAt t (.pointer (some a)) lo hi' none).run P w=.ok v w:=by
 unfold slV at hv
 simp only at hv
 split at hv
 case h_2=>cases hv
 rename_i m h l hm hh hl
 split at hv
 case isFalse=>cases hv
 rename_i hc
 cases hv
 obtain ⟨h0,h1,h2,h3,h4⟩:=hc
 obtain ⟨l',rfl⟩:∃ l':Nat,l=l':=⟨l.toNat,by omega⟩
 obtain ⟨h',rfl⟩:∃ h':Nat,h=h':=⟨h.toNat,by omega⟩
 obtain ⟨m',rfl⟩:∃ m':Nat,m=m':=⟨m.toNat,by omega⟩
 have e1:((h':Int) - (l':Int)).toNat=h' - l':=by omega
 have e2:((m':Int) - (l':Int)).toNat=m' - l':=by omega
 rw [e1,e2]
 simp [bnd] at hm
 have hm':n=m':=by omega
 subst hm'
 simp only [Instr.sliceAt,Instr.sureAddr,Sem.run_bind,run_underlying ht,Result.andThen_ok,Instr.sliceBounds]
 cases hi' with
 | none=>
  simp [bnd] at hh
  have:n=h':=by omega
  subst this
  cases lo with
  | none=>
   simp [bnd] at hl
   have:l'=0:=by omega
   subst this
   simp [zb3 hi]
   all_goals (split<;>rfl)
  | some lv=>
   simp [bnd] at hl
   simp [zbx (P:=P) w hl (y:=n) .sliceB h0 h1,zb3 hi]
   all_goals (split<;>split<;>first | rfl | (exfalso; omega))
 | some hv2=>
  simp [bnd] at hh
  have hhi:=zbx (P:=P) w hh (y:=n) .sliceAlen (by omega) (by omega)
  cases lo with
  | none=>
   simp [bnd] at hl
   have:l'=0:=by omega
   subst this
   simp [hhi,zb3 hi]
   all_goals (split<;>rfl)
  | some lv=>
   simp [bnd] at hl
   simp [hhi,zbx (P:=P) w hl (y:=h') .sliceB h0 (by omega),zb3 hi]
   all_goals (split<;>split<;>first | rfl | (exfalso; omega))
theorem ygk {P:Program} {op:BinOp} {t:TypeId} {k:IntKind} {a b:Int} {v:Value} (hv:zg0 op k a b=some v) (w:World):(binOp op t (.int k a) (.int k b)).run P w=.ok v w:=by
 cases op<;>simp [zg0] at hv
 case quo=>obtain ⟨h0,rfl⟩:=hv; simp [binOp,Op.intDiv,h0]
 case rem=>obtain ⟨h0,rfl⟩:=hv; simp [binOp,Op.intDiv,h0]
 all_goals (subst hv; first | (simp [binOp,Op.intArith]; done) | (simp [binOp,Op.intBits]; done) | (simp [binOp,Op.intCmp]; done))
theorem zul {P:Program} {op:BinOp} {t:TypeId} {k k':IntKind} {a b:Int} {v:Value} (hv:zp6 op k a b=some v) (w:World):(binOp op t (.int k a) (.int k' b)).run P w=.ok v w:=by
 unfold zp6 at hv
 split at hv
 ·cases hv
 ·rename_i hb
  cases op<;>simp at hv
  all_goals (subst hv; simp [binOp,Op.shift,hb])
theorem yhz {P:Program} {op:BinOp} {t:TypeId} {a b:ByteArray} {v:Value} (hv:yd2 op a b=some v) (w:World):(binOp op t (.string a) (.string b)).run P w=.ok v w:=by
 cases op<;>simp only [yd2] at hv
 case add=>
  split at hv
  ·cases hv
  ·rename_i h
   cases hv
   simp only [binOp,Op.stringOp,if_neg h]
   rfl
 all_goals first | (cases hv; done) | (simp only [Option.some.injEq] at hv; subst hv; rfl)
theorem yi3 {P:Program} (d:Nat) {t:TypeId} {x y:Value} {b:Bool} (hv:eqV (eqk P t) x y=some b) (w:World):(Op.equalIn (d+1) t x y).run P w=.ok b w:=by
 unfold eqk at hv
 cases hu:P.underlying t with
 | none=>rw [hu] at hv; unfold eqV at hv; simp at hv; split at hv<;>cases hv
 | some de=>
  rw [hu] at hv
  have hr:=fun w=>run_underlying (P:=P) hu w
  unfold eqV at hv
  unfold Op.equalIn
  simp only [Sem.run_bind,hr,Result.andThen_ok]
  cases de<;>simp only at hv
  all_goals (split at hv<;>first | (cases hv; done) | (simp only [Option.some.injEq] at hv; subst hv; simp))
theorem ycf {P:Program} {t:TypeId} {x y:Value} {b:Bool} (hv:eqV (eqk P t) x y=some b) (w:World):(Op.equal t x y).run P w=.ok b w:=yi3 9999 hv w
theorem yim {P:Program} {op:BinOp} {t:TypeId} {x y v:Value} (hf:True) (hv:za1 (eqk P t) op x y=some v) (w:World):(binOp op t x y).run P w=.ok v w:=by
 have gen:∀ x y,(∀ k a k' b,x=.int k a→y=.int k' b→False)→(∀ a b,x=.string a→y=.string b→False) →
   (match op with | .eql=>(eqV (eqk P t) x y).map .bool | .neq=>(eqV (eqk P t) x y).map fun b=>.bool !b | _=>none)=some v→(binOp op t x y).run P w=.ok v w:=by
  intro x y h1 h2 hv
  cases op<;>simp only at hv
  case eql=>
   obtain ⟨b,hb,rfl⟩:=Option.map_eq_some_iff.1 hv
   have := ycf hb w
   unfold binOp
   cases x<;>cases y<;>first | (simp [eqV] at hb; done) | (exact (h1 _ _ _ _ rfl rfl).elim) | (exact (h2 _ _ rfl rfl).elim) | (simp only [Sem.run_bind,this]; rfl) | (unfold eqV at hb; simp at hb; done)
  case neq=>
   obtain ⟨b,hb,rfl⟩:=Option.map_eq_some_iff.1 hv
   have := ycf hb w
   unfold binOp
   cases x<;>cases y<;>first | (simp [eqV] at hb; done) | (exact (h1 _ _ _ _ rfl rfl).elim) | (exact (h2 _ _ rfl rfl).elim) | (simp only [Sem.run_bind,this]; rfl) | (unfold eqV at hb; simp at hb; done)
  all_goals cases hv
 unfold za1 at hv
 split at hv
 ·rename_i k a k' b
  split at hv
  ·exact zul hv w
  ·exact zul hv w
  ·split at hv
   ·rename_i hk; subst hk; exact ygk hv w
   ·cases hv
 ·exact yhz hv w
 ·rename_i h1 h2
  exact gen x y (fun k a k' b e1 e2=>h1 k a k' b e1 e2) (fun a b e1 e2=>h2 a b e1 e2) hv
theorem yfn {P:Program} {op:BinOp} {t:TypeId} {x y:Operand} {a b:Value} (h1:a≠.nilIface∨b≠.nilIface) (h2:(∀ xs ys,a=.agg xs→b=.agg ys→P.eqGuardType P.depth t=false)) (w:World) :
  (eqGuard op t x y a b).run P w=.ok () w:=by
 cases op<;>simp only [eqGuard,Bool.not_true,Bool.not_false,Bool.false_eq_true,if_true,if_false,Sem.run_pure]
 all_goals
  split
  ·rcases h1 with h | h<;>exact absurd rfl h
  ·have := h2 _ _ rfl rfl
   simp [this]
  ·rfl
theorem yft {P:Program} {t:TypeId} {x y:Value} {op:BinOp} {v:Value} (hv:za1 (eqk P t) op x y=some v):(x≠.nilIface∨y≠.nilIface)∧(∀ xs ys,x=.agg xs→y=.agg ys→False):=by
 constructor
 ·by_cases h:x=.nilIface
  ·by_cases h':y=.nilIface
   ·subst h; subst h'; cases op<;>simp [za1,eqV] at hv
   ·exact Or.inr h'
  ·exact Or.inl h
 ·rintro xs ys rfl rfl
  cases op<;>simp [za1,eqV] at hv
theorem zwz {P:Program} (d:Nat) {t:TypeId} {c:Nat} (hc:zpi P t=some c) {a b:Value} {q:Bool} (hq:zl7 c a b=some q) (w:World):(Op.equalIn (d+1) t a b).run P w=.ok q w:=by
 unfold zpi at hc
 split at hc
 ·rename_i k' hu
  cases hc
  cases a<;>cases b<;>simp only [zl7,reduceCtorEq] at hq
  split at hq
  ·rename_i hk; subst hk; cases hq
   exact run_equalIn_int w d t _ _ _ _ hu
  ·cases hq
 ·rename_i hu
  cases hc
  cases a<;>cases b<;>simp only [zl7,reduceCtorEq] at hq
  cases hq; exact run_equalIn_bool' w d t _ _ hu
 ·rename_i hu
  cases hc
  cases a<;>cases b<;>simp only [zl7,reduceCtorEq] at hq
  cases hq; exact run_equalIn_string w d t _ _ hu
 ·cases hc
theorem yhn {P:Program} {t:TypeId} {c:Nat} (hc:zpi P t=some c):zmd P t=some false:=by
 unfold zpi at hc
 unfold zmd
 split at hc<;>simp_all
theorem zt9 {P:Program} (d:Nat) (xs ys:Array Value) (w:World):∀ (fs:List Field) (cs:List Nat) (k:Nat) (q:Bool),(fs.zipIdx k).all (fun (f,i)=>f.name != "_" && f.offset == i)=true→fs.mapM (fun f=>zpi P f.type)=some cs →
  zht cs (xs.toList.drop k) (ys.toList.drop k)=some q→(Op.eqFields (d+1) xs ys fs).run P w=.ok q w
 | [],cs,k,q,_,hm,hq=>by
  simp at hm
  subst hm
  unfold zht at hq
  split at hq<;>simp_all [Op.eqFields]
 | f::fs,cs,k,q,ha,hm,hq=>by
  simp only [List.zipIdx_cons,List.all_cons,Bool.and_eq_true,bne_iff_ne,beq_iff_eq] at ha
  obtain ⟨⟨hn,ho⟩,ha⟩:=ha
  simp only [List.mapM_cons,Option.bind_eq_bind,Option.bind_eq_some_iff] at hm
  obtain ⟨c,hc,cs',hcs,hm⟩:=hm
  cases hm
  have hx:∀ (zs:Array Value) (z:Value) (r:List Value),zs.toList.drop k=z::r→zs[k]?=some z∧zs.toList.drop (k+1)=r:=fun zs z r h=>by
   have h1:zs.toList[k]?=some z:=by have := congrArg (·[0]?) h; simpa using this
   refine ⟨by simpa using h1,?_⟩
   have := congrArg (List.drop 1) h
   simpa using this
  unfold zht at hq
  split at hq
  ·rename_i heq _ _; cases heq
  ·rename_i c0 cs0 x xr y yr e1 e2 e3
   cases e1
   obtain ⟨hx1,hx2⟩:=hx xs _ _ e2
   obtain ⟨hy1,hy2⟩:=hx ys _ _ e3
   have pa:∀ (zs:Array Value) z,zs[k]?=some z→(part f.type zs f.offset).run P w=.ok z w:=fun zs z hz=>by
    simp only [part,Sem.run_bind,znn (yhn hc),Result.andThen_ok,Bool.false_eq_true,if_false,ho,hz]; rfl
   simp only [Op.eqFields,ne_eq,hn,not_false_eq_true,if_true,Sem.run_bind,pa xs _ hx1,pa ys _ hy1,Result.andThen_ok]
   split at hq
   ·rename_i hf
    rw [zwz d hc hf w]
    simp only [Result.andThen_ok,Bool.not_true,Bool.false_eq_true,if_false]
    exact zt9 d xs ys w fs cs' (k+1) q ha hcs (by rw [hx2,hy2]; exact hq)
   ·rename_i hf
    cases hq
    rw [zwz d hc hf w]
    simp
   ·cases hq
  ·cases hq
theorem ybj {P:Program} {op:BinOp} {t:TypeId} {n:List Nat} (hf:ydc P t=some n) {a b v:Value} (hv:ze0 op n a b=some v) (x y:Operand) (w:World) :
  (do eqGuard op t x y a b; binOp op t a b:Sem Value).run P w=.ok v w:=by
 unfold ydc at hf
 split at hf
 case h_2=>cases hf
 rename_i fs hu
 split at hf
 case isFalse=>cases hf
 rename_i hall
 simp only [Bool.and_eq_true,Bool.not_eq_true'] at hall
 obtain ⟨⟨hs,hg⟩,hz⟩:=hall
 unfold ze0 at hv
 split at hv
 case h_2=>cases hv
 rename_i xs ys
 have hfo:P.fieldsOf t=fs:=by simp [Program.fieldsOf,hu]
 have hu':P.underlying t=some (.struct (P.fieldsOf t)):=by rw [hfo]; exact hu
 have heq:∀ q,zht n xs.toList ys.toList=some q→(Op.equalIn 10000 t (.agg xs) (.agg ys)).run P w=.ok q w:=fun q hq=>by
  rw [run_equalIn_struct w 9999 t xs ys hu' hs,hfo]
  exact zt9 9998 xs ys w fs.toList n 0 q hz hf (by simpa using hq)
 simp only [Sem.run_bind,run_eqGuard_agg w op t x y xs ys hg,Result.andThen_ok]
 cases op<;>simp only at hv
 case eql=>
  obtain ⟨q,hq,rfl⟩:=Option.map_eq_some_iff.1 hv
  rw [run_eql_struct,heq q hq]; rfl
 case neq=>
  obtain ⟨q,hq,rfl⟩:=Option.map_eq_some_iff.1 hv
  rw [run_neq_struct,heq q hq]; rfl
 all_goals cases hv
theorem zqe {P:Program} {w:World}:∀ (fs:List Field) (pl:List (Nat×Nat)),zkw P fs=some pl →
  (fs.mapM (fun f=>(do pure (f.offset,← sizeOf f.type):Sem (Nat×Nat)))).run P w=.ok pl w
 | [],pl,h=>by simp [zkw] at h; subst h; simp
 | f::fs,pl,h=>by
  simp only [zkw,List.mapM_cons,Option.bind_eq_bind,Option.bind_eq_some_iff] at h
  obtain ⟨p,hp,ps,hps,h⟩:=h
  cases h
  obtain ⟨i,hi,rfl⟩:=Option.map_eq_some_iff.1 hp
  have ih:=zqe (P:=P) (w:=w) fs ps hps
  simp only [List.mapM_cons,Sem.run_bind,zb3 hi,Result.andThen_ok,Sem.run_pure]
  rw [ih]
  rfl
theorem zig {P:Program} {t:TypeId} {z:Array Value} (h:zkc P t=some z):∃ i v,P.info? t=some i∧i.zero=some v∧v.cells=z:=by
 unfold zkc at h
 obtain ⟨v,hv,rfl⟩:=Option.map_eq_some_iff.1 h
 obtain ⟨i,hi,hz⟩:=Option.bind_eq_some_iff.1 hv
 exact ⟨i,v,hi,hz,rfl⟩
theorem zhk {P:Program} {t:TypeId} {i:TypeInfo} {v:Value} (hi:P.info? t=some i) (hz:i.zero=some v) (w:World):(zeroValue t).run P w=.ok v w:=by
 simp [zeroValue,typeInfo,hi,hz]
theorem yd6 {P:Program} {t:TypeId} {fs:Array Field} {z:Array Value} {pl:List (Nat×Nat)} (hu:P.underlying t=some (.struct fs)) (hz:zkc P t=some z) (hp:zkw P fs.toList=some pl)
  {parts:Array (Nat×Value)} {v:Value} (hv:bdC z pl parts=some v) (w:World):(Instr.build t parts).run P w=.ok v w:=by
 obtain ⟨i,zv,hi,hzv,rfl⟩:=zig hz
 unfold bdC at hv
 obtain ⟨cs,hcs,rfl⟩:=Option.map_eq_some_iff.1 hv
 have hm:(fs.mapM (fun f=>(do pure (f.offset,← sizeOf f.type):Sem (Nat×Nat)))).run P w=.ok pl.toArray w:=by
  have h1:=zqe (P:=P) (w:=w) fs.toList pl hp
  rw [Array.mapM_eq_mapM_toList]
  simp only [Sem.run_map,h1,Result.andThen_ok]
 simp only [Instr.build,Sem.run_bind,zhk hi hzv,Result.andThen_ok,run_underlying hu,Sem.run_pure]
 simp only [Sem.run_bind,Sem.run_pure,bind_pure_comp] at hm
 simp only [bind_pure_comp,hm,Result.andThen_ok]
 have:(fun x:Nat=>pl.toArray[x]?)=fun i:Nat=>pl[i]?:=by funext x; simp
 simp only [this,hcs,Sem.run_pure]
theorem yml {P:Program} {w0 w:World} {h:Hp} (r:Rep w0 h w) {src dst e:TypeId} (hs:P.underlying src=some (.slice e)) (hdst:P.underlying dst=some .string) (hu8:P.underlying e=some (.int .u8)) {x v:Value} (hv:bsV h x v) :
  (convert src dst x).run P w=.ok v w:=by
 obtain ⟨m,ns,hx,rfl⟩:=hv
 rcases hx.2 with ⟨a0,c,rfl,rfl⟩ | ⟨b,o,c,cs,rfl,hrow⟩
 ·have:ns=[]:=by have := hx.1; simpa using this
  subst this
  cases a0 with
  | none=>
   simp [convert,run_underlying hs,run_underlying hdst,run_underlying hu8,Conv.bytesToString]
   rfl
  | some ad=>
   rw [run_convert_bytes_string w src dst e _ _ _ hs hu8 hdst,run_bytesToString w ad 0 c []]
   ·rfl
   ·have := run_loadCells_list (P:=P) w ad [] (fun j u hu=>by simp at hu)
    simpa using this
 ·rw [run_convert_bytes_string w src dst e _ _ _ hs hu8 hdst,run_bytesToString w ⟨b,o,none⟩ m c ns]
  ·congr 2
   have:∀ (ns:List Int) (s:ByteArray),ns.foldl (fun r n=>r.push (UInt8.ofNat n.toNat)) s=⟨s.data++(ns.map (fun n=>UInt8.ofNat (Int.toNat n))).toArray⟩:=by
    intro ns
    induction ns with
    | nil=>intro s; simp
    | cons n ns ih=>intro s; rw [List.foldl_cons,ih]; simp [ByteArray.push]
   rw [this]
   simp [ByteArray.empty,ByteArray.emptyWithCapacity]
   try rfl
  ·have hl:=hx.1
   have := run_loadCells_list (P:=P) w ⟨b,o,none⟩ (ns.map (Value.int .u8)) (by
    rcases hrow with h0 | ⟨hr,hn⟩
    ·subst h0
     have:ns=[]:=by simpa using hl
     subst this
     intro j u hu; simp at hu
    ·intro j u hu
     rw [Addr.add_plain]
     refine r.cell hr ?_
     rw [← hn,List.getElem?_take] at hu
     split at hu
     ·rwa [List.getElem?_drop] at hu
     ·cases hu)
   rw [show (ns.map (Value.int .u8)).length=m by simpa using hl] at this
   exact this
theorem zm2 {P:Program} {env:Env} {o:Oper} {K:zae} {E:zat} {h:Hp} (hq:zoi P o.op=true) (hd:opD P env o K E h) :
  ∃ v,K v h∧keepD P env o v h∧∀ w0 h' w,Rep w0 h' w→keepD P env o v h'→(execOp (ev env) o).run P w=.ok (.value v) w:=by
 obtain ⟨dst,op,type,pos,after,guard⟩:=o
 have val:∀ (s:Sem Value) (v:Value) (w:World),s.run P w=.ok v w→(do pure (.value (← s)):Sem Next).run P w=.ok (.value v) w:=fun s v w hs=>by
  simp only [Sem.run_bind,hs,Result.andThen_ok,Sem.run_pure]
 cases op<;>simp only [zoi,zzj,Bool.false_or,Bool.or_false,Bool.or_eq_true,reduceCtorEq] at hq<;>simp only [opD,yc6] at hd<;>simp only [keepD]
 case move x=>exact ⟨_,hd,trivial,fun _ _ w _ _=>by simp only [execOp]; rfl⟩
 case assign x=>exact ⟨_,hd,trivial,fun _ _ w _ _=>by simp only [execOp]; rfl⟩
 case pick c a b=>
  obtain ⟨v,hv,hk⟩:=hd
  refine ⟨v,hk,trivial,fun _ _ w _ _=>?_⟩
  unfold zah at hv
  split at hv
  ·rename_i t _ _ hc
   cases hv
   simp only [execOp,hc,asBool,Sem.run_bind,Sem.run_pure,Result.andThen_ok]
  ·cases hv
 case build t parts=>
  split at hd
  ·rename_i fs z hu hz
   split at hd
   ·rename_i pl hp
    obtain ⟨v,hv,hk⟩:=hd
    exact ⟨v,hk,trivial,fun _ _ w _ _=>by simp only [execOp]; exact val _ _ _ (yd6 hu hz hp hv w)⟩
   ·cases hd
  ·cases hd
 case load t x=>
  split at hd
  ·rename_i g i hg hi
   obtain ⟨v,hv,hk⟩:=hd
   refine ⟨v,hk,hv,fun _ h' w r hv'=>?_⟩
   simp only [execOp]
   exact val _ _ _ (zoc r hg hi hv')
  ·cases hd
 case nilCheck x=>
  obtain ⟨v,hv,hk⟩:=hd
  refine ⟨v,hk,trivial,fun _ _ w _ _=>?_⟩
  simp only [execOp]
  unfold zan at hv
  split at hv<;>first | (cases hv; done) | skip
  rename_i h1 h2 h3 h4
  cases hv
  split<;>first | (rename_i hx; exact (h1 hx).elim) | (rename_i hx; exact (h2 hx).elim) | (rename_i hx; exact (h3 hx).elim) | (rename_i hx; exact (h4 _ _ _ hx).elim) | rfl
 case binOp op t x y yt=>
  split at hd
  ·rename_i n hf
   obtain ⟨v,hv,hk⟩:=hd
   exact ⟨v,hk,trivial,fun _ _ w _ _=>by simp only [execOp]; exact val _ _ _ (ybj hf hv x y w)⟩
  ·obtain ⟨v,hv,hk⟩:=hd
   refine ⟨v,hk,trivial,fun _ _ w _ _=>?_⟩
   simp only [execOp]
   refine val _ _ _ ?_
   have hg:=yft hv
   simp only [Sem.run_bind,yfn (P:=P) (op:=op) (t:=t) (x:=x) (y:=y) hg.1 (fun xs ys e1 e2=>(hg.2 xs ys e1 e2).elim) w,Result.andThen_ok]
   exact yim trivial hv w
 case unOp op t x=>
  obtain ⟨v,hv,hk⟩:=hd
  refine ⟨v,hk,trivial,fun _ _ w _ _=>?_⟩
  simp only [execOp]
  refine val _ _ _ ?_
  unfold unV at hv
  generalize ev env x=u at *
  split at hv
  ·split at hv<;>cases hv
   rfl
  ·split at hv
   ·cases hv; rfl
   ·simp only [zg0,Option.some.injEq] at hv
    subst hv; rfl
   ·cases hv
  ·cases hv
 case convert src dst x=>
  split at hd
  ·rename_i k0 k hs hdst
   try simp only [hs,hdst]
   obtain ⟨v,hv,hk⟩:=hd
   refine ⟨v,hk,trivial,fun _ _ w _ _=>?_⟩
   simp only [execOp]
   refine val _ _ _ ?_
   unfold cvV at hv
   split at hv
   ·rename_i hx
    cases hv
    simp only [convert,Sem.run_bind,run_underlying hs,run_underlying hdst,Result.andThen_ok,hx,Conv.intToInt]; rfl
   ·cases hv
  ·rename_i hs hdst
   try simp only [hs,hdst]
   split at hd
   ·rename_i s hx
    refine ⟨_,hd,trivial,fun _ _ w _ _=>?_⟩
    simp only [execOp]
    refine val _ _ _ ?_
    simp only [convert,Sem.run_bind,run_underlying hs,run_underlying hdst,Result.andThen_ok,hx]; rfl
   ·cases hd
  ·rename_i e hs hdst
   try simp only [hs,hdst]
   split at hd
   ·rename_i hu8
    obtain ⟨v,hv,hk⟩:=hd
    refine ⟨v,hk,hv,fun _ h' w r hv'=>?_⟩
    simp only [execOp]
    refine val _ _ _ ?_
    exact yml r hs hdst hu8 hv'
   ·cases hd
  ·rename_i hs hdst; simp [hs,hdst] at hq
  ·rename_i hs hdst; simp [hs,hdst] at hq
  ·cases hd
 case makeInterface t x=>
  split at hd
  ·cases hd
  ·rename_i d hni hu
   obtain ⟨v,hv,hk⟩:=hd
   refine ⟨v,hk,trivial,fun _ _ w _ _=>?_⟩
   simp only [execOp]
   refine val _ _ _ ?_
   simp only [yb6,Option.some.injEq] at hv
   subst hv
   simp only [Instr.makeInterface,Sem.run_bind,run_underlying hu,Result.andThen_ok]
   rfl
  ·cases hd
 case makeFunc fn first captured=>exact ⟨_,hd,trivial,fun _ _ w _ _=>by simp only [execOp,Instr.makeFunc]; rfl⟩
 case slice t x lo hi mx=>
  split at hd
  ·rename_i e hu
   split at hd
   ·rename_i i hi'
    obtain ⟨v,hv,hk⟩:=hd
    refine ⟨v,hk,trivial,fun _ _ w _ _=>?_⟩
    simp only [execOp]
    refine val _ _ _ ?_
    have hv':=hv
    unfold slV at hv
    split at hv
    ·rename_i a len cap hx; rw [hx] at hv' ⊢; exact ydp hu hi' hv' w
    ·cases hv
   ·cases hd
  ·rename_i hu
   obtain ⟨v,hv,hk⟩:=hd
   refine ⟨v,hk,trivial,fun _ _ w _ _=>?_⟩
   simp only [execOp]
   refine val _ _ _ ?_
   have hv':=hv
   unfold slT at hv
   split at hv
   ·rename_i s hx; rw [hx] at hv' ⊢; exact zvu hu hv' w
   ·cases hv
  ·rename_i n e hu
   split at hd
   ·rename_i i hi'
    obtain ⟨v,hv,hk⟩:=hd
    refine ⟨v,hk,trivial,fun _ _ w _ _=>?_⟩
    simp only [execOp]
    refine val _ _ _ ?_
    generalize hx:ev env x=xv at hv
    cases xv<;>first | (simp [zqu,slV,undef] at hv; done) | skip
    rename_i p
    cases p with
    | none=>simp [zqu,slV,undef] at hv
    | some ad=>exact zvw hu hi' hv w
   ·cases hd
  ·cases hd
 case fieldAddr s x f=>
  split at hd
  ·rename_i fs hu
   split at hd
   ·rename_i fd hf
    split at hd
    ·rename_i i hi
     split at hd
     ·cases hd
     ·rename_i hz
      obtain ⟨v,hv,hk⟩:=hd
      exact ⟨v,hk,trivial,fun _ _ w _ _=>by simp only [execOp]; exact val _ _ _ (zzi hu hf hi hz hv w)⟩
    ·cases hd
   ·cases hd
  ·cases hd
 case field t x f=>
  split at hd
  ·rename_i fs hu
   split at hd
   ·rename_i fd hf
    split at hd
    ·rename_i g i hg hi
     obtain ⟨v,hv,hk⟩:=hd
     refine ⟨v,hk,trivial,fun _ _ w _ _=>?_⟩
     simp only [execOp]
     refine val _ _ _ ?_
     have hv':=hv
     unfold fdV at hv
     split at hv
     ·rename_i cs hx
      rw [hx] at hv' ⊢
      simp only [Instr.field,Sem.run_bind,run_underlying hu,Result.andThen_ok,hf,asAgg,Sem.run_pure]
      exact yh4 hg hi hv' w
     ·cases hv
    ·cases hd
   ·cases hd
  ·cases hd
 case indexAddr t x ix=>
  split at hd
  ·rename_i e hu
   split at hd
   ·rename_i i hi
    obtain ⟨v,hv,hk⟩:=hd
    exact ⟨v,hk,trivial,fun _ _ w _ _=>by simp only [execOp]; exact val _ _ _ (zpb hu hi hv w)⟩
   ·cases hd
  ·rename_i n e hu
   split at hd
   ·rename_i i hi
    obtain ⟨v,hv,hk⟩:=hd
    exact ⟨v,hk,trivial,fun _ _ w _ _=>by simp only [execOp]; exact val _ _ _ (zov hu hi hv w)⟩
   ·cases hd
  ·cases hd
 case index t x ix=>
  split at hd
  ·rename_i hu
   obtain ⟨v,hv,hk⟩:=hd
   exact ⟨v,hk,trivial,fun _ _ w _ _=>by simp only [execOp]; exact val _ _ _ (zpy hu hv w)⟩
  ·cases hd
 case extract t i=>
  obtain ⟨v,hv,hk⟩:=hd
  refine ⟨v,hk,trivial,fun _ _ w _ _=>?_⟩
  simp only [execOp]
  refine val _ _ _ ?_
  unfold exV at hv
  split at hv
  ·rename_i vs hx
   simp only [hx,Instr.extract,hv]; rfl
  ·cases hv
 case call c=>
  obtain ⟨callee,args,ats⟩:=c
  cases callee with
  | value f=>simp at hq
  | invoke r m=>simp at hq
  | builtin b=>
   cases b<;>simp at hq
   all_goals simp only at hd
   case len=>
    split at hd
    case h_1 t x hb ha hx=>
     have ea:args.map (ev env) = #[x]:=by rw [← Array.toList_inj]; exact hx
     have et:ats = #[t]:=by rw [← Array.toList_inj]; exact ha
     split at hd
     ·rename_i e hu
      obtain ⟨v,hv,hk⟩:=hd
      refine ⟨v,hk,trivial,fun _ _ w _ _=>?_⟩
      cases x<;>simp [za9] at hv
      subst hv
      simp [execOp,resolve,invoke,builtin,ea,et,Builtin.len_,run_underlying hu,goInt]
     ·rename_i hu
      obtain ⟨v,hv,hk⟩:=hd
      refine ⟨v,hk,trivial,fun _ _ w _ _=>?_⟩
      cases x<;>simp [ylu] at hv
      subst hv
      simp [execOp,resolve,invoke,builtin,ea,et,Builtin.len_,run_underlying hu,goInt]
     ·cases hd
    all_goals first | (cases hd; done) | (rename_i hb _ _; cases hb; done) | (rename_i hb _; cases hb; done)
   case cap=>
    split at hd
    case h_5 t x hb ha hx=>
     have ea:args.map (ev env) = #[x]:=by rw [← Array.toList_inj]; exact hx
     have et:ats = #[t]:=by rw [← Array.toList_inj]; exact ha
     split at hd
     ·rename_i e hu
      obtain ⟨v,hv,hk⟩:=hd
      refine ⟨v,hk,trivial,fun _ _ w _ _=>?_⟩
      cases x<;>simp [zr0] at hv
      subst hv
      simp [execOp,resolve,invoke,builtin,ea,et,Builtin.cap_,run_underlying hu,goInt]
     ·cases hd
    all_goals first | (cases hd; done) | (rename_i hb _ _; cases hb; done) | (rename_i hb _; cases hb; done)
   case min=>
    split at hd
    case h_6 ats x y ha hx=>
     have ea:args.map (ev env) = #[x,y]:=by rw [← Array.toList_inj]; exact hx
     obtain ⟨v,hv,hk⟩:=hd
     refine ⟨v,hk,trivial,fun _ _ w _ _=>?_⟩
     unfold mm at hv
     split at hv
     ·cases hv
      simp [execOp,resolve,invoke,builtin,ea,Builtin.min_,Builtin.min2]
     ·cases hv
    all_goals first | (cases hd; done) | (rename_i hb _ _; cases hb; done) | (rename_i hb _; cases hb; done)
   case max=>
    split at hd
    case h_7 ats x y ha hx=>
     have ea:args.map (ev env) = #[x,y]:=by rw [← Array.toList_inj]; exact hx
     obtain ⟨v,hv,hk⟩:=hd
     refine ⟨v,hk,trivial,fun _ _ w _ _=>?_⟩
     unfold mm at hv
     split at hv
     ·cases hv
      simp [execOp,resolve,invoke,builtin,ea,Builtin.max_,Builtin.max2]
     ·cases hv
    all_goals first | (cases hd; done) | (rename_i hb _ _; cases hb; done) | (rename_i hb _; cases hb; done)
def ytg (P:Program) (w0:World) (env:Env) (o:Oper) (K:zae) (w:World):Prop :=
 ∃ v w' h',((execOp (ev env) o).run P w=.ok (.value v) w'∨((execOp (ev env) o).run P w=.ok .skip w'∧v=undef))∧Rep w0 h' w'∧K v h'
theorem zqi {P:Program} {w0 w:World} {h:Hp} (r:Rep w0 h w) (t:TypeId) (cs:Array Value):∃ b,h.nx≤b∧(newRow t cs).run P w=.ok ⟨b,0,none⟩ (w.alloc (.cells cs t))∧Rep w0 (h.new b (.cells t cs.toList cs.size)) (w.alloc (.cells cs t)):=by
 refine ⟨w.heap.size,r.nx,?_,?_⟩
 ·simp [newRow]
 ·exact r.alloc (.cells cs t) (some (.cells t cs.toList cs.size)) ⟨cs,rfl,rfl,List.prefix_refl _⟩
theorem yap {P:Program} {w0 w:World} {h:Hp} {K:zae} (r:Rep w0 h w) {t:TypeId} {v:Value} (hd:nw t v.cells.toList K h) :
  ∃ u w' h',(do pure (.pointer (some (← newVar t v))):Sem Value).run P w=.ok u w'∧Rep w0 h' w'∧K u h':=by
 obtain ⟨b,hb,hr,hrep⟩:=zqi (P:=P) r t v.cells
 refine ⟨_,_,_,?_,hrep,by have := hd b hb; simpa using this⟩
 simp only [newVar,Sem.run_bind,hr,Result.andThen_ok,Sem.run_pure]
theorem zqp {w0 w:World} {h:Hp} (r:Rep w0 h w) {sz m:Nat} {b o c:Nat} {cs news:List Value} (hr:h.row b cs) (hn:(cs.drop o).take (m*sz)=news) :
  ∀ j u,news[j]?=some u→w.cell? ((⟨b,o,none⟩:Addr).add j)=some u:=by
 intro j u hu
 rw [Addr.add_plain]
 refine r.cell hr ?_
 rw [← hn,List.getElem?_take] at hu
 split at hu
 ·rwa [List.getElem?_drop] at hu
 ·cases hu
theorem yef {w0 w:World} {h:Hp} (r:Rep w0 h w) {e:TypeId} {sz n:Nat} {s:Value} {cs:List Value} (ho:ylw h e sz s n cs):w.ownsRow w0.heap.size e sz s n cs:=by
 obtain ⟨hl,ho⟩:=ho
 refine ⟨hl,?_⟩
 rcases ho with ho | ⟨b,c,rfl,hnc,hcm,hM⟩
 ·exact .inl ho
 ·obtain ⟨rest,hM⟩:=hM
  obtain ⟨h1,h2,h3,arr,h4,h5,h6⟩:=r.cl b e _ _ hM
  exact .inr ⟨b,c,arr,rfl,h2,h4,hnc,hcm,h5,by rw [← hl]; exact (List.prefix_iff_eq_take.1 ((List.prefix_append _ _).trans h6)).symm⟩
theorem zqf {M:Nat→Option zak} {s:Value} {k:Nat} {c:zak} (h:zgg M s k=some c):M k=some c:=by
 unfold zgg at h
 cases ho:s.ownBlock with
 | none=>rw [ho] at h; exact h
 | some b=>
  rw [ho] at h
  simp only [upd] at h
  split at h
  ·cases h
  ·exact h
theorem ya4 {P:Program} {w w':World} {base:Nat} {t ty e:TypeId} {i:TypeInfo} {z v' s:Value} (ht:P.underlying t=some (.slice e)) (hi:P.info? e=some i) (hz:i.zero=some z) (hzs:z.cells.size=i.size) (hsz:0<i.size)
  {n m c:Nat} {cs news:List Value} {a:Addr} (how:w.ownsRow base e i.size s n cs) (hl:news.length=m*i.size) (hnews:∀ j u,news[j]?=some u→w.cell? (a.add j)=some u) (h1:∀ u∈news,u.oneCell'=true)
  (hmx:n+m≤maxLen) (hby:(n+m)*i.bytes≤140737488355328) (hrun:(Builtin.append_ #[t,t] ty #[s,.slice (some a) m c]).run P w=.ok v' w'):w.drawn≤w'.drawn:=by
 have hsmall:n+m≤9223372036854775807:=by simp only [maxLen] at hmx; omega
 have one:∀ (o:Obj),w.drawn≤(w.drew.alloc o).drawn:=fun o=>Nat.le_succ _
 rcases how.2 with ⟨rfl,rfl⟩ | ⟨g,cap,cur,rfl,hbg,hg,hnc,hcm,hcs,htake⟩
 ·by_cases hm:m=0
  ·subst hm
   have hn:news=[]:=List.eq_nil_of_length_eq_zero (by simpa using hl)
   subst hn
   have hr:(Builtin.append_ #[t,t] ty #[.slice none 0 0,.slice (some a) 0 c]).run P w=.ok (.slice none 0 0) w:=by
    simp [Builtin.append_,run_underlying ht,sizeOf,typeInfo,hi,Builtin.lenOf,Builtin.firstCells,loadCells,loadCellsFrom]
   rw [hr] at hrun
   cases hrun
   exact Nat.le_refl _
  ·have hb:m*i.bytes≤140737488355328:=by simpa using hby
   rw [run_append_nil (P:=P) w t ty e i z ht hi hz a m c news hl hnews (by omega) (by omega) (by omega)] at hrun
   cases hrun
   exact one _
 ·by_cases hroom:n+m≤cap
  ·have hfit:n*i.size+news.length≤cur.size:=by rw [hl,hcs,← Nat.add_mul]; exact Nat.mul_le_mul_right _ hroom
   rw [run_append_room (P:=P) w t ty e i ht hi g n cap cur hg a m c news hl hnews h1 hroom hfit] at hrun
   cases hrun
   exact Nat.le_refl _
  ·rw [run_append_grow (P:=P) w t ty e i z ht hi hz ⟨g,0,none⟩ n cap cs how.1 (how.cells (g:=g) rfl) a m c news hl hnews (by omega) (by omega) (growslice_fits (by omega) hby)] at hrun
   cases hrun
   exact one _
theorem zxa {P:Program} {w0 w:World} {h:Hp} {K:zae} (r:Rep w0 h w) {t ty e:TypeId} {i:TypeInfo} {z:Value} (ht:P.underlying t=some (.slice e)) (hi:P.info? e=some i) (hz:i.zero=some z) (hzs:z.cells.size=i.size) (hsz:0<i.size)
  {s x:Value} (hd:app e i.size i.bytes s x K h):∃ v w' h',(Builtin.append_ #[t,t] ty #[s,x]).run P w=.ok v w'∧Rep w0 h' w'∧K v h':=by
 obtain ⟨n,cs,m,news,hs,hx,h1,hby,hmx,hk1,hk2⟩:=hd
 have how:=yef r hs
 have hnil:∀ c,x=.slice none 0 c→m=0→∃ v w' h',(Builtin.append_ #[t,t] ty #[s,x]).run P w=.ok v w'∧Rep w0 h' w'∧K v h':=by
  rintro c rfl rfl
  have hnews:news=[]:=List.eq_nil_of_length_eq_zero (by simpa using hx.1)
  subst hnews
  rcases hs.2 with ⟨rfl,rfl⟩ | ⟨b,c',rfl,hnc,hcm,hM⟩
  ·refine ⟨_,w,h,?_,r,hk1 rfl rfl⟩
   simp [Builtin.append_,run_underlying ht,sizeOf,typeInfo,hi,Builtin.lenOf,Builtin.firstCells]
  ·obtain ⟨rest,hM⟩:=hM
   refine ⟨_,w,_,?_,?_,hk2 (Or.inl (by simp)) b c' (Or.inr rfl) (by simpa using hnc) hcm⟩
   ·simp [Builtin.append_,run_underlying ht,sizeOf,typeInfo,hi,Builtin.lenOf,Builtin.firstCells,hnc,storeCells]
   ·obtain ⟨h1,h2,h3,arr,h4,h5,h6⟩:=r.cl b e _ _ hM
    have e1:h.moved (.slice (some ⟨b,0,none⟩) n c') b (.cells e (cs++[]) (c'*i.size))=⟨h.F,upd h.M b (some (.cells e cs (c'*i.size))),h.nx⟩:=by
     have:upd (upd h.M b none) b (some (.cells e cs (c'*i.size)))=upd h.M b (some (.cells e cs (c'*i.size))):=by
      funext k
      simp only [upd]
      split<;>rfl
     simp only [Hp.moved,zgg,Value.ownBlock,List.append_nil,this,Nat.max_eq_left (show b+1≤h.nx from h1)]
    rw [e1]
    exact r.turn (w':=w) h2 h3 rfl rfl rfl (Nat.le_refl _) (Array.getElem?_eq_some_iff.1 h4).1 (fun _ _ _=>rfl) (some (.cells e cs (c'*i.size))) h.nx (Nat.le_refl _) r.nx h1 ⟨arr,h4,h5,(List.prefix_append _ _).trans h6⟩
 have hsome:∀ a c,x=.slice (some a) m c→(∀ j u,news[j]?=some u→w.cell? (a.add j)=some u)→∃ v w' h',(Builtin.append_ #[t,t] ty #[s,x]).run P w=.ok v w'∧Rep w0 h' w'∧K v h':=by
  rintro a c rfl hcell
  obtain ⟨v',w',hrun,hown',hgr,hiff,hat⟩:=run_append_own_at w w0.heap.size t ty e i z i.size i.bytes ht hi hz rfl rfl hzs hsz s n cs how a m c news hx.1 hcell h1 hmx hby (Nat.le_trans r.base r.nx)
  have hdr:w.drawn≤w'.drawn:=ya4 ht hi hz hzs hsz how hx.1 hcell h1 hmx hby hrun
  by_cases hn0:s=.slice none 0 0∧m=0
  ·have := hiff.2 hn0
   subst this
   refine ⟨_,w',h,hrun,?_,hk1 hn0.1 hn0.2⟩
   have hr2:(Builtin.append_ #[t,t] ty #[s,.slice (some a) m c]).run P w=.ok (.slice none 0 0) w:=by
    rw [hn0.1,hn0.2]
    simp [Builtin.append_,run_underlying ht,sizeOf,typeInfo,hi,Builtin.lenOf,Builtin.firstCells,loadCells,loadCellsFrom]
   rw [hr2] at hrun
   cases hrun
   exact r
  ·have hne:¬ v'=.slice none 0 0:=fun e=>hn0 (hiff.1 e)
   obtain ⟨hlen',hform⟩:=hown'
   rcases hform with ⟨e,_⟩ | ⟨g,cap,cur,rfl,hbg,hg,hnc,hcm,hcs,htake⟩
   ·exact (hne e).elim
   have hpre:(cs++news) <+: cur.toList:=by rw [← htake]; exact List.take_prefix _ _
   have hatg:s.ownBlock=some g∨g=w.heap.size:=by
    rcases hat with h | h
    ·left; simpa [Value.ownBlock] using h.symm
    ·right; simpa [Value.ownBlock] using h
   have hd2:s≠.slice none 0 0∨m≠0:=by
    by_cases h0:s=.slice none 0 0
    ·exact Or.inr (fun h=>hn0 ⟨h0,h⟩)
    ·exact Or.inl h0
   refine ⟨_,w',_,hrun,?_,hk2 hd2 g cap (by rcases hatg with h | h; exact Or.inr h; exact Or.inl (h ▸ r.nx)) hnc hcm⟩
   have hgF:h.F g=none:=by
    rcases hatg with ho | ho
    ·rcases hs.2 with ⟨rfl,_⟩ | ⟨b,c',rfl,_,_,rest,hM⟩
     ·simp [Value.ownBlock] at ho
     ·simp [Value.ownBlock] at ho
      subst ho
      exact (r.cl b e _ _ hM).2.2.1
    ·cases hF:h.F g with
     | none=>rfl
     | some q=>have := (r.fr g q hF).1; have := r.nx; omega
   have hglt:g<w'.heap.size:=(Array.getElem?_eq_some_iff.1 hg).1
   have r1:Rep w0 ⟨h.F,zgg h.M s,h.nx⟩ w:=by
    refine ⟨r.below,r.dr,r.nx,r.base,r.fr,?_,?_⟩
    ·intro k e' c2 tot hk
     exact r.cl k e' c2 tot (zqf hk)
    ·intro k o hk
     exact r.ob k o (zqf hk)
   have hold:∀ k,some k=s.ownBlock→(zgg h.M s) k=none:=by
    intro k hk
    rcases hs.2 with ⟨rfl,_⟩ | ⟨b,c',rfl,_,_,rest,hM⟩
    ·simp [Value.ownBlock] at hk
    ·simp [Value.ownBlock] at hk
     subst hk
     simp [zgg,Value.ownBlock,upd]
   have hoF:∀ k,some k=s.ownBlock→h.F k=none:=by
    intro k hk
    rcases hs.2 with ⟨rfl,_⟩ | ⟨b,c',rfl,_,_,rest,hM⟩
    ·simp [Value.ownBlock] at hk
    ·simp [Value.ownBlock] at hk
     subst hk
     exact (r.cl _ e _ _ hM).2.2.1
   have hob:∀ k,some k=s.ownBlock→w0.heap.size≤k:=fun k hk=>(how.lt k hk.symm).1
   have hgb:w0.heap.size≤g:=hbg
   have r2:Rep w0 ⟨h.F,zgg h.M s,h.nx⟩ w':=by
    refine ⟨r1.below.trans ⟨hgr.os,hgr.tape,hgr.output,hgr.size,fun k hk=>hgr.block k (Nat.lt_of_lt_of_le hk r.below.size) (fun he=>by have := hob k he; omega)⟩,Nat.le_trans r.dr hdr,Nat.le_trans r.nx hgr.size,r.base,?_,?_,?_⟩
    ·intro k c2 hk
     obtain ⟨a1,arr,e',z',a2,a3⟩:=r1.fr k c2 hk
     exact ⟨a1,arr,e',z',(hgr.block k (Nat.lt_of_lt_of_le a1 r.nx) (fun he=>by have := hoF k he; simp only at hk; rw [this] at hk; cases hk)).trans a2,a3⟩
    ·intro k e' c2 tot hk
     obtain ⟨a1,a2,a3,arr,a4,a5⟩:=r1.cl k e' c2 tot hk
     exact ⟨a1,a2,a3,arr,(hgr.block k (Nat.lt_of_lt_of_le a1 r.nx) (fun he=>by have := hold k he; simp only at hk; rw [this] at hk; cases hk)).trans a4,a5⟩
    ·intro k o hk
     obtain ⟨a1,a2,a3,a4,a5⟩:=r1.ob k o hk
     exact ⟨a1,a2,a3,(hgr.block k (Nat.lt_of_lt_of_le a1 r.nx) (fun he=>by have := hold k he; simp only at hk; rw [this] at hk; cases hk)).trans a4,a5⟩
   have := r2.turn (w':=w') (b:=g) hgb hgF rfl rfl rfl (Nat.le_refl _) hglt (fun k _ _=>rfl) (some (.cells e (cs++news) (cap*i.size))) (max h.nx (g+1)) (Nat.le_max_left _ _) (by have := r2.nx; simp only at this; omega) (by omega) ⟨cur,hg,hcs,hpre⟩
   exact this
 rcases hx.2 with ⟨a0,c,rfl,rfl⟩ | ⟨b,o,c,cs2,rfl,hrow⟩
 ·cases a0 with
  | none=>exact hnil c rfl rfl
  | some ad=>
   have hnews:news=[]:=List.eq_nil_of_length_eq_zero (by simpa using hx.1)
   subst hnews
   exact hsome ad c rfl (fun j u hu=>by simp at hu)
 ·refine hsome ⟨b,o,none⟩ c rfl ?_
  rcases hrow with hm0 | ⟨hr2,hn2⟩
  ·subst hm0
   have hnews:news=[]:=List.eq_nil_of_length_eq_zero (by simpa using hx.1)
   subst hnews
   intro j u hu; simp at hu
  ·exact zqp (c:=c) r hr2 hn2
theorem yhe {P:Program} {w0 w:World} {h:Hp} (r:Rep w0 h w) {t:TypeId} {i:TypeInfo} (hi:P.info? t=some i) {p v:Value} {K:zae} (hd:st i.size p v K h) :
  ∃ w' h',(Instr.storeAt t p v).run P w=.ok () w'∧Rep w0 h' w'∧K undef h':=by
 obtain ⟨hs,b,o,e,cs,tot,rfl,hM,h1,hl,hk⟩:=hd
 obtain ⟨w',hw',hr'⟩:=Rep.storeCells (P:=P) v.cells.toList h w cs o 0 r hM (by simpa using hl) h1
 refine ⟨w',_,?_,hr',by simpa using hk⟩
 simp only [Instr.storeAt,Instr.sureAddr,Sem.run_bind,Sem.run_pure,Result.andThen_ok,storeVar,zb3 hi,ne_eq,hs,not_true_eq_false,if_false]
 exact hw'
theorem zi5 {P:Program} {w0 w:World} {h:Hp} (r:Rep w0 h w) {sz m k:Nat} {x:Value} {news:List Value} (hx:zjv h sz x m news) (hk:k≤m) :
  (Builtin.firstCells sz k x).run P w=.ok (news.take (k*sz)).toArray w:=by
 obtain ⟨hl,hx⟩:=hx
 rcases hx with ⟨a,c,rfl,rfl⟩ | ⟨b,o,c,cs,rfl,hrow⟩
 ·have:news=[]:=List.eq_nil_of_length_eq_zero (by simpa using hl)
  subst this
  obtain rfl:k=0:=by omega
  cases a with
  | none=>simp [Builtin.firstCells]
  | some ad=>
   have := run_loadCells_list (P:=P) w ad [] (fun j u hu=>by simp at hu)
   simp only [List.length_nil] at this
   simp only [Builtin.firstCells,Nat.zero_mul,List.take_nil,this]
 ·have hkl:(news.take (k*sz)).length=k*sz:=by rw [List.length_take,hl]; exact Nat.min_eq_left (Nat.mul_le_mul_right _ hk)
  have := run_loadCells_list (P:=P) w ⟨b,o,none⟩ (news.take (k*sz)) (fun j u hu=>by
   rw [List.getElem?_take] at hu
   split at hu
   ·rcases hrow with h0 | ⟨hr,hn⟩
    ·subst h0
     have:news=[]:=List.eq_nil_of_length_eq_zero (by simpa using hl)
     subst this
     simp at hu
    ·exact zqp (c:=c) r hr hn j u hu
   ·cases hu)
  rw [hkl] at this
  simp only [Builtin.firstCells,this]
theorem ygb {P:Program} {w0 w:World} {h:Hp} {K:zae} (r:Rep w0 h w) {t u ty e:TypeId} {i:TypeInfo} (ht:P.underlying t=some (.slice e)) (hi:P.info? e=some i) {d s:Value} (hd:cpy i.size d s K h) :
  ∃ v w' h',(Builtin.copy_ #[t,u] ty #[d,s]).run P w=.ok v w'∧Rep w0 h' w'∧K v h':=by
 obtain ⟨b,o,dn,dc,e',cs,tot,m,news,rfl,hM,hs,h1,hl,hk⟩:=hd
 have hf:=zi5 (P:=P) r hs (Nat.min_le_left m dn)
 have hlen:(news.take (min m dn*i.size)).length=min m dn*i.size:=by
  rw [List.length_take,hs.1]; exact Nat.min_eq_left (Nat.mul_le_mul_right _ (Nat.min_le_left m dn))
 obtain ⟨w',hw',hr'⟩:=Rep.storeCells (P:=P) (news.take (min m dn*i.size)) h w cs o 0 r hM (by rw [hlen]; simpa using hl) (fun v hv=>h1 v hv)
 refine ⟨_,w',_,?_,hr',by simpa using hk⟩
 have hm:(Builtin.lenOf s).run P w=.ok m w:=by
  rcases hs.2 with ⟨_,c,rfl,rfl⟩ | ⟨b,o,c,cs,rfl,_⟩<;>simp [Builtin.lenOf]
 have hmin:Nat.min m dn=min m dn:=rfl
 simp [Builtin.copy_,run_underlying ht,hm,zb3 hi,hmin,hf,hw',goInt]
theorem zrb (n:Nat) (z:Array Value) (hp:0<z.size) (m:Nat) (hm:n≤m):(List.replicate n z.toList).flatten <+: (madeCells z (m*z.size)).toList:=by
 rw [List.prefix_iff_eq_take]
 have hl:(List.replicate n z.toList).flatten.length=n*z.size:=by simp
 rw [hl]
 apply List.ext_getElem?
 intro k
 have:∀ (m:Nat) (l:List Value) (k:Nat),0<l.length→k<m*l.length→((List.replicate m l).flatten)[k]?=l[k%l.length]?:=by
  intro m
  induction m with
  | zero=>intro l k _ h; simp at h
  | succ m ih=>
   intro l k hl h
   rw [List.replicate_succ,List.flatten_cons]
   by_cases h1:k<l.length
   ·rw [List.getElem?_append_left h1,Nat.mod_eq_of_lt h1]
   ·rw [List.getElem?_append_right (by omega),ih l (k - l.length) hl (by rw [Nat.succ_mul] at h; omega)]
    rw [← Nat.mod_eq_sub_mod (by omega)]
 by_cases hkl:k<n*z.size
 ·rw [this n z.toList k (by simpa using hp) (by simpa using hkl),List.getElem?_take,if_pos hkl]
  have hmod:k%z.size<z.size:=Nat.mod_lt _ hp
  have hk2:k<m*z.size:=Nat.lt_of_lt_of_le hkl (Nat.mul_le_mul_right _ hm)
  simp [madeCells,hk2,hmod]
 ·rw [List.getElem?_eq_none (by rw [hl]; omega),List.getElem?_take,if_neg hkl]
theorem zy1 {P:Program} {t u ty e e':TypeId} {i:TypeInfo} (ht:P.underlying t=some (.slice e)) (hi:P.info? e=some i) (hu:P.underlying u=some (.slice e')) (s x:Value) (w:World):(Builtin.append_ #[t,u] ty #[s,x]).run P w=(Builtin.append_ #[t,t] ty #[s,x]).run P w:=by
 cases s<;>simp [Builtin.append_,run_underlying ht,run_underlying hu,zb3 hi]
theorem zqt {P:Program} {w0 w:World} {h:Hp} {K:zae} (r:Rep w0 h w) {t ty e:TypeId} {i:TypeInfo} (ht:P.underlying t=some (.slice e)) (hi:P.info? e=some i)
  {s x:Value} (hd:yjw e i.size s x K h):∃ v w' h',(Builtin.append_ #[t,t] ty #[s,x]).run P w=.ok v w'∧Rep w0 h' w'∧K v h':=by
 obtain ⟨b,n,c,cs,m,news,rfl,hM,hx,h1,hnc,hl,hk⟩:=hd
 have hf:=zi5 (P:=P) r hx (Nat.le_refl m)
 rw [← hx.1,List.take_length] at hf
 obtain ⟨w',hw',hr'⟩:=Rep.storeCells (P:=P) news h w cs (n*i.size) 0 r hM (by rw [hx.1,Nat.add_zero,← Nat.add_mul]; exact hl) h1
 refine ⟨_,w',_,?_,hr',by simpa using hk⟩
 have hm:(Builtin.lenOf x).run P w=.ok m w:=by
  rcases hx.2 with ⟨_,c,rfl,rfl⟩ | ⟨b,o,c,cs,rfl,_⟩<;>simp [Builtin.lenOf]
 simp [Builtin.append_,run_underlying ht,zb3 hi,hm,hnc,hf,Addr.add_plain,hw']
theorem ycu {P:Program} {w0 w:World} {h:Hp} {K:zae} (r:Rep w0 h w) {t tn ty e:TypeId} {kn:IntKind} {i:TypeInfo} {z:Value} (ht:P.underlying t=some (.slice e)) (htn:P.underlying tn=some (.int kn)) (hi:P.info? e=some i) (hz:i.zero=some z) (hzs:z.cells.size=i.size) (hsz:0<i.size)
  {s x:Value} (hd:yd7 e z.cells.toList i.size i.bytes s x K h):∃ v w' h',(Builtin.append_ #[t,tn] ty #[s,x]).run P w=.ok v w'∧Rep w0 h' w'∧K v h':=by
 obtain ⟨a,n,c,olds,m,k,rfl,rfl,hrd,hnc,hc,hby,hmx,hk⟩:=hd
 have hmx':=hmx
 simp only [maxLen] at hmx'
 have hw:IntKind.i64.wrap (m:Int)=m:=by rw [IntKind.wrap_i64]; omega
 have hge:=grownCap_ge w (n+m) c e
 have hcm:grownCap w (n+m) c e≤maxLen:=grownCap_le_maxLen w (n+m) c e hmx
 have hfits:=Nat.not_lt.2 (growslice_fits (need:=n+m) (old:=c) hc hby)
 have holn:olds.length=n*i.size:=hrd.1
 have htk:olds.take (n*i.size)=olds:=List.take_of_length_le (by omega)
 have hzc:(Builtin.zeroCells z.cells m).toList=(List.replicate m z.cells.toList).flatten:=by
  have h:=zrb m z.cells (by omega) m (Nat.le_refl m)
  have h2:(madeCells z.cells (m*z.cells.size)).toList.length=(List.replicate m z.cells.toList).flatten.length:=by simp [size_madeCells]
  exact (List.IsPrefix.eq_of_length h h2.symm).symm
 have hneg:¬ ((m:Int)<0):=by omega
 have hbm:¬ (281474976710656<(m:Int)*(i.bytes:Int)):=by
  have:((m*i.bytes:Nat):Int)≤140737488355328:=by
   have h1:m*i.bytes≤(n+m)*i.bytes:=Nat.mul_le_mul_right _ (Nat.le_add_left _ _)
   omega
  rw [Int.natCast_mul] at this
  omega
 have hn:¬ (n+m≤c):=by omega
 have h63':¬ (9223372036854775807<((n:Int)+(m:Int))):=by omega
 have h48':¬ (281474976710656<Builtin.nextslicecap (n+m) c*i.bytes):=by
  have := growslice_fits (need:=n+m) (old:=c) (bytes:=i.bytes) (by omega) hby
  omega
 have hfd:(Builtin.firstCells i.size n (.slice a n c)).run P w.drew=.ok olds.toArray w.drew:=by
  have := zi5 (P:=P) (sz:=i.size) (m:=n) (k:=n) (x:=.slice a n c) (news:=olds) r.drew hrd (Nat.le_refl _)
  rwa [htk] at this
 have hrun:(Builtin.append_ #[t,tn] ty #[.slice a n c,.int k (m:Int)]).run P w=.ok (.slice (some ⟨w.heap.size,0,none⟩) (n+m) (grownCap w (n+m) c e))
   (w.drew.alloc (.cells (olds.toArray++Builtin.zeroCells z.cells m++Builtin.zeroCells z.cells (grownCap w (n+m) c e - (n+m))) e)):=by
  by_cases hm0:m*i.size=0
  ·have hm1:m=0:=by rcases Nat.mul_eq_zero.1 hm0 with h | h; exact h; omega
   omega
  ·simp [Builtin.append_,run_underlying ht,run_underlying htn,sizeOf,typeInfo,zeroValue,hi,hz,asInt,asIntOf,hw,hn,hneg,hm0,h63',h48',hbm,Question.forced,hfd,newRow,grownCap]
 refine ⟨_,_,h.new w.heap.size (.cells e (olds++(List.replicate m z.cells.toList).flatten) (grownCap w (n+m) c e*i.size)),hrun,?_,hk _ _ r.nx hge hcm⟩
 refine r.drew.alloc _ (some (.cells e _ _)) ⟨_,rfl,?_,?_⟩
 ·simp only [Array.size_append,List.size_toArray,size_zeroCells,hzs,holn,← Nat.add_mul]
  congr 1
  omega
 ·simp only [Array.toList_append,hzc]
  exact List.prefix_append _ _
theorem yeo {P:Program} {w0 w:World} {h:Hp} {K:zae} (r:Rep w0 h w) {t ty e:TypeId} {i:TypeInfo} {z:Value} (ht:P.underlying t=some (.slice e)) (hi:P.info? e=some i) (hz:i.zero=some z) (hzs:z.cells.size=i.size) (hsz:0<i.size)
  {x:Value} (hd:clr e z.cells.toList i.size x K h):∃ v w' h',(Builtin.clear_ #[t] ty #[x]).run P w=.ok v w'∧Rep w0 h' w'∧K v h':=by
 rcases hd with ⟨a,c,rfl,hk⟩ | ⟨b,o,n,c,e',cs,tot,rfl,hn,hM,h1,hl,hk⟩
 ·refine ⟨_,w,h,?_,r,hk⟩
  cases a<;>simp [Builtin.clear_,run_underlying ht]
 ·have hzc:(Builtin.zeroCells z.cells n).toList=(List.replicate n z.cells.toList).flatten:=by
   have h:=zrb n z.cells (by omega) n (Nat.le_refl n)
   have h2:(madeCells z.cells (n*z.cells.size)).toList.length=(List.replicate n z.cells.toList).flatten.length:=by simp [size_madeCells]
   exact (List.IsPrefix.eq_of_length h h2.symm).symm
  have hlen:((List.replicate n z.cells.toList).flatten).length=n*i.size:=by simp [hzs]
  obtain ⟨w',hw',hr'⟩:=Rep.storeCells (P:=P) (List.replicate n z.cells.toList).flatten h w cs o 0 r hM (by rw [hlen]; simpa using hl) (fun v hv=>by
   obtain ⟨l,hl1,hl2⟩:=List.mem_flatten.1 hv
   rw [(List.mem_replicate.1 hl1).2] at hl2
   exact h1 v hl2)
  refine ⟨_,w',_,?_,hr',by simpa using hk⟩
  cases n with
  | zero=>omega
  | succ n=>simp [Builtin.clear_,run_underlying ht,zhk hi hz,hzc,hw']
theorem Rep.frz {w0 w:World} {h:Hp} (r:Rep w0 h w) {b:Nat} {e:TypeId} {cs:List Value} {tot:Nat} (hM:h.M b=some (.cells e cs tot)):Rep w0 (h.frz b cs) w:=by
 obtain ⟨h1,h2,h3,arr,h4,h5,h6⟩:=r.cl b e cs tot hM
 refine ⟨r.below,r.dr,r.nx,r.base,?_,?_,?_⟩
 ·intro k cs' hk
  simp only [Hp.frz,upd] at hk
  split at hk
  ·rename_i he; subst he; cases hk; exact ⟨h1,arr,e,_,h4,h6⟩
  ·exact r.fr k cs' hk
 ·intro k e' cs' tot' hk
  simp only [Hp.frz,upd] at hk
  split at hk
  ·cases hk
  ·rename_i he
   obtain ⟨a1,a2,a3,a4⟩:=r.cl k e' cs' tot' hk
   exact ⟨a1,a2,by simp only [Hp.frz,upd,if_neg he]; exact a3,a4⟩
 ·intro k o hk
  simp only [Hp.frz,upd] at hk
  split at hk
  ·cases hk
  ·rename_i he
   obtain ⟨a1,a2,a3,a4⟩:=r.ob k o hk
   exact ⟨a1,a2,by simp only [Hp.frz,upd,if_neg he]; exact a3,a4⟩
theorem Rep.freeze {w0 w:World} {h:Hp} (r:Rep w0 h w) {b o n:Nat} (hb:w0.heap.size≤b) (hM:h.M b=none):Rep w0 h (w.freeze ⟨b,o,none⟩ n):=by
 by_cases hn:n=0
 ·subst hn; exact r
 have hsz:(w.freeze ⟨b,o,none⟩ n).heap.size=w.heap.size:=by simp [World.freeze,hn]
 have hot:∀ k,k≠b→(w.freeze ⟨b,o,none⟩ n).heap[k]?=w.heap[k]?:=fun k hk=>by
  simp only [World.freeze,hn,if_false,Array.getElem?_modify]
  rw [if_neg (fun e=>hk e.symm)]
 refine ⟨r.below.trans ⟨by simp [World.freeze,hn],by simp [World.freeze,hn],by simp [World.freeze,hn],by rw [hsz]; exact Nat.le_refl _,fun k hk=>hot k (by omega)⟩,by simpa [World.freeze,hn] using r.dr,by rw [hsz]; exact r.nx,r.base,?_,?_,?_⟩
 ·intro k cs hk
  obtain ⟨a1,arr,e,z,a2,a3⟩:=r.fr k cs hk
  by_cases he:k=b
  ·subst he
   refine ⟨a1,arr,e,?_⟩
   simp only [World.freeze,hn,if_false,Array.getElem?_modify,if_true,a2,Option.map_some]
   exact ⟨_,rfl,a3⟩
  ·exact ⟨a1,arr,e,z,(hot k he).trans a2,a3⟩
 ·intro k e cs tot hk
  obtain ⟨a1,a2,a3,arr,a4,a5⟩:=r.cl k e cs tot hk
  exact ⟨a1,a2,a3,arr,(hot k (fun he=>by subst he; rw [hM] at hk; cases hk)).trans a4,a5⟩
 ·intro k ob hk
  obtain ⟨a1,a2,a3,a4,a5⟩:=r.ob k ob hk
  exact ⟨a1,a2,a3,(hot k (fun he=>by subst he; rw [hM] at hk; cases hk)).trans a4,a5⟩
theorem yi0 {P:Program} {w0 w:World} {h:Hp} {K:zae} (r:Rep w0 h w) {t e:TypeId} (ht:P.underlying t=some (.slice e)) (hu8:P.underlying e=some (.int .u8)) {x:Value} (hd:mk x K h) :
  ∃ v w' h',(convert t t x).run P w=.ok v w'∧Rep w0 h' w'∧K v h':=by
 obtain ⟨b,n,c,e',cs,tot,rfl,hM,hk⟩:=hd
 obtain ⟨h1,h2,h3,arr,h4,h5,h6⟩:=r.cl b e' cs tot hM
 have r1:=r.frz hM
 refine ⟨_,w.freeze ⟨b,arr.size,none⟩ 1,_,?_,r1.freeze h2 (by simp [Hp.frz,upd]),hk⟩
 have hs:w.shape? b=some (e',arr.size):=by simp [World.shape?,h4]
 simp [convert,run_underlying ht,run_underlying hu8,markStringish,hs]
theorem ygj {P:Program} {w0 w:World} {h:Hp} {K:zae} (r:Rep w0 h w) {src dst e:TypeId} (hs:P.underlying src=some .string) (ht:P.underlying dst=some (.slice e)) (hu8:P.underlying e=some (.int .u8)) {x:Value} (hd:sb x K h) :
  ∃ v w' h',(convert src dst x).run P w=.ok v w'∧Rep w0 h' w'∧K v h':=by
 obtain ⟨t,rfl,hk⟩:=hd
 refine ⟨_,_,_,Go.Lib.run_convert_string_bytes w src dst e t hs ht hu8,?_,hk w.heap.size (grownCap w t.size 0 e) r.nx (grownCap_ge w t.size 0 e)⟩
 have hold:=fun k (hk:k<w.heap.size)=>Go.Lib.bytesWorld_at_old w e t k hk
 have hnew:=Go.Lib.bytesWorld_at_new w e t
 have hnb:∀ k,k<h.nx→k≠w.heap.size:=fun k hk=>by have := r.nx; omega
 refine ⟨r.below.trans ⟨?_,?_,?_,by rw [Go.Lib.bytesWorld_size]; omega,fun k hk=>hold k (Nat.lt_of_lt_of_le hk r.below.size)⟩,?_,by rw [Go.Lib.bytesWorld_size]; exact Nat.le_refl _,by have := r.base; have := r.nx; simp only; omega,?_,?_,?_⟩
 ·simp [Go.Lib.bytesWorld,World.freeze,World.alloc,World.drew,-World.alloc_eq,-World.drew_eq]
 ·simp [Go.Lib.bytesWorld,World.freeze,World.alloc,World.drew,-World.alloc_eq,-World.drew_eq]
 ·simp [Go.Lib.bytesWorld,World.freeze,World.alloc,World.drew,-World.alloc_eq,-World.drew_eq]
 ·have := r.dr
  simp [Go.Lib.bytesWorld,World.freeze,World.alloc,World.drew,-World.alloc_eq,-World.drew_eq]; omega
 ·intro k cs hk
  simp only [upd] at hk
  split at hk
  ·rename_i he
   subst he
   cases hk
   refine ⟨Nat.lt_succ_self _,_,e,_,hnew,?_⟩
   simp [Go.Lib.bytesCells]
  ·obtain ⟨a1,arr,e',z,a2,a3⟩:=r.fr k cs hk
   exact ⟨by have := r.nx; simp only; omega,arr,e',z,(hold k (Nat.lt_of_lt_of_le a1 r.nx)).trans a2,a3⟩
 ·intro k e' cs tot hk
  obtain ⟨a1,a2,a3,arr,a4,a5⟩:=r.cl k e' cs tot hk
  exact ⟨by have := r.nx; simp only; omega,a2,by simp only [upd,if_neg (hnb k a1)]; exact a3,arr,(hold k (Nat.lt_of_lt_of_le a1 r.nx)).trans a4,a5⟩
 ·intro k o hk
  obtain ⟨a1,a2,a3,a4,a5⟩:=r.ob k o hk
  exact ⟨by have := r.nx; simp only; omega,a2,by simp only [upd,if_neg (hnb k a1)]; exact a3,(hold k (Nat.lt_of_lt_of_le a1 r.nx)).trans a4,a5⟩
theorem yfs {P:Program} {w0 w:World} {h:Hp} {K:zae} (r:Rep w0 h w) {t e:TypeId} {i:TypeInfo} {z:Value} (ht:P.underlying t=some (.slice e)) (hi:P.info? e=some i) (hz:i.zero=some z) (hzs:z.cells.size=i.size) (hsz:0<i.size)
  {l c:Value} (hd:mks e z.cells.toList i.size i.bytes l c K h):∃ v w' h',(Instr.makeSlice t l c).run P w=.ok v w'∧Rep w0 h' w'∧K v h':=by
 obtain ⟨kl,n,kc,m,rfl,rfl,hnm,hby,hmx,hk⟩:=hd
 have hb':(i.bytes:Int)*(m:Int)≤281474976710656:=by
  have h:((i.bytes*m:Nat):Int)≤281474976710656:=by rw [Nat.mul_comm]; omega
  rwa [Int.natCast_mul] at h
 have hr:=run_make (P:=P) w t e i z ht hi hz kl kc n m (by omega) (by omega) hb' (by simp [maxLen] at hmx; omega)
 simp only [Int.toNat_natCast] at hr
 refine ⟨_,_,h.new w.heap.size (.cells e (List.replicate n z.cells.toList).flatten (m*i.size)),hr,?_,hk _ r.nx⟩
 refine r.alloc _ (some (.cells e _ _)) ⟨_,rfl,by rw [size_madeCells],?_⟩
 rw [← hzs]
 exact zrb n z.cells (by omega) m hnm
theorem yek {P:Program} {w0 w:World} {h:Hp} {K:zae} (r:Rep w0 h w) {t:TypeId} (hd:mkm K h):∃ v w' h',(Instr.makeMap t none).run P w=.ok v w'∧Rep w0 h' w'∧K v h' :=
 ⟨.map (some w.heap.size),w.alloc (.map #[] 0),_,rfl,r.alloc (.map #[] 0) (some (.obj (.map #[] 0))) ⟨rfl,trivial⟩,hd w.heap.size r.nx⟩
theorem yf5 {P:Program} {w0 w:World} {h:Hp} {K:zae} (r:Rep w0 h w) {t:TypeId} {x ix:Value} {ok:Bool} (hd:lkp P t x ix ok K h):∃ v w' h',(Instr.lookup t x ix ok).run P w=.ok v w'∧Rep w0 h' w'∧K v h':=by
 obtain ⟨b,es,clock,v,hx,hM,hr,hk⟩:=hd
 exact ⟨v,w,h,hr w (r.ob b _ hM).2.2.2.1,r,hk⟩
theorem yfb {P:Program} {w0 w:World} {h:Hp} {K:zae} (r:Rep w0 h w) {t:TypeId} {m k x:Value} (hd:mup P t m k x K h):∃ w' h',(Instr.mapUpdate t m k x).run P w=.ok () w'∧Rep w0 h' w'∧K undef h':=by
 obtain ⟨b,es,clock,es',clock',hx,hM,hr,hk⟩:=hd
 obtain ⟨h1,h2,h3,h4,_⟩:=r.ob b _ hM
 have hlt:b<w.heap.size:=(Array.getElem?_eq_some_iff.1 h4).1
 refine ⟨_,_,hr w h4,?_,hk⟩
 refine r.turn (w':={ w with heap:=w.heap.setIfInBounds b (.map es' clock') }) (b:=b) h2 h3 rfl rfl rfl (by simp) (by simpa using hlt) (fun q hq _=>?_) (some (.obj (.map es' clock'))) h.nx (Nat.le_refl _) (by simpa using r.nx) h1 ⟨?_,trivial⟩
 ·simp [Array.getElem?_setIfInBounds,Ne.symm hq]
 ·simp [Array.getElem?_setIfInBounds,hlt]
section
variable {P:Program} {w0 w:World} {env:Env} {o:Oper} {h:Hp} {next:Act→World→Prop} {Q:Exit→Act→World→Prop}
theorem zgp {v:Value} {w':World} (hr:(execOp (ev env) o).run P w=.ok (.value v) w') (hn:next ⟨zj0 env o.dst v,[]⟩ w'):o.wp P ⟨env,[]⟩ w next Q:=by
 have hr':(execOp (Act.mk env []).eval o).run P w=.ok (.value v) w':=hr
 unfold Oper.wp
 rw [hr']
 show next ((Act.mk env []).put o.dst v) w'
 rw [zos]; exact hn
theorem yb0 {w':World} (hr:(execOp (ev env) o).run P w=.ok .skip w') (hn:next ⟨zj0 env o.dst undef,[]⟩ w'):o.wp P ⟨env,[]⟩ w next Q:=by
 have hr':(execOp (Act.mk env []).eval o).run P w=.ok .skip w':=hr
 unfold Oper.wp
 rw [hr']
 show next ((Act.mk env []).put o.dst undef) w'
 rw [zos]; exact hn
theorem yir {f:FuncId} {args:Array Value} (hr:(execOp (ev env) o).run P w=.ok (.enter f args) w) {K:zae} {E:zat} (r:Rep w0 h w) (hl:E [] zh4→w0.drawn=0) (hc:call P f args K E h)
  (hn:∀ v w' h',Rep w0 h' w'→K v h'→next ⟨zj0 env o.dst v,[]⟩ w') (hE:∀ c w' h',Rep w0 h' w'→E c h'→Q (.panic c) ⟨env,[]⟩ w'):o.wp P ⟨env,[]⟩ w next Q:=by
 have hr':(execOp (Act.mk env []).eval o).run P w=.ok (.enter f args) w:=hr
 unfold Oper.wp
 rw [hr']
 show Calls P f args w _
 refine (hc w0 w hl r).mono fun e w' he=>?_
 obtain ⟨h',r',he⟩:=he
 cases e with
 | returned v=>show next ((Act.mk env []).put o.dst v) w'; rw [zos]; exact hn v w' h' r' he
 | panicked c=>exact hE c w' h' r' he
 | outgrown=>exact he.elim
theorem ybk {fv:Value} {args:Array Value} {K:zae} {E:zat} (hc:za2 P fv args K E h) :
  (∃ f args',(∀ w,(do let d ← Deferred.ofValue fv args; invoke d.target d.args:Sem Next).run P w=.ok (.enter f args') w)∧call P f args' K E h) ∨
  (∀ w0 w,Rep w0 h w→∃ v w' h',(do let d ← Deferred.ofValue fv args; invoke d.target d.args:Sem Next).run P w=.ok (.value v) w'∧Rep w0 h' w'∧K v h'):=by
 unfold za2 at hc
 split at hc
 ·rename_i f first captured
  rw [zvm,zvm] at hc
  rcases hc with ⟨hf,hc⟩ | hc
  ·left
   refine ⟨f,_,fun w=>?_,hc⟩
   cases hfn:P.funcs[f]? with
   | none=>simp [hfn] at hf
   | some fn=>
    simp [hfn] at hf
    obtain ⟨bd,hb⟩:=Option.isSome_iff_exists.1 hf.2
    simp [Deferred.ofValue,invoke,callFunc,hfn,hf.1,hb]
  ·right
   intro w0 w r
   obtain ⟨v,w',h',hr,r',hk⟩:=hc w0 w r
   refine ⟨v,w',h',?_,r',hk⟩
   simpa [Deferred.ofValue,invoke] using hr
 ·cases hc
theorem zub {P:Program} {w0 w:World} {h:Hp} (r:Rep w0 h w) {t e:TypeId} {i:TypeInfo} {v:Value} {len:Nat} {parts:Array (Nat×Value)} (hu:P.underlying t=some (.slice e)) (hi:P.info? e=some i) (hzv:i.zero=some v)
  (hle:len*i.size≤2 ^ 24) {K:zae} (hd:nws e len (bsC v.cells i.size len parts) K h):∃ u w' h',(Instr.buildSlice t len parts).run P w=.ok u w'∧Rep w0 h' w'∧K u h':=by
 obtain ⟨cs,hcs,hk⟩:=hd
 obtain ⟨b,hb,hrun,hrep⟩:=zqi (P:=P) r e cs
 refine ⟨_,_,_,?_,hrep,hk b hb⟩
 unfold bsC at hcs
 have hn:¬ (len*i.size>2 ^ 24):=Nat.not_lt.2 hle
 by_cases h0:len*i.size=0
 ·have hr:(Array.range (len*i.size)).map (fun x=>v.cells[x%v.cells.size]!)=(Array.range (len*i.size)).map (fun x=>(#[]:Array Value)[x%(#[]:Array Value).size]!):=by rw [h0]; simp
  rw [hr] at hcs
  unfold Instr.buildSlice
  rw [Sem.run_bind,run_underlying hu]
  simp only [Result.andThen_ok,Sem.run_bind,zb3 hi]
  rw [if_neg hn,if_pos h0]
  simp only [Result.andThen_ok,Sem.run_bind,Sem.run_pure]
  rw [hcs]
  simp only [Result.andThen_ok,Sem.run_bind,Sem.run_pure,hrun]
 ·unfold Instr.buildSlice
  rw [Sem.run_bind,run_underlying hu]
  simp only [Result.andThen_ok,Sem.run_bind,zb3 hi]
  rw [if_neg hn,if_neg h0]
  simp only [Result.andThen_ok,Sem.run_bind,Sem.run_pure,zhk hi hzv]
  rw [hcs]
  simp only [Result.andThen_ok,Sem.run_bind,Sem.run_pure,hrun]
theorem yfm {K:zae} {E:zat} (r:Rep w0 h w) (hl:E [] zh4→w0.drawn=0) (hd:opD P env o K E h) (hn:∀ v w' h',Rep w0 h' w'→K v h'→next ⟨zj0 env o.dst v,[]⟩ w') (hE:∀ c w' h',Rep w0 h' w'→E c h'→Q (.panic c) ⟨env,[]⟩ w'):o.wp P ⟨env,[]⟩ w next Q:=by
 cases hq:zoi P o.op with
 | true=>
  obtain ⟨v,hk,hkd,hrun⟩:=zm2 hq hd
  exact zgp (hrun w0 h w r hkd) (hn v w h r hk)
 | false=>
  have val:∀ (s:Sem Value) (v:Value) (w':World),s.run P w=.ok v w'→(do pure (.value (← s)):Sem Next).run P w=.ok (.value v) w':=fun s v w' hs=>by
   simp only [Sem.run_bind,hs,Result.andThen_ok,Sem.run_pure]
  have fin:∀ (s:Sem Value),execOp (ev env) o=(do pure (.value (← s)):Sem Next)→(∃ v w' h',s.run P w=.ok v w'∧Rep w0 h' w'∧K v h')→o.wp P ⟨env,[]⟩ w next Q:=fun s he ⟨v,w',h',hr,hrep,hk⟩=>
   zgp (by rw [he]; exact val s v w' hr) (hn v w' h' hrep hk)
  obtain ⟨dst,op,type,pos,after,guard⟩:=o
  cases op<;>simp only [zoi,zzj,Bool.false_or,Bool.or_false,reduceCtorEq,Bool.or_eq_false_iff] at hq<;>simp only [opD,yc6] at hd
  case alloc t=>
   split at hd
   ·rename_i z hz
    obtain ⟨i,v,hi,hzv,rfl⟩:=zig hz
    refine fin (Instr.alloc t true (.tuple #[])) rfl ?_
    obtain ⟨u,w',h',hr,hrep,hk⟩:=yap (P:=P) r (v:=v) hd
    refine ⟨u,w',h',?_,hrep,hk⟩
    simp only [Instr.alloc,Sem.run_bind,zhk hi hzv,Result.andThen_ok]
    simpa using hr
   ·cases hd
  case box t x=>
   refine fin (Instr.box t (ev env x)) rfl ?_
   obtain ⟨u,w',h',hr,hrep,hk⟩:=yap (P:=P) r hd
   exact ⟨u,w',h',hr,hrep,hk⟩
  case buildSlice t len parts=>
   split at hd
   ·rename_i e hu
    split at hd
    ·rename_i i z hi hz
     split at hd
     ·rename_i hle
      obtain ⟨i',v,hi',hzv,rfl⟩:=zig hz
      rw [hi] at hi'; cases hi'
      obtain ⟨u,w',h',hr,hrep,hk⟩:=zub r hu hi hzv hle hd
      exact zgp (by simp only [execOp]; exact val _ _ _ hr) (hn u w' h' hrep hk)
     ·cases hd
    ·cases hd
   ·cases hd
  case store t a x=>
   split at hd
   ·rename_i i hi
    obtain ⟨w',h',hr,hrep,hk⟩:=yhe (P:=P) r hi hd
    refine yb0 (w':=w') ?_ (hn undef w' h' hrep hk)
    simp only [execOp,Sem.run_bind,hr,Result.andThen_ok,Sem.run_pure]
   ·cases hd
  case convert src dst' x=>
   split at hd
   ·rename_i h1 h2; simp [h1,h2] at hq
   ·rename_i h1 h2; simp [h1,h2] at hq
   ·rename_i h1 h2; simp [h1,h2] at hq
   ·rename_i e e' hs hdst
    split at hd
    ·rename_i hu8
     split at hd
     ·rename_i he
      subst he
      rw [hs] at hdst
      cases hdst
      exact fin (convert src src (ev env x)) rfl (yi0 r hs hu8 hd)
     ·cases hd
    ·cases hd
   ·rename_i e hs hdst
    split at hd
    ·rename_i hu8
     exact fin (convert src dst' (ev env x)) rfl (ygj r hs hdst hu8 hd)
    ·cases hd
   ·cases hd
  case makeMap t c=>
   cases c with
   | none=>exact fin (Instr.makeMap t none) rfl (yek r hd)
   | some c=>cases hd
  case lookup t x ix ok=>exact fin (Instr.lookup t (ev env x) (ev env ix) ok) rfl (yf5 r hd)
  case mapUpdate t m k x=>
   obtain ⟨w',h',hr,hrep,hk⟩:=yfb (P:=P) r hd
   refine yb0 (w':=w') ?_ (hn undef w' h' hrep hk)
   simp only [execOp,Sem.run_bind,hr,Result.andThen_ok,Sem.run_pure]
  case makeSlice t l c=>
   split at hd
   ·rename_i e hu
    split at hd
    ·rename_i i z hi hz
     split at hd
     ·rename_i hc
      obtain ⟨i',v,hi',hzv,rfl⟩:=zig hz
      rw [hi] at hi'; cases hi'
      exact fin (Instr.makeSlice t (ev env l) (ev env c)) rfl (yfs r hu hi hzv hc.1 hc.2 hd)
     ·cases hd
    ·cases hd
   ·cases hd
  case panic x=>
   split at hd
   ·rename_i t v hx
    have:(execOp (Act.mk env []).eval ⟨dst,.panic x,type,pos,after,guard⟩).run P w=.halt (.panic (.iface t v)) w:=by
     have hx':(Act.mk env []).eval x=.iface t v:=hx
     simp only [execOp,hx',Instr.panic]; rfl
    unfold Oper.wp
    rw [this]
    exact hE _ w h r hd
   ·cases hd
  case call c=>
   obtain ⟨callee,args,ats⟩:=c
   cases callee with
   | value f=>
    have hd':za2 P (ev env f) (args.map (ev env)) K E h:=by
     cases f<;>first | exact hd | (simp only at hd; exact hd)
    rcases ybk hd' with ⟨g,args',hrun,hc⟩ | hx
    ·refine yir (f:=g) (args:=args') ?_ r hl hc hn hE
     have := hrun w
     simpa [execOp,resolve] using this
    ·obtain ⟨v,w',h',hr,r',hk⟩:=hx w0 w r
     refine zgp (v:=v) (w':=w') ?_ (hn v w' h' r' hk)
     simpa [execOp,resolve] using hr
   | invoke rc m=>simp only at hd
   | builtin b=>
    cases b<;>simp at hq
    all_goals simp only at hd
    case append=>
     split at hd
     case h_2 t u s x hb ha hx=>
      have ea:args.map (ev env) = #[s,x]:=by rw [← Array.toList_inj]; exact hx
      have et:ats = #[t,u]:=by rw [← Array.toList_inj]; exact ha
      split at hd
      ·rename_i e hu
       split at hd
       ·rename_i i z hi hz
        split at hd
        ·rename_i hc
         obtain ⟨hc1,hc2⟩:=hc
         obtain ⟨i',v,hi',hzv,rfl⟩:=zig hz
         rw [hi] at hi'; cases hi'
         have ea':Array.map (ev env) args = #[s,x]:=ea
         split at hd
         case isFalse=>
          split at hd
          ·rename_i kn hu2
           obtain ⟨u',w',h',hr,hrep,hk⟩:=ycu (P:=P) (ty:=type) r hu hu2 hi hzv hc1 hc2 hd
           refine zgp (v:=u') (w':=w') ?_ (hn u' w' h' hrep hk)
           simp only [execOp,resolve,ea',et,Sem.run_bind,Sem.run_pure,Result.andThen_ok,invoke,builtin,hr]
          ·rename_i e' hu2
           have hd:=hd.elim (fun hd=>zxa (P:=P) (ty:=type) r hu hi hzv hc1 hc2 hd) (fun hd=>zqt (P:=P) (ty:=type) r hu hi hd)
           obtain ⟨u',w',h',hr,hrep,hk⟩:=hd
           have hr:=(zy1 (ty:=type) hu hi hu2 s x w).trans hr
           refine zgp (v:=u') (w':=w') ?_ (hn u' w' h' hrep hk)
           simp only [execOp,resolve,ea',et,Sem.run_bind,Sem.run_pure,Result.andThen_ok,invoke,builtin,hr]
          ·cases hd
         rename_i htu
         subst htu
         have hd:=hd.elim (fun hd=>zxa (P:=P) (ty:=type) r hu hi hzv hc1 hc2 hd) (fun hd=>zqt (P:=P) (ty:=type) r hu hi hd)
         obtain ⟨u,w',h',hr,hrep,hk⟩:=hd
         refine zgp (v:=u) (w':=w') ?_ (hn u w' h' hrep hk)
         simp only [execOp,resolve,ea',et,Sem.run_bind,Sem.run_pure,Result.andThen_ok,invoke,builtin,hr]
        ·cases hd
       ·cases hd
      ·cases hd
     all_goals first | (cases hd; done) | (rename_i hb _ _; cases hb; done) | (rename_i hb _; cases hb; done)
    case copy=>
     split at hd
     case h_3 t u d s hb ha hx=>
      have ea:args.map (ev env) = #[d,s]:=by rw [← Array.toList_inj]; exact hx
      have et:ats = #[t,u]:=by rw [← Array.toList_inj]; exact ha
      split at hd
      ·rename_i e hu
       split at hd
       ·rename_i i hi
        obtain ⟨u',w',h',hr,hrep,hk⟩:=ygb (P:=P) (u:=u) (ty:=type) r hu hi hd
        refine zgp (v:=u') (w':=w') ?_ (hn u' w' h' hrep hk)
        simp only [execOp,resolve,ea,et,Sem.run_bind,Sem.run_pure,Result.andThen_ok,invoke,builtin,hr]
       ·cases hd
      ·cases hd
     all_goals first | (cases hd; done) | (rename_i hb _ _; cases hb; done) | (rename_i hb _; cases hb; done)
    case clear=>
     split at hd
     case h_4 t x hb ha hx=>
      have ea:args.map (ev env) = #[x]:=by rw [← Array.toList_inj]; exact hx
      have et:ats = #[t]:=by rw [← Array.toList_inj]; exact ha
      split at hd
      ·rename_i e hu
       split at hd
       ·rename_i i z hi hz
        split at hd
        ·rename_i hc
         obtain ⟨i',v,hi',hzv,rfl⟩:=zig hz
         rw [hi] at hi'; cases hi'
         obtain ⟨u',w',h',hr,hrep,hk⟩:=yeo (P:=P) (ty:=type) r hu hi hzv hc.1 hc.2 hd
         refine zgp (v:=u') (w':=w') ?_ (hn u' w' h' hrep hk)
         simp only [execOp,resolve,ea,et,Sem.run_bind,Sem.run_pure,Result.andThen_ok,invoke,builtin,hr]
        ·cases hd
       ·cases hd
      ·cases hd
     all_goals first | (cases hd; done) | (rename_i hb _ _; cases hb; done) | (rename_i hb _; cases hb; done)
    all_goals (split at hd<;>first | (cases hd; done) | (rename_i hb _ _; cases hb; done) | (rename_i hb _; cases hb; done))
  all_goals first | (cases hd; done) | (simp at hq; done)
end
def QW (w0:World) (Q:QD):Exit→Act→World→Prop:=fun e a w=>∃ env h,a=⟨env,[]⟩∧Rep w0 h w∧Q e env h
def zlt (Q:QD):Prop:=∀ c env env' h,Q (.panic c) env h→Q (.panic c) env' h
section
variable {P:Program} {w0:World} {ops:Array Oper} {Q:QD}
theorem zxh {env:Env} {o:Oper} {j:Nat} {want:Bool} (hg:o.guard=some (j,want)) :
  Region.wanted o (yielded ops env)=isB (gv ops env j) want:=by
 unfold Region.wanted gv yielded isB
 rw [hg]
 simp only
 cases ((ops[j]?).bind (·.dst)).bind (env[·]?) with
 | none=>rfl
 | some v=>cases v<;>simp<;>rfl
theorem ztg {env:Env} {o:Oper} {i:Nat} (hi:ops[i]?=some o) {K:zae} {E:zat} {h:Hp} {w:World} (r:Rep w0 h w) (hl:E [] zh4→w0.drawn=0) (hd:opG P ops env o K E h) {next:Act→World→Prop} {Qw:Exit→Act→World→Prop}
  (hn:∀ v w' h',Rep w0 h' w'→K v h'→next ⟨zj0 env o.dst v,[]⟩ w') (hE:∀ c w' h',Rep w0 h' w'→E c h'→Qw (.panic c) ⟨env,[]⟩ w'):wpOp P ops Qw i next ⟨env,[]⟩ w:=by
 unfold wpOp
 rw [hi]
 simp only
 unfold opG at hd
 cases hg:o.guard with
 | none=>
  rw [hg] at hd
  have:Region.wanted o (yielded ops env)=true:=by unfold Region.wanted; rw [hg]
  rw [if_pos this]
  exact .inl (yfm r hl hd hn hE)
 | some p=>
  obtain ⟨j,want⟩:=p
  rw [hg] at hd
  simp only [gdK] at hd
  rw [zxh hg]
  by_cases hb:isB (gv ops env j) want=true
  ·rw [if_pos hb] at hd ⊢
   exact .inl (yfm r hl hd hn hE)
  ·rw [if_neg hb] at hd
   rw [if_neg hb,zos]
   exact hn undef w h r hd
theorem yai (hz:∀ env,Q (.panic []) env zh4→w0.drawn=0):∀ (k:Nat) (env:Env) (h:Hp) (w:World),k≤ops.size→Rep w0 h w→zzr P ops Q (ops.toList.drop k) env h→wpOps P ops (QW w0 Q) (List.range' k (ops.size - k)) ⟨env,[]⟩ w:=by
 intro k
 induction hk:ops.size - k generalizing k with
 | zero=>
  intro env h w hle r hd
  have:ops.toList.drop k=[]:=List.drop_eq_nil_of_le (by simp; omega)
  rw [this] at hd
  exact ⟨env,h,rfl,r,hd⟩
 | succ n ih=>
  intro env h w hle r hd
  have hlt:k<ops.size:=by omega
  have hi:ops[k]?=some ops[k]:=by simp [hlt]
  have hdrop:ops.toList.drop k=ops[k]::ops.toList.drop (k+1):=by
   rw [List.drop_eq_getElem_cons (by simpa using hlt)]; simp
  rw [hdrop] at hd
  rw [List.range'_succ,wpOps_cons]
  refine ztg hi r (hz env) hd (fun v w' h' r' hk'=>?_) (fun c w' h' r' he=>⟨env,h',rfl,r',he⟩)
  exact ih (k+1) (by omega) _ h' w' (by omega) r' hk'
def zvn (T:zi0) (TK':TK):Prop:=∀ p∈T,(∃ k,(p.1,k)∈TK'∧∀ w,(∃ w0 h,Rep w0 h w∧k h)→p.2 w)∨(∀ w,(∃ w0 h,Rep w0 h w)→p.2 w)
theorem znj:∀ {T:TK} {h:Hp} {X:Prop},zrm T h X→(∀ p∈T,p.2 h)∧X
 | [],_,_,hx=>⟨by simp,hx⟩
 | p::r,h,X,hx=>by
  obtain ⟨h1,h2⟩:=hx
  obtain ⟨h3,h4⟩:=znj h2
  exact ⟨fun q hq=>by rcases List.mem_cons.1 hq with rfl | hq; exact h1; exact h3 q hq,h4⟩
theorem zvn.holds {T:zi0} {TK':TK} (hi:zvn T TK') {h:Hp} {w:World} (r:Rep w0 h w) (hall:∀ p∈TK',p.2 h):∀ p∈T,p.2 w:=fun p hp=>by
 rcases hi p hp with ⟨k,hk,hw⟩ | hw
 ·exact hw w ⟨w0,h,r,hall _ hk⟩
 ·exact hw w ⟨w0,h,r⟩
theorem zvn.later {T:zi0} {TK':TK} (hi:zvn T TK') (j:Nat):zvn (later ops T j) (zgq ops TK' j):=fun p hp=>by
 simp only [K.later,List.mem_filter] at hp
 rcases hi p hp.1 with ⟨k,hk,hw⟩ | hw
 ·exact .inl ⟨k,by simp only [zgq,List.mem_filter]; exact ⟨hk,hp.2⟩,hw⟩
 ·exact .inr hw
theorem zgr (hp:zlt Q) (hz:∀ env,Q (.panic []) env zh4→w0.drawn=0) (hsel:∀ (j:Nat) (o:Oper) cs b,ops[j]?=some o→o.op≠.select cs b):∀ (n:Nat) (listed:Array Bool) (l:zkq) (T:zi0) (TK':TK) (env:Env) (h:Hp) (w:World),
  zgt P ops n listed=some l→zii ops listed→zvn T TK'→(∀ p∈T,p.2 w)→Rep w0 h w→zfv P ops Q l TK' env h →
  zhs P ops (QW w0 Q) n listed T ⟨env,[]⟩ w
 | 0,listed,l,T,TK',env,h,w,hl,_,_,_,r,hd=>by
  simp only [zgt] at hl
  split at hl
  ·rename_i hr
   cases hl
   exact ⟨hr,env,h,rfl,r,hd⟩
  ·cases hl
 | n+1,listed,l,T,TK',env,h,w,hl,hc,hT,hTw,r,hd=>by
  simp only [zgt] at hl
  cases hr:Region.ready .any ops listed with
  | nil=>
   rw [hr] at hl
   cases hl
   exact ⟨fun _=>⟨env,h,rfl,r,hd⟩,fun i hi=>by rw [hr] at hi; cases hi⟩
  | cons i0 rs0=>
   rw [hr] at hl
   simp only at hl
   cases hf:(i0::rs0).find? (ydv P ops listed) with
   | some i=>
    rw [hf] at hl
    simp only at hl
    obtain ⟨l',hl',rfl⟩:=Option.map_eq_some_iff.1 hl
    have hfi:=List.find?_some hf
    have him:i∈Region.ready .any ops listed:=by rw [hr]; exact List.mem_of_find?_eq_some hf
    simp only [ydv,Bool.and_eq_true] at hfi
    cases ho:ops[i]? with
    | none=>rw [ho] at hfi; simp at hfi
    | some o=>
     rw [ho] at hfi
     simp only at hfi
     simp only [zfv,ho] at hd
     have hfree:=Region.free_spec ho hfi.2
     have hQ:∀ (v:Value) c a w,QW w0 Q (.panic c) (a.put o.dst v) w→QW w0 Q (.panic c) a w:=by
      rintro v c a w ⟨env',h',he,r',hq⟩
      obtain ⟨tm,df⟩:=a
      have:df=[]:=by
       have := congrArg Act.defers he
       cases hdst:o.dst<;>simpa [Act.put,hdst] using this
      subst this
      exact ⟨tm,h',rfl,r',hp _ _ _ _ hq⟩
     have key:∃ v,(zfv P ops Q l' (if zky P o.op then (i,znb P ops env o v)::TK' else TK') (zj0 env o.dst v) h) ∧
       ∃ S:World→Prop,zg1 P ops S o v ⟨env,[]⟩∧S w∧((∃ k,(zky P o.op=true∧k=znb P ops env o v)∧∀ w,(∃ w0 h,Rep w0 h w∧k h)→S w)∨(∀ w,(∃ w0 h,Rep w0 h w)→S w)):=by
      have nr:zky P o.op=false→∀ v h,keepD P env o v h:=by
       intro hr v h
       unfold keepD
       unfold zky at hr
       split<;>simp_all
       split<;>simp_all
      unfold opG at hd
      cases hgd:o.guard with
      | none=>
       rw [hgd] at hd
       simp only at hd
       obtain ⟨v,hk,hkeep,hrun⟩:=zm2 hfi.1 hd
       have hwant:Region.wanted o (yielded ops env)=true:=by unfold Region.wanted; rw [hgd]
       have hkg:znb P ops env o v=keepD P env o v:=by funext h; unfold znb; rw [hgd]
       refine ⟨v,hk,fun w=>∃ w0 h,Rep w0 h w∧keepD P env o v h,fun w ⟨w1,h1,r1,k1⟩=>.inl ⟨hwant,hrun w1 h1 w r1 k1⟩,⟨w0,h,r,hkeep⟩,?_⟩
       by_cases hload:zky P o.op=true
       ·exact .inl ⟨_,⟨hload,rfl⟩,fun w hw=>by rw [hkg] at hw; exact hw⟩
       ·exact .inr fun w ⟨w1,h1,r1⟩=>⟨w1,h1,r1,nr (by simpa using hload) v h1⟩
      | some p=>
       obtain ⟨j,want⟩:=p
       rw [hgd] at hd
       simp only [gdK] at hd
       have hw2:=zxh (ops:=ops) (env:=env) hgd
       by_cases hb:isB (gv ops env j) want=true
       ·rw [if_pos hb] at hd
        obtain ⟨v,hk,hkeep,hrun⟩:=zm2 hfi.1 hd
        have hkg:∀ h,znb P ops env o v h→keepD P env o v h:=fun h hh=>by unfold znb at hh; rw [hgd] at hh; exact hh hb
        refine ⟨v,hk,fun w=>∃ w0 h,Rep w0 h w∧keepD P env o v h,fun w ⟨w1,h1,r1,k1⟩=>.inl ⟨hw2.trans hb,hrun w1 h1 w r1 k1⟩,⟨w0,h,r,hkeep⟩,?_⟩
        by_cases hload:zky P o.op=true
        ·exact .inl ⟨_,⟨hload,rfl⟩,fun w ⟨w1,h1,r1,k1⟩=>⟨w1,h1,r1,hkg h1 k1⟩⟩
        ·exact .inr fun w ⟨w1,h1,r1⟩=>⟨w1,h1,r1,nr (by simpa using hload) v h1⟩
       ·rw [if_neg hb] at hd
        exact ⟨undef,hd,fun _=>True,fun w _=>.inr ⟨by rw [hw2]; simpa using hb,rfl⟩,trivial,.inr fun _ _=>trivial⟩
     obtain ⟨v,hden,S,hy,hS,hSk⟩:=key
     refine yam ho hsel (fun c a w=>hQ v c a w) n listed T ⟨env,[]⟩ w hc (fun j oj hj hne hun hno=>hfree j oj hj hne hun hno) him hy hS hTw ?_
     rw [zos]
     refine zgr hp hz hsel n _ l' _ _ _ h w hl' (ziy hc him) ?_ ?_ r hden
     ·intro p hp'
      rcases List.mem_cons.1 hp' with rfl | hp'
      ·rcases hSk with ⟨k,⟨hk1,rfl⟩,hk2⟩ | hk
       ·exact .inl ⟨_,by rw [if_pos hk1]; exact List.mem_cons_self ..,hk2⟩
       ·exact .inr hk
      ·rcases hT p hp' with ⟨k,hk,hw'⟩ | hw'
       ·exact .inl ⟨k,by split; exact List.mem_cons_of_mem _ hk; exact hk,hw'⟩
       ·exact .inr hw'
     ·intro p hp'
      rcases List.mem_cons.1 hp' with rfl | hp'
      ·exact hS
      ·exact hTw p hp'
   | none=>
    rw [hf] at hl
    simp only at hl
    split at hl
    ·rename_i i heq
     cases heq
     obtain ⟨l',hl',rfl⟩:=Option.map_eq_some_iff.1 hl
     have him:i0∈Region.ready .any ops listed:=by rw [hr]; simp
     cases ho:ops[i0]? with
     | none=>simp only [zfv,ho] at hd
     | some o=>
      simp only [zfv,ho] at hd
      refine zva hr (by simp) (fun j hj=>?_)
      obtain rfl:j=i0:=by simpa using hj
      refine ztg ho r (hz env) hd (fun v w' h' r' hk=>?_) (fun c w' h' r' he=>⟨env,h',rfl,r',he⟩)
      obtain ⟨ha,hk⟩:=znj hk
      have hT':=hT.later (ops:=ops) j
      have hTw':=hT'.holds r' ha
      exact ⟨hTw',zgr hp hz hsel n _ l' _ _ _ h' w' hl' (ziy hc him) hT' hTw' r' hk⟩
    ·rename_i i j heq
     cases heq
     cases hp1:zgt P ops n (listed.setIfInBounds i0 true) with
     | none=>rw [hp1] at hl; simp at hl
     | some p=>
     cases hp2:zgt P ops n (listed.setIfInBounds j true) with
     | none=>rw [hp1,hp2] at hl; simp at hl
     | some q=>
     rw [hp1,hp2] at hl
     simp only [Option.some.injEq] at hl
     subst hl
     have step:∀ (x:Nat) (px:zkq),x∈Region.ready .any ops listed→zgt P ops n (listed.setIfInBounds x true)=some px →
       (match ops[x]? with
        | some o=>opG P ops env o (fun v h=>zrm (zgq ops TK' x) h (zfv P ops Q px (zgq ops TK' x) (zj0 env o.dst v) h)) (fun c=>Q (.panic c) env)
        | none=>fun _=>False) h→∃ o,ops[x]?=some o∧opG P ops env o (fun v h=>zrm (zgq ops TK' x) h (zfv P ops Q px (zgq ops TK' x) (zj0 env o.dst v) h)) (fun c=>Q (.panic c) env) h:=fun x px _ _ hx=>by
      cases ho:ops[x]? with
      | none=>rw [ho] at hx; exact hx.elim
      | some o=>rw [ho] at hx; exact ⟨o,rfl,hx⟩
     simp only [zfv,bth] at hd
     obtain ⟨hd1,hd2⟩:=hd
     have m1:i0∈Region.ready .any ops listed:=by rw [hr]; simp
     have m2:j∈Region.ready .any ops listed:=by rw [hr]; simp
     refine zva hr (by simp) (fun x hx=>?_)
     have hx':x=i0∨x=j:=by simpa using hx
     rcases hx' with rfl | rfl
     ·obtain ⟨o,ho,hd⟩:=step _ p m1 hp1 hd1
      refine ztg ho r (hz env) hd (fun v w' h' r' hk=>?_) (fun c w' h' r' he=>⟨env,h',rfl,r',he⟩)
      obtain ⟨ha,hk⟩:=znj hk
      have hT':=hT.later (ops:=ops) x
      have hTw':=hT'.holds r' ha
      exact ⟨hTw',zgr hp hz hsel n _ p _ _ _ h' w' hp1 (ziy hc m1) hT' hTw' r' hk⟩
     ·obtain ⟨o,ho,hd⟩:=step _ q m2 hp2 hd2
      refine ztg ho r (hz env) hd (fun v w' h' r' hk=>?_) (fun c w' h' r' he=>⟨env,h',rfl,r',he⟩)
      obtain ⟨ha,hk⟩:=znj hk
      have hT':=hT.later (ops:=ops) x
      have hTw':=hT'.holds r' ha
      exact ⟨hTw',zgr hp hz hsel n _ q _ _ _ h' w' hp2 (ziy hc m2) hT' hTw' r' hk⟩
    ·cases hl
end
theorem zx5 {Q:QD} (h:zlt Q) (k:Env→Hp→Prop):zlt (za6 k Q):=fun c env env' hp hh=>h c env env' hp hh
theorem yl8 {Q:QD} (h:zlt Q) (id:Nat):zlt (blk id Q):=fun c env env' hp hh=>h c env env' hp hh
theorem yk2 {Q:QD} (h:zlt Q):zlt (scp Q):=fun c env env' hp hh=>h c env env' hp hh
section
variable {P:Program} {w0:World}
theorem yfr (hm:P.follows .mixedOrders=true):∀ (c:Code) (Q:QD) (env:Env) (h:Hp) (w:World),zlt Q→(∀ env,Q (.panic []) env zh4→w0.drawn=0)→Rep w0 h w→den P c Q env h→c.wp P (QW w0 Q) ⟨env,[]⟩ w:=by
 intro c
 induction c with
 | skip=>exact fun Q env h w _ _ r hd=>wp_skip ⟨env,h,rfl,r,hd⟩
 | label l=>exact fun Q env h w _ _ r hd=>wp_label ⟨env,h,rfl,r,hd⟩
 | region id ops draw=>
  intro Q env h w hp hz r hd
  simp only [den] at hd
  cases draw with
  | false=>
   simp only [Bool.false_eq_true,if_false] at hd
   refine wp_region ?_
   have := yai (P:=P) (w0:=w0) (ops:=ops) (Q:=Q) hz 0 env h w (Nat.zero_le _) r (by simpa using hd)
   rwa [Nat.sub_zero,← List.range_eq_range'] at this
  | true=>
   simp only [if_true] at hd
   cases hl:zgt P ops ops.size (Array.replicate ops.size false) with
   | some l=>
    rw [hl] at hd
    by_cases hok:Region.noSelect ops=true
    ·simp only [hok,if_true] at hd
     refine ybd hm ?_
     exact zgr hp hz (fun j o cs b ho=>Region.noSelect_spec hok j o cs b ho) ops.size _ l [] [] env h _ hl (ybi ops ops.size) (fun p hp=>by cases hp) (fun p hp=>by cases hp) r.drew hd
    ·simp only [hok,if_false,Bool.false_eq_true] at hd
   | none=>rw [hl] at hd; exact hd.elim
 | seq a b iha ihb=>
  intro Q env h w hp hz r hd
  simp only [den] at hd
  refine wp_seq (wp_mono (iha _ env h w (zx5 hp _) (fun env hp=>hz env hp) r hd) ?_)
  rintro e a' w' ⟨env',h',rfl,r',hq⟩
  cases e with
  | normal=>exact ihb Q env' h' w' hp hz r' hq
  | exit id=>exact ⟨env',h',rfl,r',hq⟩
  | goto l=>exact ⟨env',h',rfl,r',hq⟩
  | ret=>exact ⟨env',h',rfl,r',hq⟩
  | panic c=>exact ⟨env',h',rfl,r',hq⟩
  | outgrown=>exact ⟨env',h',rfl,r',hq⟩
 | cond c a b iha ihb=>
  intro Q env h w hp hz r hd
  simp only [den,cnd] at hd
  obtain ⟨t,ht,hd⟩:=hd
  cases t with
  | true=>exact wp_cond_true ht (iha Q env h w hp hz r (by simpa using hd))
  | false=>exact wp_cond_false ht (ihb Q env h w hp hz r (by simpa using hd))
 | block id c ih=>
  intro Q env h w hp hz r hd
  simp only [den] at hd
  refine wp_block (wp_mono (ih _ env h w (yl8 hp id) (fun env hp=>hz env hp) r hd) ?_)
  rintro e a' w' ⟨env',h',rfl,r',hq⟩
  cases e with
  | exit id'=>
   simp only [Exit.inBlock]
   simp only [blk] at hq
   split
   ·rename_i hid; rw [if_pos hid] at hq; exact ⟨env',h',rfl,r',hq⟩
   ·rename_i hid; rw [if_neg hid] at hq; exact ⟨env',h',rfl,r',hq⟩
  | normal=>exact ⟨env',h',rfl,r',hq⟩
  | goto l=>exact ⟨env',h',rfl,r',hq⟩
  | ret=>exact ⟨env',h',rfl,r',hq⟩
  | panic c=>exact ⟨env',h',rfl,r',hq⟩
  | outgrown=>exact ⟨env',h',rfl,r',hq⟩
 | loop c ih=>
  intro Q env h w hp hz r hd
  simp only [den] at hd
  obtain ⟨n,hn⟩:=hd
  intro b k cs
  have key:∀ n env h w,Rep w0 h w→lpn (fun K=>den P c (za6 K Q)) n env h →
    ∃ e a' w',QW w0 Q e a' w'∧Arrives P (lone (b.at ⟨env,[]⟩ (.code c :: .inLoop c::k)) cs w) b k cs e a' w':=by
   intro n
   induction n with
   | zero=>intro env h w _ hn; exact hn.elim
   | succ n ihn=>
    intro env h w r hn
    obtain ⟨h2,hwk,hn⟩:=hn r.wf
    replace hn:=hn (r.wk hwk).wf
    obtain ⟨e,a₁,w₁,hq,harr⟩:=ih _ env h2 w (zx5 hp _) (fun env hp=>hz env hp) (r.wk hwk) hn b (.inLoop c::k) cs
    obtain ⟨env',h',rfl,r',hq⟩:=hq
    cases e with
    | normal=>
     obtain ⟨e₂,a₂,w₂,hq₂,harr₂⟩:=ihn env' h' w₁ r' hq
     exact ⟨e₂,a₂,w₂,hq₂,.of_steps (Steps.trans harr (.one step_inLoop)) harr₂⟩
    | exit id=>exact ⟨_,_,w₁,⟨env',h',rfl,r',hq⟩,.pass (x:=.inLoop c) rfl (fun _ _=>.inl (by simp)) harr⟩
    | goto l=>exact ⟨_,_,w₁,⟨env',h',rfl,r',hq⟩,.pass (x:=.inLoop c) rfl (fun _ _=>.inl (by simp)) harr⟩
    | ret=>exact ⟨_,_,w₁,⟨env',h',rfl,r',hq⟩,.pass (x:=.inLoop c) rfl (fun _ _=>.inl (by simp)) harr⟩
    | panic ch=>exact ⟨_,_,w₁,⟨env',h',rfl,r',hq⟩,.pass (x:=.inLoop c) rfl (fun _ _=>.inl (by simp)) harr⟩
    | outgrown=>exact ⟨_,_,w₁,⟨env',h',rfl,r',hq⟩,.pass (x:=.inLoop c) rfl (fun _ _=>.inl (by simp)) harr⟩
  obtain ⟨e,a',w',hq,harr⟩:=key n env h w r hn
  exact ⟨e,a',w',hq,.of_steps (.one step_loop) harr⟩
 | rangeFunc f params assign body _ _=>intro Q env h w hp hz r hd; simp only [den] at hd
 | exit id=>exact fun Q env h w _ _ r hd=>wp_exit ⟨env,h,rfl,r,hd⟩
 | scope c ih=>
  intro Q env h w hp hz r hd
  simp only [den] at hd
  refine wp_scope_straight (wp_mono (ih _ env h w (yk2 hp) (fun env hp=>hz env hp) r hd) ?_)
  rintro e a' w' ⟨env',h',rfl,r',hq⟩
  cases e with
  | goto l=>exact hq.elim
  | exit id'=>exact ⟨env',h',rfl,r',hq⟩
  | normal=>exact ⟨env',h',rfl,r',hq⟩
  | ret=>exact ⟨env',h',rfl,r',hq⟩
  | panic c=>exact ⟨env',h',rfl,r',hq⟩
  | outgrown=>exact ⟨env',h',rfl,r',hq⟩
 | goto l=>intro Q env h w hp hz r hd; simp only [den] at hd
 | ret=>exact fun Q env h w _ _ r hd=>wp_ret ⟨env,h,rfl,r,hd⟩
 | refuse s=>intro Q env h w hp hz r hd; simp only [den] at hd
end
def zrn (P:Program):List ResultVar→Env→(List Value→Hp→Prop)→Hp→Prop
 | [],_,K,h=>K [] h
 | .tmp t::r,env,K,h=>zrn P r env (fun vs=>K (env.getD t undef::vs)) h
 | .cell a t::r,env,K,h=>match zmd P t,P.info? t with
  | some g,some i=>ld g i.size (env.getD a undef) (fun v=>zrn P r env (fun vs=>K (v::vs))) h
  | _,_=>False
def ye0:List Value→Value
 | [v]=>v
 | vs=>.tuple vs.toArray
def zab (P:Program) (rs:List ResultVar) (K:zae) (E:zat):QD
 | .normal,env=>zrn P rs env (fun vs=>K (ye0 vs))
 | .ret,env=>zrn P rs env (fun vs=>K (ye0 vs))
 | .panic c,_=>E c
 | _,_=>fun _=>False
def zob (env:Env):ResultVar→Sem Value
 | .tmp t=>pure (env.getD t undef)
 | .cell a t=>do loadVar t (← asAddr (env.getD a undef))
theorem zro {P:Program} {w0 w:World} {env:Env}:∀ (rs:List ResultVar) (K:List Value→Hp→Prop) (h:Hp),Rep w0 h w→zrn P rs env K h →
  ∃ vs,(rs.mapM (zob env)).run P w=.ok vs w∧K vs h
 | [],K,h,r,hd=>⟨[],by simp,hd⟩
 | .tmp t::rs,K,h,r,hd=>by
  obtain ⟨vs,hr,hk⟩:=zro rs _ h r hd
  exact ⟨_,by simp only [List.mapM_cons,zob,Sem.run_bind,Sem.run_pure,Result.andThen_ok,hr],hk⟩
 | .cell a t::rs,K,h,r,hd=>by
  simp only [zrn] at hd
  split at hd
  ·rename_i g i hg hi
   obtain ⟨v,hv,hd⟩:=hd
   obtain ⟨vs,hr,hk⟩:=zro rs _ h r hd
   have hl:=zoc (P:=P) r hg hi hv
   have hp:∃ ad,env.getD a undef=.pointer (some ad):=by
    unfold ldV at hv
    split at hv
    ·rename_i b o hx; exact ⟨_,hx⟩
    ·exact hv.elim
   obtain ⟨ad,had⟩:=hp
   rw [had] at hl
   simp only [Instr.loadAt,Instr.sureAddr,Sem.run_bind,Sem.run_pure,Result.andThen_ok] at hl
   refine ⟨_,?_,hk⟩
   have h1:(zob env (.cell a t)).run P w=.ok v w:=by simp only [zob,Sem.run_bind,had,asAddr,Sem.run_pure,Result.andThen_ok,hl]
   simp only [List.mapM_cons,Sem.run_bind,h1,Result.andThen_ok,hr,Sem.run_pure]
  ·exact hd.elim
theorem zqn {P:Program} {w0 w:World} {env:Env} {fn:Func} {K:zae} {h:Hp} (r:Rep w0 h w) (hd:zrn P fn.results.toList env (fun vs=>K (ye0 vs)) h) :
  ∃ v,(results fn env).run P w=.ok v w∧K v h:=by
 obtain ⟨vs,hr,hk⟩:=zro _ _ h r hd
 refine ⟨_,?_,hk⟩
 unfold results
 have hf:(fun x=>match x with
   | .tmp t=>pure (env.getD t undef)
   | .cell a t=>do loadVar t (← asAddr (env.getD a undef)):ResultVar→Sem Value)=zob env:=by funext x; cases x<;>rfl
 rw [Array.mapM_eq_mapM_toList]
 simp only [Sem.run_bind,Sem.run_map]
 erw [hf,hr]
 simp only [Result.andThen_ok,Sem.run_pure]
 congr 1
 match vs with
 | []=>rfl
 | [v]=>rfl
 | v::u::vs=>simp [ye0]
def za8 (fn:Func):Code:=fn.body.getD .skip
def sel:Code→List Nat→Code
 | c,[]=>c
 | .seq a _,0::p=>sel a p
 | .seq _ b,1::p=>sel b p
 | .cond _ a _,0::p=>sel a p
 | .cond _ _ b,1::p=>sel b p
 | .block _ c,_::p=>sel c p
 | .loop c,_::p=>sel c p
 | .scope c,_::p=>sel c p
 | c,_=>c
theorem ybf {P:Program} (hm:P.follows .mixedOrders=true) {f:FuncId} {fn:Func} {c:Code} (hf:P.funcs[f]?=some fn) (hb:fn.body=some c) {args:Array Value} {K:zae} {E:zat} {h:Hp}
  (hd:den P c (zab P fn.results.toList K E) (zh9 args (List.replicate (fn.ntmps - args.size) undef).toArray) h):call P f args K E h:=by
 intro w0 w hl r
 rw [zvm,List.toArray_replicate] at hd
 refine calls_of_wp hf hb (wp_mono (yfr hm c _ _ h w (fun c env env' hp hh=>hh) (fun env hp=>hl hp) r hd) ?_)
 rintro e a w' ⟨env,h',rfl,r',hq⟩
 cases e with
 | normal=>
  obtain ⟨v,hr,hk⟩:=zqn r' hq
  exact ⟨rfl,v,hr,h',r',hk⟩
 | ret=>
  obtain ⟨v,hr,hk⟩:=zqn r' hq
  exact ⟨rfl,v,hr,h',r',hk⟩
 | panic ch=>exact ⟨rfl,h',r',hq⟩
 | exit id=>exact hq.elim
 | goto l=>exact hq.elim
 | outgrown=>exact hq.elim
theorem zlf {P:Program} (hm:P.follows .mixedOrders=true) {f:FuncId} {fn:Func} (hf:P.funcs[f]?=some fn) (hb:(fn.name != "runtime.NumGoroutine" && fn.body.isSome)=true) {args:Array Value} {K:zae} {E:zat} {h:Hp} {X:Hp→Prop}
  (ht:den P (sel (za8 fn) []) (zab P fn.results.toList (fun v h=>h.wf→∃ h',h.wk h'∧(h'.wf→K v h')) E) (zh9 args (List.replicate (fn.ntmps - args.size) undef).toArray)=X) (hd:h.wf→X h):call P f args K E h:=by
 simp only [Bool.and_eq_true] at hb
 obtain ⟨c,hc⟩:=Option.isSome_iff_exists.1 hb.2
 intro w0 w hl r
 refine (ybf (K:=fun v h=>h.wf→∃ h',h.wk h'∧(h'.wf→K v h')) (E:=E) hm hf hc ?_ w0 w hl r).mono fun e w' he=>?_
 ·have:sel (za8 fn) []=c:=by unfold za8; rw [hc]; cases c<;>rfl
  rw [this] at ht
  rw [ht]
  exact hd r.wf
 ·obtain ⟨h',r',hh⟩:=he
  cases e with
  | returned v=>obtain ⟨h'',hwk,hk⟩:=hh r'.wf; exact ⟨h'',r'.wk hwk,hk (r'.wk hwk).wf⟩
  | panicked c=>exact ⟨h',r',hh⟩
  | outgrown=>exact hh.elim
theorem za3 {P:Program} (hm:P.follows .mixedOrders=true) {f:FuncId} {fn:Func} (hf:P.funcs[f]?=some fn) (hb:(fn.name != "runtime.NumGoroutine" && fn.body.isSome)=true) {first args captured:Array Value} {K:zae} {E:zat} {h:Hp} {X:Hp→Prop}
  (ht:den P (sel (za8 fn) []) (zab P fn.results.toList (fun v h=>h.wf→∃ h',h.wk h'∧(h'.wf→K v h')) E) (zh9 (zh9 (zh9 first args) captured) (List.replicate (fn.ntmps - (zh9 (zh9 first args) captured).size) undef).toArray)=X) (hd:h.wf→X h):za2 P (.func (.func f) first captured) args K E h :=
 .inl ⟨by rw [hf]; exact hb,zlf hm hf hb ht hd⟩
theorem Rep.reveal {w0 w:World} {h:Hp} (r:Rep w0 h w) {b:Nat} {e:TypeId} {cs:List Value} {tot:Nat} (hM:h.M b=some (.cells e cs tot)):∃ ext,(cs++ext).length=tot∧Rep w0 (h.set b (.cells e (cs++ext) tot)) w:=by
 obtain ⟨a1,a2,a3,arr,a4,a5,⟨ext,a6⟩⟩:=r.cl b e cs tot hM
 refine ⟨ext,by rw [a6]; simpa using a5,?_⟩
 refine r.turn (w':=w) a2 a3 rfl rfl rfl (Nat.le_refl _) (Array.getElem?_eq_some_iff.1 a4).1 (fun _ _ _=>rfl) (some _) h.nx (Nat.le_refl _) r.nx a1 ?_
 exact ⟨arr,a4,a5,by rw [a6]; exact List.prefix_refl _⟩
theorem zzw {P:Program} {fv:Value} {args:Array Value} {K:zae} {E:zat} {h:Hp} {b:Nat} {e:TypeId} {cs:List Value} {tot:Nat} (hM:h.M b=some (.cells e cs tot))
  {f:FuncId} {first captured:Array Value} (hfv:fv=.func (.func f) first captured) (hbody:(((P.funcs[f]?).map fun fn=>fn.name != "runtime.NumGoroutine" && fn.body.isSome).getD false)=true)
  (hc:∀ ext,(cs++ext).length=tot→call P f (zh9 (zh9 first args) captured) K E (h.set b (.cells e (cs++ext) tot))):za2 P fv args K E h:=by
 subst hfv
 refine .inl ⟨hbody,fun w0 w hl r=>?_⟩
 obtain ⟨ext,he,r'⟩:=r.reveal hM
 exact hc ext he w0 w hl r'
section
variable {F:Nat→Option (List Value)} {M:Nat→Option zak} {N:Nat} {K:zae} {h:Hp} {P:Program} {E:zat}
theorem zaa {o:Option Value} {v:Value} (hv:o=some v) (k:K v h):pv o K h:=⟨v,hv,k⟩
theorem ypj {b o n c sz:Nat} {k:IntKind} {i:Int} (h0:0≤i) (h1:i<n) (kk:K (.pointer (some ⟨b,o+i.toNat*sz,none⟩)) h):pv (iaV none sz (.slice (some ⟨b,o,none⟩) n c) (.int k i)) K h :=
 ⟨_,by simp [iaV,h0,h1],kk⟩
theorem zbz {b o n c sz:Nat} {k:IntKind} {i:Nat} (h1:i<n) (kk:K (.pointer (some ⟨b,o+i*sz,none⟩)) h):pv (iaV none sz (.slice (some ⟨b,o,none⟩) n c) (.int k (i:Nat))) K h :=
 ypj (by omega) (by omega) (by simpa using kk)
theorem zjo {a:Int} (h0:-9223372036854775808≤a) (h1:a≤9223372036854775807):IntKind.i64.wrap a=a:=by rw [IntKind.wrap_i64]; omega
theorem zyp {e:EqK} {a b:Int} (h0:-9223372036854775808≤a+b) (h1:a+b≤9223372036854775807) (k:K (.int .i64 (a+b)) h):pv (za1 e .add (.int .i64 a) (.int .i64 b)) K h :=
 ⟨.int .i64 (IntKind.i64.wrap (a+b)),by simp [za1,zg0],by rw [zjo h0 h1]; exact k⟩
theorem zjz {e:EqK} {a b:Int} (h0:-9223372036854775808≤a - b) (h1:a - b≤9223372036854775807) (k:K (.int .i64 (a - b)) h):pv (za1 e .sub (.int .i64 a) (.int .i64 b)) K h :=
 ⟨.int .i64 (IntKind.i64.wrap (a - b)),by simp [za1,zg0],by rw [zjo h0 h1]; exact k⟩
theorem zai {e:EqK} {a:Nat} (h1:a<9223372036854775807) (k:K (.int .i64 (a+1:Nat)) h):pv (za1 e .add (.int .i64 (a:Nat)) (.int .i64 1)) K h :=
 zyp (by omega) (by omega) (by simpa using k)
theorem zaf {e:EqK} {k:IntKind} {a b:Int} (ht:a<b→K (.bool true) h) (hf:¬ a<b→K (.bool false) h):pv (za1 e .lss (.int k a) (.int k b)) K h:=by
 refine ⟨.bool (decide (a<b)),by simp [za1,zg0],?_⟩
 by_cases hc:a<b
 ·rw [decide_eq_true hc]; exact ht hc
 ·rw [decide_eq_false hc]; exact hf hc
theorem zfd {e:EqK} {k:IntKind} {a b:Int} (ht:a≤b→K (.bool true) h) (hf:¬ a≤b→K (.bool false) h):pv (za1 e .leq (.int k a) (.int k b)) K h:=by
 refine ⟨.bool (decide (a≤b)),by simp [za1,zg0],?_⟩
 by_cases hc:a≤b
 ·rw [decide_eq_true hc]; exact ht hc
 ·rw [decide_eq_false hc]; exact hf hc
theorem zbu {e:EqK} {k:IntKind} {a b:Int} (ht:a>b→K (.bool true) h) (hf:¬ a>b→K (.bool false) h):pv (za1 e .gtr (.int k a) (.int k b)) K h:=by
 refine ⟨.bool (decide (a>b)),by simp [za1,zg0],?_⟩
 by_cases hc:a>b
 ·rw [decide_eq_true hc]; exact ht hc
 ·rw [decide_eq_false hc]; exact hf hc
theorem ze1 {e:EqK} {k:IntKind} {a b:Int} (ht:a≥b→K (.bool true) h) (hf:¬ a≥b→K (.bool false) h):pv (za1 e .geq (.int k a) (.int k b)) K h:=by
 refine ⟨.bool (decide (a≥b)),by simp [za1,zg0],?_⟩
 by_cases hc:a≥b
 ·rw [decide_eq_true hc]; exact ht hc
 ·rw [decide_eq_false hc]; exact hf hc
theorem zba {e:EqK} {k:IntKind} {a b:Int} (ht:a=b→K (.bool true) h) (hf:¬ a=b→K (.bool false) h):pv (za1 e .eql (.int k a) (.int k b)) K h:=by
 refine ⟨.bool (a == b),by simp [za1,zg0],?_⟩
 by_cases hc:a=b
 ·rw [show (a == b)=true by simpa using hc]; exact ht hc
 ·rw [show (a == b)=false by simpa using hc]; exact hf hc
theorem zc9 {e:EqK} {k:IntKind} {a b:Int} (ht:a≠b→K (.bool true) h) (hf:¬ a≠b→K (.bool false) h):pv (za1 e .neq (.int k a) (.int k b)) K h:=by
 refine ⟨.bool (a != b),by simp [za1,zg0],?_⟩
 by_cases hc:a=b
 ·rw [show (a != b)=false by simpa using hc]; exact hf (by simpa using hc)
 ·rw [show (a != b)=true by simpa using hc]; exact ht hc
theorem zh0 {e:EqK} {k:IntKind} {a b:Int} (hc:a<b) (hk:K (.bool true) h):pv (za1 e .lss (.int k a) (.int k b)) K h:=zaf (fun _=>hk) (fun n=>absurd hc n)
theorem zh2 {e:EqK} {k:IntKind} {a b:Int} (hc:¬ a<b) (hk:K (.bool false) h):pv (za1 e .lss (.int k a) (.int k b)) K h:=zaf (fun n=>absurd n hc) (fun _=>hk)
theorem ynl {e:EqK} {k:IntKind} {a b:Int} (hc:a≤b) (hk:K (.bool true) h):pv (za1 e .leq (.int k a) (.int k b)) K h:=zfd (fun _=>hk) (fun n=>absurd hc n)
theorem ynh {e:EqK} {k:IntKind} {a b:Int} (hc:a>b) (hk:K (.bool true) h):pv (za1 e .gtr (.int k a) (.int k b)) K h:=zbu (fun _=>hk) (fun n=>absurd hc n)
theorem yjz {e:EqK} {k:IntKind} {a b:Int} (hc:¬ a>b) (hk:K (.bool false) h):pv (za1 e .gtr (.int k a) (.int k b)) K h:=zbu (fun n=>absurd n hc) (fun _=>hk)
theorem ydx {e:EqK} {k:IntKind} {a b:Int} (hc:a≥b) (hk:K (.bool true) h):pv (za1 e .geq (.int k a) (.int k b)) K h:=ze1 (fun _=>hk) (fun n=>absurd hc n)
theorem zpf {e:EqK} {k:IntKind} {a b:Int} (hc:¬ a≥b) (hk:K (.bool false) h):pv (za1 e .geq (.int k a) (.int k b)) K h:=ze1 (fun n=>absurd n hc) (fun _=>hk)
theorem zi3 {e:EqK} {k:IntKind} {a b:Int} (hc:a=b) (hk:K (.bool true) h):pv (za1 e .eql (.int k a) (.int k b)) K h:=zba (fun _=>hk) (fun n=>absurd hc n)
theorem zhl {e:EqK} {k:IntKind} {a b:Int} (hc:¬ a=b) (hk:K (.bool false) h):pv (za1 e .eql (.int k a) (.int k b)) K h:=zba (fun n=>absurd n hc) (fun _=>hk)
theorem zit {e:EqK} {k:IntKind} {a b:Int} (hc:a=b) (hk:K (.bool false) h):pv (za1 e .neq (.int k a) (.int k b)) K h:=zc9 (fun n=>absurd hc n) (fun _=>hk)
theorem zdd {A B:Hp→Prop} (k:A h):cnd (.bool true) A B h:=⟨true,rfl,by simpa using k⟩
theorem zc8 {A B:Hp→Prop} (k:B h):cnd (.bool false) A B h:=⟨false,rfl,by simpa using k⟩
theorem zzh {A:zae→Hp→Prop} (k:A K h):gdK (.bool false) false A K h:=by unfold gdK; rw [if_pos (by simp [isB])]; exact k
theorem zal {t:TypeId} {cells cs:List Value} (k:∀ b,N≤b→K (.pointer (some ⟨b,0,none⟩)) ⟨F,upd M b (some (.cells t cs cs.length)),b+1⟩) (hc:cells=cs:=by rfl):nw t cells K ⟨F,M,N⟩:=by
 subst hc; exact fun b hb=>k b hb
theorem zde {t:TypeId} {n:Nat} {cells:Option (Array Value)} {cs:List Value} (hc:cells=some cs.toArray) (k:∀ b,N≤b→K (.slice (some ⟨b,0,none⟩) n n) ⟨F,upd M b (some (.cells t cs cs.length)),b+1⟩):nws t n cells K ⟨F,M,N⟩ :=
 ⟨_,hc,fun b hb=>k b hb⟩
theorem zaq {e:TypeId} {cs:List Value} {tot b:Nat} (hM:M b=some (.cells e cs tot)):(Hp.mk F M N).row b cs:=.inr ⟨e,tot,hM⟩
theorem zdi {cs:List Value} {b:Nat} (hF:F b=some cs):(Hp.mk F M N).row b cs:=.inl hF
theorem zao {sz b o:Nat} {cs:List Value} {v:Value} (hr:h.row b cs) (hv:cs[o]?=some v):ldV h false sz (.pointer (some ⟨b,o,none⟩)) v:=⟨cs,hr,by simpa using hv⟩
theorem zfx {sz b o:Nat} {cs vs:List Value} (hr:h.row b cs) (hl:o+sz≤cs.length) (hv:(cs.drop o).take sz=vs):ldV h true sz (.pointer (some ⟨b,o,none⟩)) (.agg vs.toArray) :=
 ⟨cs,hr,by rw [if_pos rfl,hv]; exact ⟨hl,rfl⟩⟩
theorem zfj {agg:Bool} {sz:Nat} {p v:Value} (hv:ldV h agg sz p v) (k:K v h):ld agg sz p K h:=⟨v,hv,k⟩
theorem ya6 {sz b o:Nat} {e:TypeId} {cs cs':List Value} {tot:Nat} {v:Value} (hM:M b=some (.cells e cs tot)) (hs:v.cells.size=sz) (h1:∀ c∈v.cells.toList,c.oneCell'=true) (hl:o+sz≤cs.length) (hc:zbs cs o v.cells.toList=cs')
  (k:K undef ⟨F,upd M b (some (.cells e cs' tot)),N⟩):st sz (.pointer (some ⟨b,o,none⟩)) v K ⟨F,M,N⟩ :=
 ⟨hs,b,o,e,cs,tot,rfl,hM,h1,by rw [Array.length_toList,hs]; exact hl,by rw [hc]; exact k⟩
def yt9 (B:Nat) (v:Value) (n:Nat):Prop:=(v=.slice none 0 0∧n=0)∨∃ b c,v=.slice (some ⟨b,0,none⟩) n c∧B≤b∧n≤c∧c≤maxLen
def ytd (M:Nat→Option zak) (e:TypeId) (sz:Nat) (v:Value) (cs:List Value):Nat→Option zak:=match v with
 | .slice (some a) _ c=>upd M a.block (some (.cells e cs (c*sz)))
 | _=>M
theorem zaj {B:(Env→Hp→Prop)→Env→Hp→Prop} {σ:Type} (mk:σ→(Nat→Value)→Env) (I:σ→Hp→Prop) (μ:σ→Nat)
  (round:∀ (k:Env→Hp→Prop) (s:σ) (j:Nat→Value) (h:Hp),I s h→h.wf→(∀ s' j' h',μ s'<μ s→(h'.wf→∃ h'',h'.wk h''∧I s' h'')→k (mk s' j') h')→B k (mk s j) h)
  (s:σ) (j:Nat→Value) (h0:h.wf→∃ h',h.wk h'∧I s h'):lp B (mk s j) h:=by
 suffices∀n (s:σ) (j:Nat→Value) (h:Hp),μ s<n→(h.wf→∃ h',h.wk h'∧I s h')→lpn B n (mk s j) h from ⟨_,this (μ s+1) s j h (Nat.lt_succ_self _) h0⟩
 intro n
 induction n with
 | zero=>intro s j h hn; omega
 | succ n ih=>
  intro s j h hn h0 hwf
  obtain ⟨h',hw,hI⟩:=h0 hwf
  exact ⟨h',hw,fun hwf'=>round (lpn B n) s j h' hI hwf' (fun s' j' h1 hlt hI'=>ih s' j' h1 (by omega) hI')⟩
theorem za0 {h:Hp} (hw:h.wf):h.wk h:=⟨rfl,zb6 _,fun _ _ h=>.inl h,hw.d⟩
end
def jf (env:Env):Nat→Value:=fun i=>env.getD i undef
abbrev U:Value:=undef
def zac (F F':Nat→Option (List Value)):Prop:=∀ b cs,F b=some cs→F' b=some cs
theorem zac.refl (F:Nat→Option (List Value)):zac F F:=fun _ _ h=>h
theorem zac.trans {F F' F'':Nat→Option (List Value)} (h:zac F F') (k:zac F' F''):zac F F'':=fun b cs hb=>k b cs (h b cs hb)
theorem zac.upd {F:Nat→Option (List Value)} {b:Nat} {x:Option (List Value)} (h:F b=none):zac F (upd F b x):=fun k cs hk=>by
 simp only [K.upd]; split
 ·rename_i e; subst e; rw [h] at hk; cases hk
 ·exact hk
def yra (_K:zae) (_h:Hp):Prop:=False
def pnc (x:Value) (E:zat) (_K:zae) (h:Hp):Prop:=match x with
 | .iface t v=>E [{ v:=.iface t v,recovered:=false }] h
 | _=>False
def sF (F:Nat→Option (List Value)) (sz:Nat) (v:Value) (m:Nat) (cells:List Value):Prop :=
 cells.length=m*sz∧((∃ a c,v=.slice a 0 c∧m=0)∨∃ b o c cs,v=.slice (some ⟨b,o,none⟩) m c∧m≤c∧F b=some cs∧(cs.drop o).take (m*sz)=cells)
theorem sF.mono {F F':Nat→Option (List Value)} {sz m:Nat} {v:Value} {cells:List Value} (h:sF F sz v m cells) (hs:zac F F'):sF F' sz v m cells:=by
 refine ⟨h.1,?_⟩
 rcases h.2 with h | ⟨b,o,c,cs,h1,h2,h3,h4⟩
 ·exact .inl h
 ·exact .inr ⟨b,o,c,cs,h1,h2,hs _ _ h3,h4⟩
theorem sF.read {F:Nat→Option (List Value)} {M:Nat→Option zak} {N sz m:Nat} {v:Value} {cells:List Value} (h:sF F sz v m cells):zjv ⟨F,M,N⟩ sz v m cells:=by
 refine ⟨h.1,?_⟩
 rcases h.2 with ⟨a,c,h1,h2⟩ | ⟨b,o,c,cs,h1,h2,h3,h4⟩
 ·subst h2; exact .inl ⟨a,c,h1,rfl⟩
 ·exact .inr ⟨b,o,c,cs,h1,.inr ⟨.inl h3,h4⟩⟩
theorem sF.form {F:Nat→Option (List Value)} {sz m:Nat} {v:Value} {cells:List Value} (h:sF F sz v m cells):∃ a c,v=.slice a m c∧m≤c:=by
 rcases h.2 with ⟨a,c,h1,h2⟩ | ⟨b,o,c,cs,h1,h2,h3,h4⟩
 ·subst h2; exact ⟨a,c,h1,Nat.zero_le _⟩
 ·exact ⟨_,c,h1,h2⟩
theorem sF.nil (F:Nat→Option (List Value)) (sz c:Nat):sF F sz (.slice none 0 c) 0 []:=⟨by simp,.inl ⟨none,c,rfl,rfl⟩⟩
theorem sF.at {F:Nat→Option (List Value)} {sz m:Nat} {v:Value} {cells:List Value} (h:sF F sz v m cells) (hz:0<sz) {i:Nat} (hi:i<m) :
  ∃ b o c,v=.slice (some ⟨b,o,none⟩) m c∧∃ cs,F b=some cs∧o+m*sz≤cs.length∧∀ k,k<m*sz→cs[o+k]?=cells[k]?:=by
 rcases h.2 with ⟨a,c,h1,h2⟩ | ⟨b,o,c,cs,h1,h2,h3,h4⟩
 ·omega
 ·refine ⟨b,o,c,h1,cs,h3,?_,fun k hk=>?_⟩
  ·have := congrArg List.length h4
   rw [h.1] at this
   simp at this
   have hp:0<m*sz:=Nat.mul_pos (by omega) hz
   omega
  ·rw [← h4,List.getElem?_take,if_pos hk,List.getElem?_drop]
def zi7 {α β:Type} (R:α→β→Prop) (xs:List α) (ys:List β):Prop:=xs.length=ys.length∧∀ (i:Nat) (x:α) (y:β),xs[i]?=some x→ys[i]?=some y→R x y
theorem zi7.nil {α β:Type} (R:α→β→Prop):zi7 R [] []:=⟨rfl,fun i x y h=>by simp at h⟩
theorem zi7.snoc {α β:Type} {R:α→β→Prop} {xs:List α} {ys:List β} {x:α} {y:β} (h:zi7 R xs ys) (hr:R x y):zi7 R (xs++[x]) (ys++[y]):=by
 refine ⟨by simp [h.1],fun i u v hu hv=>?_⟩
 rcases Nat.lt_or_ge i xs.length with hi | hi
 ·rw [List.getElem?_append_left hi] at hu
  rw [List.getElem?_append_left (by rw [← h.1]; exact hi)] at hv
  exact h.2 i u v hu hv
 ·rw [List.getElem?_append_right hi] at hu
  rw [List.getElem?_append_right (by rw [← h.1]; exact hi)] at hv
  have:i - xs.length=0:=by
   have := (List.getElem?_eq_some_iff.1 hu).1
   simp at this; omega
  rw [this] at hu
  rw [← h.1,this] at hv
  simp at hu hv
  subst hu; subst hv; exact hr
theorem zi7.mono {α β:Type} {R R':α→β→Prop} {xs:List α} {ys:List β} (h:zi7 R xs ys) (hr:∀ x y,R x y→R' x y):zi7 R' xs ys:=⟨h.1,fun i x y hx hy=>hr _ _ (h.2 i x y hx hy)⟩
theorem zi7.get {α β:Type} {R:α→β→Prop} {xs:List α} {ys:List β} (h:zi7 R xs ys) {i:Nat} {y:β} (hy:ys[i]?=some y):∃ x,xs[i]?=some x∧R x y:=by
 have hi:i<xs.length:=by rw [h.1]; exact (List.getElem?_eq_some_iff.1 hy).1
 exact ⟨xs[i],by simp [hi],h.2 i _ y (by simp [hi]) hy⟩
theorem zck {sz:Nat}:∀ (rows:List (List Value)),(∀ r∈rows,r.length=sz)→rows.flatten.length=rows.length*sz
 | [],_=>by simp
 | x::rows,h=>by
  rw [List.flatten_cons,List.length_append,h x (by simp),zck rows (fun r hr=>h r (by simp [hr])),List.length_cons,Nat.succ_mul]; omega
theorem zks {sz:Nat}:∀ (rows:List (List Value)) (i:Nat) (r:List Value),(∀ r∈rows,r.length=sz)→rows[i]?=some r→(rows.flatten.drop (i*sz)).take sz=r
 | [],i,r,_,h=>by simp at h
 | x::rows,0,r,hl,h=>by
  simp at h
  subst h
  have := hl x (by simp)
  simp [List.flatten_cons,← this]
 | x::rows,i+1,r,hl,h=>by
  have hx:=hl x (by simp)
  have h1:=zks rows i r (fun r hr=>hl r (by simp [hr])) (by simpa using h)
  rw [List.flatten_cons,Nat.succ_mul]
  rw [show i*sz+sz=x.length+i*sz by omega,List.drop_append,← h1]
  have:List.drop (x.length+i*sz) x=[]:=List.drop_eq_nil_of_le (by omega)
  rw [this,show x.length+i*sz - x.length=i*sz by omega,List.nil_append]
structure zad {α:Type} (R:List Value→α→Prop) (sz:Nat) (rows:List (List Value)) (xs:List α):Prop where
 len:∀ r∈rows,r.length=sz
 one:∀ r∈rows,∀ c∈r,c.oneCell'=true
 all:zi7 R rows xs
theorem zad.nil {α:Type} (R:List Value→α→Prop) (sz:Nat):zad R sz [] []:=⟨by simp,by simp,zi7.nil R⟩
theorem zad.snoc {α:Type} {R:List Value→α→Prop} {sz:Nat} {rows:List (List Value)} {xs:List α} (h:zad R sz rows xs) {r:List Value} {x:α} (hl:r.length=sz) (h1:∀ c∈r,c.oneCell'=true) (hr:R r x):zad R sz (rows++[r]) (xs++[x]) :=
 ⟨fun q hq=>by rcases List.mem_append.1 hq with hq | hq; exact h.len q hq; rw [List.mem_singleton.1 hq]; exact hl,fun q hq=>by rcases List.mem_append.1 hq with hq | hq; exact h.one q hq; rw [List.mem_singleton.1 hq]; exact h1,h.all.snoc hr⟩
theorem zad.mono {α:Type} {R R':List Value→α→Prop} {sz:Nat} {rows:List (List Value)} {xs:List α} (h:zad R sz rows xs) (hr:∀ r x,R r x→R' r x):zad R' sz rows xs:=⟨h.len,h.one,h.all.mono hr⟩
theorem zad.flen {α:Type} {R:List Value→α→Prop} {sz:Nat} {rows:List (List Value)} {xs:List α} (h:zad R sz rows xs):rows.flatten.length=xs.length*sz:=by rw [zck rows h.len,h.all.1]
theorem zad.f1 {α:Type} {R:List Value→α→Prop} {sz:Nat} {rows:List (List Value)} {xs:List α} (h:zad R sz rows xs):∀ c∈rows.flatten,c.oneCell'=true:=fun c hc=>by
 obtain ⟨r,hr,hc⟩:=List.mem_flatten.1 hc
 exact h.one r hr c hc
theorem zad.get {α:Type} {R:List Value→α→Prop} {sz:Nat} {rows:List (List Value)} {xs:List α} (h:zad R sz rows xs) {i:Nat} {x:α} (hx:xs[i]?=some x) :
  ∃ r,rows[i]?=some r∧R r x∧(rows.flatten.drop (i*sz)).take sz=r∧i*sz+sz≤rows.flatten.length∧r.length=sz:=by
 obtain ⟨r,hr,hR⟩:=h.all.get hx
 refine ⟨r,hr,hR,zks rows i r h.len hr,?_,h.len r (List.mem_of_getElem? hr)⟩
 have hi:i<rows.length:=(List.getElem?_eq_some_iff.1 hr).1
 rw [zck rows h.len,← Nat.succ_mul]
 exact Nat.mul_le_mul_right _ hi
section
variable {F:Nat→Option (List Value)} {M:Nat→Option zak} {N:Nat} {K:zae}
structure yjh (M:Nat→Option zak) (e:TypeId) (sz:Nat) (v:Value) (n:Nat) (cs:List Value):Prop where
 len:cs.length=n*sz
 form:(v=.slice none 0 0∧n=0)∨∃ b c,v=.slice (some ⟨b,0,none⟩) n c∧n≤c∧c≤maxLen∧∃ rest,M b=some (.cells e (cs++rest) (c*sz))
theorem ya5 {e:TypeId} {sz bytes n m:Nat} {s x:Value} {cs news:List Value} (hs:yjh M e sz s n cs) (hx:zjv ⟨F,M,N⟩ sz x m news) (h1:∀ c∈news,c.oneCell'=true) (hb:(n+m)*bytes≤140737488355328) (hm:n+m≤maxLen) (h0:s=.slice none 0 0→m=0→K (.slice none 0 0) ⟨F,M,N⟩)
  (k:(s≠.slice none 0 0∨m≠0)→∀ b c,(N≤b∨s.ownBlock=some b)→n+m≤c→c≤maxLen→K (.slice (some ⟨b,0,none⟩) (n+m) c) ⟨F,upd (zgg M s) b (some (.cells e (cs++news) (c*sz))),max N (b+1)⟩):zbf e sz bytes s x K ⟨F,M,N⟩ :=
 .inl ⟨n,cs,m,news,⟨hs.len,hs.form⟩,hx,h1,hb,hm,h0,fun h b c hb hc hcm=>k h b c hb hc hcm⟩
end
end Go.Proofs.YtgcmbkoejjcjlaaGreatDoor.K
open Go Go.RowKit
set_option linter.unusedVariables false
set_option linter.unusedSimpArgs false
namespace Go.Proofs.YtgcmbkoejjcjlaaGreatDoor.K
variable {F:Nat→Option (List Value)} {M M0:Nat→Option zak} {N N0:Nat}
theorem Hp.wf.m (hw:(Hp.mk F M N).wf):∀ k,N≤k→M k=none:=hw.M
theorem Hp.wf.f (hw:(Hp.mk F M N).wf):∀ k,N≤k→F k=none:=hw.F
theorem zr3 (hs:zk7 M0 M) {b:Nat} (h:M b=none):M0 b=none:=by
 cases h0:M0 b with
 | none=>rfl
 | some c=>rw [hs b c h0] at h; cases h
theorem zbp (hc:(Hp.mk F M N).wf) (hs:zk7 M0 M):(Hp.mk F M N).wk ⟨F,M0,N⟩:=⟨rfl,hs,fun _ _ h=>.inl h,fun b cs h=>zr3 hs (hc.d b cs h)⟩
theorem yg5 (hc:(Hp.mk F M N).wf) (hs:zk7 M0 M) {b:Nat} (hb:M0 b=none) {e:TypeId} {cs:List Value} {tot:Nat} (hM:M b=some (.cells e cs tot)):(Hp.mk F M N).wk ⟨upd F b (some cs),M0,N⟩:=by
 refine ⟨rfl,hs,fun k cs' hk=>?_,fun k cs' hk=>?_⟩
 ·simp only [upd] at hk
  split at hk
  ·rename_i he; subst he; cases hk
   exact .inr ⟨hb,e,cs,tot,hM,List.prefix_refl _⟩
  ·exact .inl hk
 ·simp only [upd] at hk
  split at hk
  ·rename_i he; subst he; exact hb
  ·exact zr3 hs (hc.d k cs' hk)
theorem zc3 (hc:(Hp.mk F M N).wf) (hs:zk7 M0 M:=by repeat (first | exact zb6 _ | refine zav ?_ (hm _ (by first | assumption | omega)) | refine zx2 ?_ | simp only [zgg,Value.ownBlock])):(Hp.mk F M N).wk ⟨F,M0,N⟩:=zbp hc hs
theorem yah {e:TypeId} {sz b:Nat} {tot:Nat} (hM:M b=some (.cells e [] tot)) (ht:tot=0):yjh M e sz (.slice (some ⟨b,0,none⟩) 0 0) 0 [] :=
 ⟨by simp,.inr ⟨b,0,rfl,Nat.le_refl _,by simp [maxLen],[],by rw [hM,ht]; simp⟩⟩
theorem ya8 {sz m b c:Nat} {cells:List Value} (hl:cells.length=m*sz) (hc:m≤c):sF (upd F b (some cells)) sz (.slice (some ⟨b,0,none⟩) m c) m cells :=
 ⟨hl,.inr ⟨b,0,c,cells,rfl,hc,za5 _ _ _,by rw [List.drop_zero,← hl,List.take_length]⟩⟩
theorem zg5 {k:IntKind} (l:List Int):∀ c∈l.map (Value.int k),c.oneCell'=true:=fun c hc=>by
 obtain ⟨x,_,rfl⟩:=List.mem_map.1 hc; rfl
section
variable {K:zae} {sz b o:Nat} {e:TypeId} {cs:List Value} {tot:Nat}
theorem ldM {v:Value} (k:K v ⟨F,M,N⟩) (hM:M b=some (.cells e cs tot):=by repeat (first | exact za5 _ _ _ | assumption | refine (za4 _ _ (by omega)).trans ?_)) (hv:cs[o]?=some v:=by rfl):ld false sz (.pointer (some ⟨b,o,none⟩)) K ⟨F,M,N⟩ :=
 zfj (zao (zaq hM) hv) k
theorem zas {vs:List Value} (k:K (.agg vs.toArray) ⟨F,M,N⟩) (hM:M b=some (.cells e cs tot):=by repeat (first | exact za5 _ _ _ | assumption | refine (za4 _ _ (by omega)).trans ?_)) (hv:(cs.drop o).take sz=vs:=by rfl) (hl:o+sz≤cs.length:=by exact Nat.le_of_ble_eq_true rfl):ld true sz (.pointer (some ⟨b,o,none⟩)) K ⟨F,M,N⟩ :=
 zfj (zfx (zaq hM) hl hv) k
theorem stM {v:Value} {cs':List Value} (k:K undef ⟨F,upd M b (some (.cells e cs' tot)),N⟩) (hM:M b=some (.cells e cs tot):=by repeat (first | exact za5 _ _ _ | assumption | refine (za4 _ _ (by omega)).trans ?_)) (hc:zbs cs o v.cells.toList=cs':=by rfl) (hs:v.cells.size=sz:=by rfl)
  (h1:∀ c∈v.cells.toList,c.oneCell'=true:=by exact List.all_eq_true.1 rfl) (hl:o+sz≤cs.length:=by exact Nat.le_of_ble_eq_true rfl):st sz (.pointer (some ⟨b,o,none⟩)) v K ⟨F,M,N⟩ :=
 ya6 hM hs h1 hl hc k
theorem zrx {a:Option Addr} {len cap:Nat} {lo hi mx:Option Value} {h:Hp} (l u m:Nat) (h1:l≤u) (h2:u≤m) (h3:m≤cap) (k:K (.slice (if m=l then a else a.map (·.add (l*sz))) (u - l) (m - l)) h)
  (hl:bnd (some 0) lo=some (l:Int):=by rfl) (hh:bnd (some len) hi=some (u:Int):=by rfl) (hm:bnd (some cap) mx=some (m:Int):=by rfl) (h4:hi=none→mx=none∧len≤cap:=by (intro h; cases h)):pv (slV sz (.slice a len cap) lo hi mx) K h:=by
 refine ⟨_,?_,k⟩
 simp only [slV,hl,hh,hm]
 rw [if_pos ⟨by omega,by omega,by omega,by omega,fun hn=>by have := h4 hn; exact ⟨this.1,by omega⟩⟩]
 have e1:((u:Int) - (l:Int)).toNat=u - l:=by omega
 have e2:((m:Int) - (l:Int)).toNat=m - l:=by omega
 rw [e1,e2,Int.toNat_natCast]
 congr 2
 by_cases hml:m=l
 ·rw [if_pos hml,if_pos (by omega)]
 ·rw [if_neg hml,if_neg (by omega)]
theorem zmn {len cap:Nat} {h:Hp} {ki:IntKind} (u:Nat) (h2:u≤cap) (k:K (.slice (some ⟨b,o,none⟩) u cap) h):pv (slV sz (.slice (some ⟨b,o,none⟩) len cap) none (some (.int ki (u:Nat))) none) K h:=by
 refine zrx 0 u cap (Nat.zero_le _) h2 (Nat.le_refl _) ?_
 have:(if cap=0 then (some ⟨b,o,none⟩:Option Addr) else (some (⟨b,o,none⟩:Addr)).map (·.add (0*sz)))=some ⟨b,o,none⟩:=by
  split<;>simp [Addr.add]
 rw [this]; exact k
theorem zgu {len cap:Nat} {h:Hp} {ki:IntKind} (l:Nat) (h1:l≤len) (h2:len≤cap) (k:K (.slice (some (if cap=l then ⟨b,o,none⟩ else ⟨b,o+l*sz,none⟩)) (len - l) (cap - l)) h):pv (slV sz (.slice (some ⟨b,o,none⟩) len cap) (some (.int ki (l:Nat))) none none) K h:=by
 refine zrx l len cap h1 h2 (Nat.le_refl _) ?_ (h4:=fun _=>⟨rfl,h2⟩)
 have:(if cap=l then (some ⟨b,o,none⟩:Option Addr) else (some (⟨b,o,none⟩:Addr)).map (·.add (l*sz)))=some (if cap=l then ⟨b,o,none⟩ else ⟨b,o+l*sz,none⟩):=by
  split
  ·rfl
  ·simp [Addr.add_plain]
 rw [this]; exact k
end
def sR (F:Nat→Option (List Value)) (M:Nat→Option zak) (sz:Nat) (v:Value) (m:Nat) (cells:List Value):Prop :=
 cells.length=m*sz∧((∃ a c,v=.slice a 0 c∧m=0)∨∃ b o c cs,v=.slice (some ⟨b,o,none⟩) m c∧m≤c∧(F b=some cs∨∃ e tot,M b=some (.cells e cs tot))∧(cs.drop o).take (m*sz)=cells)
theorem sF.sR {sz m:Nat} {v:Value} {cells:List Value} (h:sF F sz v m cells):sR F M sz v m cells :=
 ⟨h.1,h.2.imp id fun ⟨b,o,c,cs,h1,h2,h3,h4⟩=>⟨b,o,c,cs,h1,h2,.inl h3,h4⟩⟩
theorem sR.read {sz m:Nat} {v:Value} {cells:List Value} (h:sR F M sz v m cells):zjv ⟨F,M,N⟩ sz v m cells:=by
 refine ⟨h.1,?_⟩
 rcases h.2 with ⟨a,c,h1,h2⟩ | ⟨b,o,c,cs,h1,h2,h3,h4⟩
 ·subst h2; exact .inl ⟨a,c,h1,rfl⟩
 ·exact .inr ⟨b,o,c,cs,h1,.inr ⟨h3,h4⟩⟩
theorem sR.form {sz m:Nat} {v:Value} {cells:List Value} (h:sR F M sz v m cells):∃ a c,v=.slice a m c∧m≤c:=by
 rcases h.2 with ⟨a,c,h1,h2⟩ | ⟨b,o,c,cs,h1,h2,h3,h4⟩
 ·subst h2; exact ⟨a,c,h1,Nat.zero_le _⟩
 ·exact ⟨_,c,h1,h2⟩
theorem sR.keep {F':Nat→Option (List Value)} {M':Nat→Option zak} {sz m:Nat} {v:Value} {cells:List Value} (h:sR F M sz v m cells) (hF:zac F F') (hM:∀ b c,v.ownBlock=some b→M b=some c→M' b=some c):sR F' M' sz v m cells :=
 ⟨h.1,h.2.imp id fun ⟨b,o,c,cs,h1,h2,h3,h4⟩=>⟨b,o,c,cs,h1,h2,h3.imp (hF _ _) (fun ⟨e,tot,he⟩=>⟨e,tot,hM _ _ (by rw [h1]; rfl) he⟩),h4⟩⟩
theorem sR.new (hm:∀ k,N≤k→M k=none) {sz m b:Nat} {x:Option zak} {v:Value} {cells:List Value} (h:sR F M sz v m cells) (hb:N≤b):sR F (upd M b x) sz v m cells :=
 h.keep (zac.refl _) fun k c _ hk=>(za4 _ _ (fun e=>by subst e; rw [hm _ hb] at hk; cases hk)).trans hk
theorem sR.mono {F':Nat→Option (List Value)} {sz m:Nat} {v:Value} {cells:List Value} (h:sR F M sz v m cells) (hF:zac F F'):sR F' M sz v m cells:=h.keep hF fun _ _ _ h=>h
def zdh (F:Nat→Option (List Value)) (M:Nat→Option zak) (N:Nat):Nat→Option (List Value):=fun b=>if N≤b then (match M b with | some (.cells _ cs _)=>some cs | _=>F b) else F b
theorem ylo {M':Nat→Option zak} {N':Nat} (hm:∀ k,N≤k→M k=none) (hk:∀ k,k<N→M' k=M k) (hc:(Hp.mk F M' N').wf):(Hp.mk F M' N').wk ⟨zdh F M' N,M,N'⟩:=by
 have hs:zk7 M M':=fun k c h=>by
  rcases Nat.lt_or_ge k N with hl | hl
  ·rw [hk k hl]; exact h
  ·rw [hm k hl] at h; cases h
 refine ⟨rfl,hs,fun b cs hb=>?_,fun b cs hb=>?_⟩
 ·simp only [zdh] at hb
  split at hb
  ·rename_i hl
   split at hb
   ·rename_i e cs' tot he; cases hb; exact .inr ⟨hm b hl,e,cs,tot,he,List.prefix_refl _⟩
   ·exact .inl hb
  ·exact .inl hb
 ·simp only [zdh] at hb
  split at hb
  ·rename_i hl; exact hm b hl
  ·exact zr3 hs (hc.d b cs hb)
theorem zag {M':Nat→Option zak} {N':Nat} (hc:(Hp.mk F M' N').wf):zac F (zdh F M' N):=fun b cs hb=>by
 simp only [zdh]
 split
 ·have:M' b=none:=hc.d b cs hb
  rw [this]; exact hb
 ·exact hb
theorem sR.frz {M':Nat→Option zak} {N':Nat} (hc:(Hp.mk F M' N').wf) {sz m:Nat} {v:Value} {cells:List Value} (h:sR F M' sz v m cells) (hb:∀ b,v.ownBlock=some b→N≤b∨M' b=none):sF (zdh F M' N) sz v m cells:=by
 refine ⟨h.1,h.2.imp id fun ⟨b,o,c,cs,h1,h2,h3,h4⟩=>⟨b,o,c,cs,h1,h2,?_,h4⟩⟩
 rcases h3 with h3 | ⟨e,tot,he⟩
 ·exact zag hc b cs h3
 ·rcases hb b (by rw [h1]; rfl) with hl | hl
  ·simp only [zdh,if_pos hl,he]
  ·rw [hl] at he; cases he
theorem zlp (M:Nat→Option zak) {v:Value} {k:Nat} (h:v.ownBlock≠some k):zgg M v k=M k:=by
 unfold zgg
 cases ho:v.ownBlock with
 | none=>rfl
 | some q=>exact za4 _ _ (fun e=>h (by rw [ho,e]))
theorem zie (A B C D:List Value) (h:B.length=C.length):zbs (A++B++D) A.length C=A++C++D:=by
 unfold zbs
 have e1:List.take A.length (A++B++D)=A:=by rw [List.append_assoc]; exact List.take_left
 have e2:List.drop (A.length+C.length) (A++B++D)=D:=by rw [← h,← List.length_append]; exact List.drop_left
 rw [e1,e2]
end Go.Proofs.YtgcmbkoejjcjlaaGreatDoor.K
open Go Go.RowKit
set_option linter.unusedVariables false
set_option linter.unusedSimpArgs false
namespace Go.Proofs.YtgcmbkoejjcjlaaGreatDoor.K
def F0 (w:World):Nat→Option (List Value):=fun b=>match w.heap[b]? with
 | some (.cells arr _ _)=>some arr.toList
 | _=>none
def h0 (w:World):Hp:=⟨F0 w,fun _=>none,w.heap.size⟩
theorem ykl {w:World} {b:Nat} {cs:List Value} (h:F0 w b=some cs):b<w.heap.size∧∃ arr e z,w.heap[b]?=some (.cells arr e z)∧arr.toList=cs:=by
 unfold F0 at h
 split at h
 ·rename_i arr e z hb
  injection h with h
  exact ⟨(Array.getElem?_eq_some_iff.1 hb).1,arr,e,z,hb,h⟩
 ·cases h
theorem ym8 (w:World):Rep w (h0 w) w:=by
 refine ⟨Below.refl _ _,Nat.le_refl _,Nat.le_refl _,Nat.le_refl _,fun b cs hb=>?_,fun b e cs tot hb=>?_,fun b o hb=>?_⟩
 ·obtain ⟨h1,arr,e,z,h2,h3⟩:=ykl hb
  exact ⟨h1,arr,e,z,h2,by rw [h3]; exact List.prefix_refl _⟩
 ·cases hb
 ·cases hb
theorem yl1 {P:Program} {f:FuncId} {args:Array Value} {K:Value→Prop} {w:World} (hd:call P f args (fun v _=>K v) (fun _ h=>h=zh4) (h0 w)) :
  Calls P f args w fun e w'=>(∃ v,e=.returned v∧K v)∧Below w.heap.size w w':=by
 have r0:Rep { w with drawn:=0 } (h0 w) w:=by
  have r:=ym8 w
  exact ⟨⟨rfl,rfl,rfl,Nat.le_refl _,fun _ _=>rfl⟩,Nat.zero_le _,r.nx,r.base,r.fr,r.cl,r.ob⟩
 refine (hd { w with drawn:=0 } w (fun _=>rfl) r0).mono fun e w' ⟨h',r',he⟩=>?_
 cases e with
 | returned v=>exact ⟨⟨v,rfl,he⟩,⟨r'.below.os,r'.below.tape,r'.below.output,r'.below.size,r'.below.block⟩⟩
 | panicked c=>
  subst he
  have := (r'.fr 0 [] rfl).1
  exact absurd this (Nat.not_lt_zero _)
 | outgrown=>exact he.elim
theorem yn3 {P:Program} {f:FuncId} {args:Array Value} {K:Value→Prop} {w:World} (hd:call P f args (fun v _=>K v) (fun _ _=>False) (h0 w)) :
  Calls P f args w fun e w'=>(∃ v,e=.returned v∧K v)∧Below w.heap.size w w'∧w.drawn≤w'.drawn :=
 (hd w w (fun hb=>hb.elim) (ym8 w)).mono fun e w' ⟨h',r',he⟩=>by
  cases e with
  | returned v=>exact ⟨⟨v,rfl,he⟩,r'.below,r'.dr⟩
  | panicked c=>exact he.elim
  | outgrown=>exact he.elim
structure OpensK {α:Type} (P:Program) (t:TypeId) (sz:Nat) (R:(Nat→Option (List Value))→List Value→α→Prop):Prop where
 size:P.cellsOf t=sz
 get:∀ {H:Type} {enc:TypeId×Value→H} {w:World} {base:Nat} {sp:Nat→Bool} {hd:Bool} {fuel:Nat} {cs:List Value} {x:DataW H×List MemPlace},
  DataW.trod enc P w base sp hd fuel t cs=some x→(∀ n∈x.1.weights P t,n≤reachBytes)→∃ y,R (F0 w) cs y
 one:∀ {F:Nat→Option (List Value)} {cs:List Value} {y:α},R F cs y→cs.length=sz∧∀ c∈cs,c.oneCell'=true
def rI (k:IntKind) (F:Nat→Option (List Value)) (cs:List Value) (n:Int):Prop:=cs=[.int k n]∧(Lit.int k n).wf=true
theorem opensK_int {P:Program} {t:TypeId} {k:IntKind} (ht:P.underlying t=some (.int k)) (hs:P.cellsOf t=1):OpensK P t 1 (rI k):=by
 refine ⟨hs,fun {H enc w base sp hd fuel cs x} h hwt=>?_,fun {F cs y} h=>by obtain ⟨rfl,_⟩:=h; exact ⟨rfl,List.all_eq_true.1 rfl⟩⟩
 cases fuel with
 | zero=>simp [DataW.trod] at h
 | succ n=>
  unfold DataW.trod at h
  rw [ht] at h
  split at h<;>simp_all
  exact ⟨_,rfl,h.1.2⟩
def rB (F:Nat→Option (List Value)) (cs:List Value) (b:Bool):Prop:=cs=[.bool b]
theorem opensK_bool {P:Program} {t:TypeId} (ht:P.underlying t=some .bool) (hs:P.cellsOf t=1):OpensK P t 1 rB:=by
 refine ⟨hs,fun {H enc w base sp hd fuel cs x} h hwt=>?_,fun {F cs y} h=>by obtain rfl:=h; exact ⟨rfl,List.all_eq_true.1 rfl⟩⟩
 cases fuel with
 | zero=>simp [DataW.trod] at h
 | succ n=>
  unfold DataW.trod at h
  rw [ht] at h
  split at h
  all_goals first | (simp at h; done) | skip
  all_goals first | (cases ‹some TypeDesc.bool=_›; done) | exact ⟨_,rfl⟩
def rT (F:Nat→Option (List Value)) (cs:List Value) (s:ByteArray):Prop:=cs=[.string s]∧s.size≤maxLen
theorem opensK_string {P:Program} {t:TypeId} (ht:P.underlying t=some .string) (hs:P.cellsOf t=1):OpensK P t 1 rT:=by
 refine ⟨hs,fun {H enc w base sp hd fuel cs x} h hwt=>?_,fun {F cs y} h=>by obtain ⟨rfl,_⟩:=h; exact ⟨rfl,List.all_eq_true.1 rfl⟩⟩
 cases fuel with
 | zero=>simp [DataW.trod] at h
 | succ n=>
  unfold DataW.trod at h
  rw [ht] at h
  split at h<;>simp_all
  exact ⟨_,rfl,h.1⟩
theorem zno {α β:Type} {f:α→Option β}:∀ {l:List α} {r:List β},l.mapM f=some r→r.length=l.length∧∀ (i:Nat) (a:α),l[i]?=some a→f a=r[i]?
 | [],r,h=>by simp at h; subst h; simp
 | a::l,r,h=>by
  rw [List.mapM_cons] at h
  cases hf:f a with
  | none=>simp [hf] at h
  | some b=>
   cases hm:l.mapM f with
   | none=>simp [hf,hm] at h
   | some r'=>
    simp [hf,hm] at h
    subst h
    obtain ⟨h1,h2⟩:=zno hm
    refine ⟨by simp [h1],fun i x hx=>?_⟩
    cases i with
    | zero=>simp at hx; subst hx; simpa using hf
    | succ i=>simpa using h2 i x (by simpa using hx)
theorem yey {w:World} {base:Nat} {a:Addr} {n:Nat} {cs:List Value} (h:w.cells? base a n=some cs):cs.length=n∧∀ (i:Nat) (u:Value),cs[i]?=some u→w.cell? (a.add i)=some u:=by
 unfold World.cells? at h
 split at h
 ·obtain ⟨h1,h2⟩:=zno h
  refine ⟨by simpa using h1,fun i u hu=>?_⟩
  have hi:i<n:=by
   have := (List.getElem?_eq_some_iff.1 hu).1
   rw [h1] at this
   simpa using this
  rw [← hu]
  exact h2 i i (by simp [hi])
 ·simp at h
def rS {α:Type} (sz:Nat) (R:(Nat→Option (List Value))→List Value→α→Prop) (F:Nat→Option (List Value)) (cs:List Value) (ys:List α):Prop :=
 ∃ v rows,cs=[v]∧sF F sz v ys.length rows.flatten∧zad (R F) sz rows ys∧ys.length≤140737488351232
theorem ycc {w:World} {a:Addr} {u:Value} (h:w.cell? a=some u):a.spot=none∧∃ cs,F0 w a.block=some cs∧cs[a.off]?=some u:=by
 unfold World.cell? at h
 split at h
 ·rename_i arr e z hb
  split at h
  ·cases h
  ·rename_i hsp
   refine ⟨by cases hs:a.spot<;>simp_all,arr.toList,by simp [F0,hb],by simpa using h⟩
 ·cases h
theorem zlh {H:Type} {P:Program} {e:TypeId}:∀ {l:List (DataW H)} {d:DataW H},d∈l→∀ n∈d.weights P e,n∈DataW.weightsAll P e l
 | a::l,d,h,n,hn=>by
  simp only [DataW.weightsAll,List.mem_append]
  rcases List.mem_cons.1 h with h | h
  ·exact .inl (h ▸ hn)
  ·exact .inr (zlh h n hn)
theorem opensK_slice {α:Type} {P:Program} {t e:TypeId} {sz:Nat} {R:(Nat→Option (List Value))→List Value→α→Prop} (ht:P.underlying t=some (.slice e)) (hs:P.cellsOf t=1) (hby:Nat.blt 0 (P.bytesOf e)=true) (hz:0<sz) (he:OpensK P e sz R) :
  OpensK P t 1 (rS sz R):=by
 refine ⟨hs,fun {H enc w base sp hd fuel cs x} h hwt=>?_,fun {F cs y} h=>by
  obtain ⟨v,rows,rfl,hv,_⟩:=h
  obtain ⟨a,c,rfl,_⟩:=hv.form
  exact ⟨rfl,List.all_eq_true.1 rfl⟩⟩
 rcases DataW.trod_slice ht h with ⟨rfl,rfl⟩ | ⟨a,len,cap,elems,rest,n,_,rfl,rfl,hb,hl,hm,hlen,hel,hsp,hns⟩
 ·exact ⟨[],_,[],rfl,sF.nil _ _ _,zad.nil _ _,Nat.zero_le _⟩
 ·have hwt1:len≤140737488351232∧∀ d∈elems,∀ n∈d.1.weights P e,n≤reachBytes:=by
   simp only [DataW.weights,ht] at hwt
   refine ⟨?_,fun d hd n hn=>hwt n (List.mem_cons_of_mem _ (List.mem_append.2 (.inl (zlh (List.mem_map_of_mem hd) n hn))))⟩
   have h1:=hwt _ List.mem_cons_self
   simp only [List.length_map,hlen] at h1
   have h2:0<P.bytesOf e:=Nat.le_of_ble_eq_true hby
   have h3:len+rest.length≤(len+rest.length)*P.bytesOf e:=Nat.le_mul_of_pos_right _ h2
   have h4:reachBytes=140737488351232:=by decide
   omega
  have hex:∀ m,m≤len→∃ (ys:List α) (rows:List (List Value)),ys.length=m∧zad (R (F0 w)) sz rows ys∧∀ (i:Nat) (u:Value),rows.flatten[i]?=some u→w.cell? (a.add i)=some u:=by
   intro m
   induction m with
   | zero=>exact fun _=>⟨[],[],rfl,zad.nil _ _,fun i y h=>by simp at h⟩
   | succ m ih=>
    intro hm'
    obtain ⟨ys,rows,h1,h2,h2'⟩:=ih (by omega)
    have h3:=hel m (by omega)
    rw [List.getElem?_eq_getElem (by omega)] at h3
    obtain ⟨c,hc,h4⟩:=Option.bind_eq_some_iff.1 h3
    obtain ⟨y,hy⟩:=he.get h4 (hwt1.2 _ (List.getElem_mem _))
    obtain ⟨ho1,ho2⟩:=he.one hy
    refine ⟨ys++[y],rows++[c],by simp [h1],h2.snoc ho1 ho2 hy,fun i u hu=>?_⟩
    have hfl:=h2.flen
    rw [h1] at hfl
    rw [List.flatten_append] at hu
    rcases Nat.lt_or_ge i (m*sz) with h5 | h5
    ·rw [List.getElem?_append_left (by omega)] at hu
     exact h2' i u hu
    ·rw [List.getElem?_append_right (by omega)] at hu
     obtain ⟨_,h7⟩:=yey hc
     have h8:=h7 (i - m*sz) u (by rw [hfl] at hu; simpa using hu)
     rw [he.size,Addr.add_add] at h8
     rwa [show m*sz+(i - m*sz)=i by omega] at h8
  obtain ⟨ys,rows,h1,h2,h3⟩:=hex len (Nat.le_refl _)
  subst h1
  refine ⟨ys,_,rows,rfl,⟨h2.flen,?_⟩,h2,hwt1.1⟩
  cases hy:ys with
  | nil=>exact .inl ⟨_,_,rfl,rfl⟩
  | cons y0 ys0=>
   rw [← hy]
   have hpos:0<ys.length:=by rw [hy]; simp
   have hfl:=h2.flen
   have hpz:0<ys.length*sz:=Nat.mul_pos hpos hz
   have hsp0:a.spot=none:=(ycc (by simpa [Addr.add] using h3 0 _ (List.getElem?_eq_getElem (by omega)))).1
   obtain ⟨ab,ao,asp⟩:=a
   simp only at hsp0
   subst hsp0
   have key:∀ i,i<ys.length*sz→∃ cs,F0 w ab=some cs∧cs[ao+i]?=rows.flatten[i]?:=by
    intro i hi
    have h4:=h3 i _ (List.getElem?_eq_getElem (by omega))
    rw [Addr.add_plain] at h4
    obtain ⟨_,cs,h6,h7⟩:=ycc h4
    exact ⟨cs,h6,by rw [List.getElem?_eq_getElem (l:=rows.flatten) (by omega)]; exact h7⟩
   obtain ⟨cs,h6,_⟩:=key 0 hpz
   refine .inr ⟨ab,ao,cap,cs,rfl,hl,h6,?_⟩
   have key2:∀ i,i<ys.length*sz→cs[ao+i]?=rows.flatten[i]?:=fun i hi=>by
    obtain ⟨cs',h7,h8⟩:=key i hi
    rw [h6] at h7
    injection h7 with h7
    rw [h7]; exact h8
   apply List.ext_getElem?
   intro i
   rw [List.getElem?_take]
   split
   ·rename_i hi
    rw [List.getElem?_drop,key2 i hi]
   ·exact (List.getElem?_eq_none (l:=rows.flatten) (by omega)).symm
def zpm {α:Type} (P:Program) (fs:List Go.Field) (o sz:Nat) (R:(Nat→Option (List Value))→List Value→α→Prop):Prop :=
 (∀ {H:Type} {enc:TypeId×Value→H} {w:World} {base:Nat} {sp:Nat→Bool} {hd:Bool} {fuel:Nat} {cs:List Value} {xs:List (DataW H×List MemPlace)},
  (fs.mapM fun f=>DataW.trod enc P w base sp hd fuel f.type ((cs.drop f.offset).take (P.cellsOf f.type)))=some xs→(∀ n∈DataW.weightsEach P (fs.map (·.type)) (xs.map (·.1)),n≤reachBytes)→cs.length=o+sz→∃ y,R (F0 w) (cs.drop o) y) ∧
 ∀ {F:Nat→Option (List Value)} {cs:List Value} {y:α},R F cs y→cs.length=sz∧∀ c∈cs,c.oneCell'=true
def rP {α β:Type} (A:(Nat→Option (List Value))→List Value→α→Prop) (B:(Nat→Option (List Value))→List Value→β→Prop) (F:Nat→Option (List Value)) (cs:List Value) (p:α×β):Prop:=∃ c1 c2,cs=c1++c2∧A F c1 p.1∧B F c2 p.2
theorem opensFK_one {α:Type} {P:Program} {f:Go.Field} {o sz:Nat} {R:(Nat→Option (List Value))→List Value→α→Prop} (ho:f.offset=o) (h:OpensK P f.type sz R):zpm P [f] o sz R:=by
 refine ⟨fun {H enc w base sp hd fuel cs xs} hm hwt hl=>?_,h.one⟩
 obtain ⟨_,h2⟩:=zno hm
 have h3:=h2 0 f rfl
 have hx:(cs.drop f.offset).take (P.cellsOf f.type)=cs.drop o:=by
  rw [ho,h.size,List.take_of_length_le (by rw [List.length_drop]; omega)]
 rw [hx] at h3
 cases hx0:xs[0]? with
 | none=>
  have := (zno hm).1
  rw [List.getElem?_eq_none_iff] at hx0
  simp at this
  omega
 | some x=>
  rw [hx0] at h3
  refine h.get h3 fun n hn=>hwt n ?_
  refine DataW.weights_mem_each (j:=0) rfl ?_ n hn
  rw [List.getElem?_map,hx0]; rfl
theorem opensFK_cons {α β:Type} {P:Program} {f:Go.Field} {fs:List Go.Field} {o sa sb:Nat} {A:(Nat→Option (List Value))→List Value→α→Prop} {B:(Nat→Option (List Value))→List Value→β→Prop} (ho:f.offset=o) (h:OpensK P f.type sa A) (hs:zpm P fs (o+sa) sb B) :
  zpm P (f::fs) o (sa+sb) (rP A B):=by
 refine ⟨fun {H enc w base sp hd fuel cs xs} hm hwt hl=>?_,fun {F cs y} hr=>?_⟩
 ·rw [List.mapM_cons] at hm
  obtain ⟨x,h1,h2⟩:=Option.bind_eq_some_iff.1 hm
  obtain ⟨xs',h3,h4⟩:=Option.bind_eq_some_iff.1 h2
  obtain rfl:x::xs'=xs:=by simpa using h4
  simp only [List.map_cons,DataW.weightsEach,List.mem_append] at hwt
  obtain ⟨y,hy⟩:=h.get h1 (fun n hn=>hwt n (.inl hn))
  obtain ⟨z,hz⟩:=hs.1 h3 (fun n hn=>hwt n (.inr hn)) (by omega)
  refine ⟨(y,z),_,_,?_,hy,hz⟩
  rw [ho,h.size,← List.drop_drop,List.take_append_drop]
 ·obtain ⟨c1,c2,rfl,h1,h2⟩:=hr
  obtain ⟨a1,a2⟩:=h.one h1
  obtain ⟨b1,b2⟩:=hs.2 h2
  refine ⟨by simp; omega,fun c hc=>?_⟩
  rcases List.mem_append.1 hc with hc | hc
  ·exact a2 c hc
  ·exact b2 c hc
theorem opensK_struct {α:Type} {P:Program} {t:TypeId} {fs:Array Go.Field} {sz:Nat} {R:(Nat→Option (List Value))→List Value→α→Prop} (ht:P.underlying t=some (.struct fs)) (hs:P.cellsOf t=sz) (h:zpm P fs.toList 0 sz R):OpensK P t sz R:=by
 refine ⟨hs,fun {H enc w base sp hd fuel cs x} hx hwt=>?_,h.2⟩
 cases fuel with
 | zero=>simp [DataW.trod] at hx
 | succ n=>
  have key:cs.length=P.cellsOf t∧∃ xs,(fs.toList.mapM fun f=>DataW.trod enc P w base sp hd n f.type ((cs.drop f.offset).take (P.cellsOf f.type)))=some xs∧x.1=.agg (xs.map (·.1)):=by
   unfold DataW.trod at hx
   rw [ht] at hx
   split at hx
   case h_9=>
    rename_i fs' e
    injection e with e
    injection e with e
    subst e
    split at hx
    ·rename_i hc
     refine ⟨hc,?_⟩
     obtain ⟨xs,h1,h2⟩:=Option.map_eq_some_iff.1 hx
     exact ⟨xs,h1,by rw [← h2]⟩
    ·exact absurd hx (by simp)
   all_goals first | (exfalso; simp at hx; done) | (exfalso; simp_all; done)
  obtain ⟨hc,xs,hm,hx1⟩:=key
  rw [hx1] at hwt
  simp only [DataW.weights,ht] at hwt
  obtain ⟨y,hy⟩:=h.1 hm hwt (by rw [hc,hs]; omega)
  exact ⟨y,by simpa using hy⟩
theorem OpensK.arg {α:Type} {P:Program} {t:TypeId} {sz:Nat} {R:(Nat→Option (List Value))→List Value→α→Prop} (h:OpensK P t sz R) {H:Type} {enc:TypeId×Value→H} {w:World} {base:Nat} {sp:Nat→Bool} {hd:Bool} {v:Value} {x:DataW H} {ps:List MemPlace}
  (hx:DataW.Trod enc P w base sp hd t v x ps) {ts:List TypeId} {ds:List (DataW H)} (hsz:(DataW.weightsEach P ts ds).all (· ≤ reachBytes)=true) (j:Nat) (ht:ts[j]?=some t) (hd':ds[j]?=some x):∃ y,R (F0 w) v.cells.toList y:=by
 obtain ⟨fuel,hx⟩:=hx
 exact h.get hx fun n hn=>by simpa using List.all_eq_true.1 hsz n (DataW.weights_mem_each ht hd' n hn)
theorem yc0 {k:IntKind} {F:Nat→Option (List Value)} {v:Value} {ys:List Int} (h:rS 1 (rI k) F [v] ys):sF F 1 v ys.length (ys.map (.int k))∧(∀ y∈ys,(Lit.int k y).wf=true)∧ys.length≤140737488351232:=by
 obtain ⟨v',rows,e,hv,hr,hm⟩:=h
 injection e with e _
 subst e
 have:rows.flatten=ys.map (.int k):=by
  have h1:∀ (rows:List (List Value)) (ys:List Int),zi7 (rI k F) rows ys→rows.flatten=ys.map (.int k):=by
   intro rows
   induction rows with
   | nil=>intro ys h; have := h.1; cases ys with | nil=>rfl | cons _ _=>simp at this
   | cons r rows ih=>
    intro ys h
    cases ys with
    | nil=>have := h.1; simp at this
    | cons y ys=>
     obtain ⟨h2,_⟩:=h.2 0 r y rfl rfl
     rw [List.flatten_cons,h2,ih ys ⟨by have := h.1; simp at this; omega,fun i a b ha hb=>h.2 (i+1) a b (by simpa using ha) (by simpa using hb)⟩]
     rfl
  exact h1 _ _ hr.all
 rw [this] at hv
 refine ⟨hv,fun y hy=>?_,hm⟩
 obtain ⟨j,hj,rfl⟩:=List.mem_iff_getElem.1 hy
 obtain ⟨r,_,h2⟩:=hr.all.get (List.getElem?_eq_getElem hj)
 exact h2.2
end Go.Proofs.YtgcmbkoejjcjlaaGreatDoor.K
open Go Go.RowKit Go.MapKept
set_option linter.unusedVariables false
set_option linter.unusedSimpArgs false
namespace Go.Proofs.YtgcmbkoejjcjlaaGreatDoor.K
section
variable {F:Nat→Option (List Value)} {M:Nat→Option zak} {N:Nat} {K:zae} {P:Program}
theorem yjx (k:∀ b,N≤b→K (.map (some b)) ⟨F,upd M b (some (.obj (.map #[] 0))),b+1⟩):mkm K ⟨F,M,N⟩:=fun b hb=>k b hb
theorem yr8 {t k e:TypeId} {d:TypeDesc} {b:Nat} {es:Array MapEntry} {clock:Nat} {key z:Value} (ht:P.underlying t=some (.map k e)) (hk:P.underlying k=some d) (hz:∀ w:World,(zeroValue e).run P w=.ok z w) (hkey:IsKey d key) (hks:∀ x∈es.toList,IsKey d x.key)
  (hM:M b=some (.obj (.map es clock)))
  (miss:(∀ x∈es.toList,x.key≠key)→K (.tuple #[z,.bool false]) ⟨F,M,N⟩)
  (hit:∀ (j:Nat) (x:MapEntry),es.toList[j]?=some x→x.key=key→K (.tuple #[x.val,.bool true]) ⟨F,M,N⟩):lkp P t (.map (some b)) key true K ⟨F,M,N⟩:=by
 rcases findNow_spec hkey es.toList 0 hks with ⟨h1,h2⟩ | ⟨j,e0,h1,h2,h3⟩
 ·refine ⟨b,es,clock,_,rfl,hM,fun w hb=>?_,miss h2⟩
  simp [Instr.lookup,run_underlying ht,MapKept.run_getObj_map hb,run_checkKey hk hkey,run_findKey hk h1,hz,Result.andThen]
 ·refine ⟨b,es,clock,_,rfl,hM,fun w hb=>?_,hit j e0 h2 h3⟩
  simp [Instr.lookup,run_underlying ht,MapKept.run_getObj_map hb,run_checkKey hk hkey,run_findKey hk h1,Result.andThen]
theorem ym0 {t k e:TypeId} {d:TypeDesc} {b:Nat} {es:Array MapEntry} {clock:Nat} {key v:Value} (ht:P.underlying t=some (.map k e)) (hk:P.underlying k=some d) (hkey:IsKey d key) (hks:∀ x∈es.toList,IsKey d x.key)
  (hM:M b=some (.obj (.map es clock)))
  (new:(∀ x∈es.toList,x.key≠key)→K undef ⟨F,upd M b (some (.obj (.map (es.push ⟨key,v,clock⟩) (clock+1)))),N⟩)
  (old:∀ (j:Nat) (x:MapEntry),es.toList[j]?=some x→x.key=key→K undef ⟨F,upd M b (some (.obj (.map (es.modify j (fun e'=>{ e' with key:=key,val:=v })) clock))),N⟩):mup P t (.map (some b)) key v K ⟨F,M,N⟩:=by
 rcases findNow_spec hkey es.toList 0 hks with ⟨h1,h2⟩ | ⟨j,e0,h1,h2,h3⟩
 ·refine ⟨b,es,clock,_,_,rfl,hM,fun w hb=>?_,new h2⟩
  simp [Instr.mapUpdate,run_underlying ht,MapKept.run_getObj_map hb,run_checkKey hk hkey,run_findKey hk h1,MapKept.run_setObj_map _ hb,Result.andThen]
 ·have hj:es[j]?=some e0:=by simpa using h2
  have hkeep:∀ w:World,(Instr.keyThatStays e0.key key).run P w=.ok key w:=fun w=>by rw [h3]; exact run_keyThatStays hkey
  refine ⟨b,es,clock,_,_,rfl,hM,fun w hb=>?_,old j e0 h2 h3⟩
  simp [Instr.mapUpdate,run_underlying ht,MapKept.run_getObj_map hb,run_checkKey hk hkey,run_findKey hk h1,hj,hkeep,MapKept.run_setObj_map _ hb,Result.andThen]
end
section
variable {F:Nat→Option (List Value)} {M:Nat→Option zak} {N:Nat} {K:zae} {P:Program}
theorem yns {t k e:TypeId} {d:TypeDesc} {b:Nat} {es:Array MapEntry} {clock:Nat} {key z:Value} (ht:P.underlying t=some (.map k e)) (hk:P.underlying k=some d) (hz:∀ w:World,(zeroValue e).run P w=.ok z w) (hkey:IsKey d key) (hks:∀ x∈es.toList,IsKey d x.key)
  (hM:M b=some (.obj (.map es clock)))
  (miss:(∀ x∈es.toList,x.key≠key)→K z ⟨F,M,N⟩)
  (hit:∀ (j:Nat) (x:MapEntry),es.toList[j]?=some x→x.key=key→K x.val ⟨F,M,N⟩):lkp P t (.map (some b)) key false K ⟨F,M,N⟩:=by
 rcases findNow_spec hkey es.toList 0 hks with ⟨h1,h2⟩ | ⟨j,e0,h1,h2,h3⟩
 ·refine ⟨b,es,clock,_,rfl,hM,fun w hb=>?_,miss h2⟩
  simp [Instr.lookup,run_underlying ht,MapKept.run_getObj_map hb,run_checkKey hk hkey,run_findKey hk h1,hz,Result.andThen]
 ·refine ⟨b,es,clock,_,rfl,hM,fun w hb=>?_,hit j e0 h2 h3⟩
  simp [Instr.lookup,run_underlying ht,MapKept.run_getObj_map hb,run_checkKey hk hkey,run_findKey hk h1,Result.andThen]
end
end Go.Proofs.YtgcmbkoejjcjlaaGreatDoor.K
open Go Go.RowKit Go.Proofs.YtgcmbkoejjcjlaaGreatDoor.K
set_option linter.unusedVariables false
set_option maxRecDepth 100000
namespace Go.Proofs.YtgcmbkoejjcjlaaGreatDoor.T
section
variable (K:zae) (E:zat) (k1 k2 k3 k4 k5:Env→Hp→Prop) (x0 x1 x2 x3 x4 x5 x6 x7 x8 x9 x10 x11 x12 x13 x14 x15 x16 x17 x18 x19 x20 x21 x22 x23 x24 x25 x26 x27 x28 x29 x30 x31 x32 x33 x34 x35 x36 x37 x38 x39 x40 x41 x42 x43 x44 x45 x46 x47 x48 x49 x50 x51 x52 x53 x54 x55 x56 x57 x58 x59 x60 x61 x62 x63 x64 x65 x66 x67 x68 x69 x70 x71 x72 v0 v1 v2 v3 v4 v5 v6 v7 v8 v9 v10 v11 v12 v13 v14 v15 v16 v17 v18 v19 v20 v21 v22 v23 v24 v25 v26 v27 v28 v29 v30 v31 v32 v33 v34 v35 v36 v37 v38 v39 v40 v41 v42 v43 v44 v45 v46 v47 v48 v49 v50 v51 v52 v53 v54 v55 v56 v57 v58 v59 v60 v61 v62 v63 v64 v65 v66 v67 v68 v69 v70 v71 v72:Value) (j:Nat→Value)
abbrev q12:QD:=zab Tryz.prog Tryz.f12.results.toList K E
abbrev d12 (p:List Nat):QD→Env→Hp→Prop:=den Tryz.prog (sel (za8 Tryz.f12) p)
abbrev zz1:=za6 k2 (blk 2 (za6 (d12 [1,1,0,1,0,0,1,0,0,1,1,1] (blk 1 (za6 (d12 [1,1,0,1,0,0,1,1] (za6 k1 (blk 0 (za6 (d12 [1,1,1] (q12 K E)) (q12 K E))))) (za6 k1 (blk 0 (za6 (d12 [1,1,1] (q12 K E)) (q12 K E))))))) (blk 1 (za6 (d12 [1,1,0,1,0,0,1,1] (za6 k1 (blk 0 (za6 (d12 [1,1,1] (q12 K E)) (q12 K E))))) (za6 k1 (blk 0 (za6 (d12 [1,1,1] (q12 K E)) (q12 K E))))))))
abbrev zze:=za6 k1 (blk 0 (za6 (d12 [1,1,1] (q12 K E)) (q12 K E)))
def zeh (j:Nat→Value):Env:=#[x0,x1,x2,v3,v4,(j 5),(j 6),(j 7),(j 8),(j 9),(j 10),(j 11),(j 12),(j 13),(j 14),(j 15),(j 16),(j 17),(j 18),(j 19),(j 20),(j 21),(j 22),(j 23),(j 24),(j 25),(j 26),(j 27),(j 28),(j 29),(j 30),(j 31),(j 32),(j 33),(j 34),(j 35),(j 36),(j 37),(j 38),(j 39),(j 40),(j 41),(j 42),(j 43),(j 44),(j 45),(j 46),(j 47),(j 48),(j 49),(j 50),(j 51),(j 52),(j 53),(j 54),(j 55),(j 56),(j 57),(j 58),(j 59),(j 60),(j 61),(j 62),(j 63),x64,x65,x66,x67,x68,x69,x70,x71,x72]
def zb5 (j:Nat→Value):Env:=#[x0,x1,x2,x3,x4,x5,v6,v7,x8,x9,x10,x11,x12,x13,x14,x15,x16,x17,x18,x19,x20,x21,x22,x23,x24,x25,x26,(j 27),(j 28),(j 29),(j 30),(j 31),(j 32),(j 33),(j 34),(j 35),(j 36),(j 37),(j 38),(j 39),(j 40),(j 41),(j 42),(j 43),(j 44),(j 45),(j 46),(j 47),(j 48),(j 49),(j 50),(j 51),(j 52),(j 53),(j 54),(j 55),(j 56),(j 57),(j 58),(j 59),x60,x61,x62,x63,x64,x65,x66,x67,x68,x69,x70,x71,x72]
theorem t12:d12 [] (q12 K E) #[x0,U,U,U,U,U,U,U,U,U,U,U,U,U,U,U,U,U,U,U,U,U,U,U,U,U,U,U,U,U,U,U,U,U,U,U,U,U,U,U,U,U,U,U,U,U,U,U,U,U,U,U,U,U,U,U,U,U,U,U,U,U,U,U,U,U,U,U,U,U,U,U,U] =
 lp (fun k1=>d12 [1,1,0,1,0,0] (zze K E k1)) (zeh x0 U (.slice none 0 0) U U U U U U U U U (.slice none 0 0) (.int .i64 0) (jf #[])):=by kernel_rfl
theorem ztf:d12 [1,1,0,1,0,0] (zze K E k1) (zeh x0 x1 x2 x64 x65 x66 x67 x68 x69 x70 x71 x72 v3 v4 j) =
 pv (za9 x0) fun t1=>
 pv (za1 .none .lss v4 t1) fun t2=>
 gdK t2 true (fun k=>k v4) fun t3=>
 gdK t2 true (fun k=>pv (za1 .none .lss t3 (.int .i64 4)) k) fun t4=>
 pv (zah t2 t4 (.bool false)) fun t5=>
 cnd t5 (
  pv (iaV none 2 x0 v4) fun t6=>
  pv (faV 0 t6) fun t7=>
  ld false 1 t7 fun t8=>
  pv (za1 .none .rem t8 (.int .u16 200)) fun t9=>
  pv (cvV .i64 t9) fun t10=>
  pv (za1 .none .add (.int .i64 1) t10) fun t11=>
  pv (bdC #[(.int .i64 0),(.slice none 0 0)] [(0,1),(1,1)] #[(0,t11)]) fun t12=>
  nw 88 [(.int .i64 0),(.slice none 0 0)] fun t13=>
  st 2 t13 t12 fun _=>
  lp (fun k2=>d12 [1,1,0,1,0,0,1,0,0,1,1,0,1,0,0] (zz1 K E k1 k2)) (zb5 x0 x1 x2 v3 v4 t13 v4 x0 t1 t2 t2 t3 t4 t5 (j 16) (j 17) x0 v4 t6 t7 t8 t9 t10 t11 t12 (j 60) (j 61) (j 62) (j 63) x64 x65 x66 x67 x68 x69 x70 x71 x72 (.int .i64 1) (.int .i64 0) (jf #[U,U,U,U,U,U,U,U,U,U,U,U,U,U,U,U,U,U,U,U,U,U,U,U,U,U,U,(j 27),(j 28),(j 29),(j 30),(j 31),(j 32),(j 33),(j 34),(j 35),(j 36),(j 37),(j 38),(j 39),(j 40),(j 41),(j 42),(j 43),(j 44),(j 45),(j 46),(j 47),(j 48),(j 49),(j 50),(j 51),(j 52),(j 53),(j 54),(j 55),(j 56),(j 57),(j 58),(j 59)]))) (
  pv (za9 v3) fun t14=>
  pv (za1 .none .eql t14 (.int .i64 0)) fun t15=>
  cnd t15 (
  nws 3 1 (bsC #[(.int .i64 0)] 1 1 #[(0,(.int .i64 10))]) fun t16=>
  pv (bdC #[(.int .i64 0),(.slice none 0 0)] [(0,1),(1,1)] #[(0,(.int .i64 100)),(1,t16)]) fun t17=>
  nws 88 1 (bsC #[(.int .i64 0),(.slice none 0 0)] 2 1 #[(0,t17)]) fun t18=>
  zbf 88 2 32 v3 t18 fun t19=>
  d12 [1,1,1,1] (q12 K E) #[x0,x1,x2,t19,v4,(j 5),(j 6),(j 7),v4,x0,t1,t2,t2,t3,t4,t5,(j 16),(j 17),(j 18),(j 19),(j 20),(j 21),(j 22),(j 23),(j 24),(j 25),(j 26),(j 27),(j 28),(j 29),(j 30),(j 31),(j 32),(j 33),(j 34),(j 35),(j 36),(j 37),(j 38),(j 39),(j 40),(j 41),(j 42),(j 43),(j 44),(j 45),(j 46),(j 47),(j 48),(j 49),(j 50),(j 51),(j 52),(j 53),(j 54),(j 55),(j 56),(j 57),(j 58),(j 59),(j 60),(j 61),(j 62),(j 63),v3,t14,t15,v3,t16,t17,t18,t19,x72]) (
  d12 [1,1,1,1] (q12 K E) #[x0,x1,x2,v3,v4,(j 5),(j 6),(j 7),v4,x0,t1,t2,t2,t3,t4,t5,(j 16),(j 17),(j 18),(j 19),(j 20),(j 21),(j 22),(j 23),(j 24),(j 25),(j 26),(j 27),(j 28),(j 29),(j 30),(j 31),(j 32),(j 33),(j 34),(j 35),(j 36),(j 37),(j 38),(j 39),(j 40),(j 41),(j 42),(j 43),(j 44),(j 45),(j 46),(j 47),(j 48),(j 49),(j 50),(j 51),(j 52),(j 53),(j 54),(j 55),(j 56),(j 57),(j 58),(j 59),(j 60),(j 61),(j 62),(j 63),v3,t14,t15,x67,x68,x69,x70,x71,x72])):=by kernel_rfl
theorem zhy:d12 [1,1,0,1,0,0,1,0,0,1,1,0,1,0,0] (zz1 K E k1 k2) (zb5 x0 x1 x2 x3 x4 x5 x8 x9 x10 x11 x12 x13 x14 x15 x16 x17 x18 x19 x20 x21 x22 x23 x24 x25 x26 x60 x61 x62 x63 x64 x65 x66 x67 x68 x69 x70 x71 x72 v6 v7 j) =
 pv (iaV none 2 x0 x4) fun t1=>
 pv (faV 1 t1) fun t2=>
 ld false 1 t2 fun t3=>
 pv (za9 t3) fun t4=>
 pv (za1 .none .lss v7 t4) fun t5=>
 gdK t5 true (fun k=>k v7) fun t6=>
 gdK t5 true (fun k=>pv (za1 .none .lss t6 (.int .i64 4)) k) fun t7=>
 pv (zah t5 t7 (.bool false)) fun t8=>
 cnd t8 (
  pv (iaV none 2 x0 x4) fun t9=>
  pv (faV 1 t9) fun t10=>
  ld false 1 t10 fun t11=>
  pv (iaV none 1 t11 v7) fun t12=>
  ld false 1 t12 fun t13=>
  pv (za1 .none .rem t13 (.int .u8 4)) fun t14=>
  pv (cvV .i64 t14) fun t15=>
  pv (za1 .none .add (.int .i64 2) t15) fun t16=>
  pv (za1 .none .mul v6 t16) fun t17=>
  pv (faV 1 x5) fun t18=>
  ld false 1 t18 fun t19=>
  nws 3 1 (bsC #[(.int .i64 0)] 1 1 #[(0,t17)]) fun t20=>
  zbf 3 1 8 t19 t20 fun t21=>
  pv (faV 1 x5) fun t22=>
  st 1 t22 t21 fun _=>
  pv (za1 .none .add v7 (.int .i64 1)) fun t23=>
  k2 (zb5 x0 x1 x2 x3 x4 x5 x8 x9 x10 x11 x12 x13 x14 x15 x16 x17 x18 x19 x20 x21 x22 x23 x24 x25 x26 x60 x61 x62 x63 x64 x65 x66 x67 x68 x69 x70 x71 x72 t17 t23 (jf #[U,U,U,U,U,U,U,U,U,U,U,U,U,U,U,U,U,U,U,U,U,U,U,U,U,U,U,v7,x0,x4,t1,t2,t3,t4,t5,t5,t6,t7,t8,v7,t23,v6,x0,x4,t9,t10,t11,v7,t12,t13,t14,t15,t16,t17,t18,t19,t17,t20,t21,t22]))) (
  ld true 2 x5 fun t24=>
  nws 88 1 (bsC #[(.int .i64 0),(.slice none 0 0)] 2 1 #[(0,t24)]) fun t25=>
  zbf 88 2 32 x3 t25 fun t26=>
  pv (za1 .none .add x4 (.int .i64 1)) fun t27=>
  k1 (zeh x0 x1 x2 x64 x65 x66 x67 x68 x69 x70 x71 x72 t26 t27 (jf #[U,U,U,U,U,x5,v6,v7,x8,x9,x10,x11,x12,x13,x14,x15,x4,t27,x18,x19,x20,x21,x22,x23,x24,x25,x26,v7,x0,x4,t1,t2,t3,t4,t5,t5,t6,t7,t8,(j 39),(j 40),(j 41),(j 42),(j 43),(j 44),(j 45),(j 46),(j 47),(j 48),(j 49),(j 50),(j 51),(j 52),(j 53),(j 54),(j 55),(j 56),(j 57),(j 58),(j 59),x3,t24,t25,t26]))):=by kernel_rfl
theorem zqj:d12 [1,1,1,1] (q12 K E) #[x0,x1,x2,x3,x4,x5,x6,x7,x8,x9,x10,x11,x12,x13,x14,x15,x16,x17,x18,x19,x20,x21,x22,x23,x24,x25,x26,x27,x28,x29,x30,x31,x32,x33,x34,x35,x36,x37,x38,x39,x40,x41,x42,x43,x44,x45,x46,x47,x48,x49,x50,x51,x52,x53,x54,x55,x56,x57,x58,x59,x60,x61,x62,x63,x64,x65,x66,x67,x68,x69,x70,x71,x72] =
 K x3:=by kernel_rfl
abbrev q17:QD:=zab Tryz.prog Tryz.f17.results.toList K E
abbrev d17 (p:List Nat):QD→Env→Hp→Prop:=den Tryz.prog (sel (za8 Tryz.f17) p)
theorem t17:d17 [] (q17 K E) #[x0,x1,x2,x3,U,U,U,U,U,U,U,U,U,U,U,U,U,U,U,U,U,U,U,U] =
 nw 55 [(.slice none 0 0),(.slice none 0 0),(.slice none 0 0)] fun t1=>
 za2 Tryz.prog (.func (.func 35) #[] #[]) #[x0,x2,x3] (fun t2=>
 pv (exV 0 t2) fun t3=>
 pv (exV 1 t2) fun t4=>
 za2 Tryz.prog (.func (.func 36) #[] #[]) #[x0,x1,(.slice none 0 0)] (fun t5=>
 pv (bdC #[(.slice none 0 0),(.slice none 0 0),(.slice none 0 0)] [(0,1),(1,1),(2,1)] #[(0,t5),(1,t3),(2,t4)]) fun t6=>
 st 3 t1 t6 fun _=>
 ld true 3 t1 fun t7=>
 K t7) E) E:=by kernel_rfl
abbrev q20:QD:=zab Tryz.prog Tryz.f20.results.toList K E
abbrev d20 (p:List Nat):QD→Env→Hp→Prop:=den Tryz.prog (sel (za8 Tryz.f20) p)
abbrev zjx:=za6 k1 (blk 0 (za6 (d20 [1,1,1] (q20 K E)) (q20 K E)))
def zei (j:Nat→Value):Env:=#[x0,x1,x2,x3,x4,x5,x6,v7,v8,(j 9),(j 10),(j 11),(j 12),(j 13),(j 14),(j 15),(j 16),(j 17),(j 18),(j 19),(j 20),(j 21),(j 22),(j 23),(j 24),(j 25),(j 26),(j 27),(j 28),(j 29),(j 30),(j 31),(j 32),(j 33),(j 34),(j 35),(j 36),(j 37),(j 38),(j 39),(j 40),(j 41),x42]
theorem t20:d20 [] (q20 K E) #[x0,x1,x2,U,U,U,U,U,U,U,U,U,U,U,U,U,U,U,U,U,U,U,U,U,U,U,U,U,U,U,U,U,U,U,U,U,U,U,U,U,U,U,U] =
 lp (fun k1=>d20 [1,1,0,1,0,0] (zjx K E k1)) (zei x0 x1 x2 U U U (.slice none 0 0) U (.slice none 0 0) (.int .i64 0) (jf #[])):=by kernel_rfl
theorem zto:d20 [1,1,0,1,0,0] (zjx K E k1) (zei x0 x1 x2 x3 x4 x5 x6 x42 v7 v8 j) =
 pv (za9 x1) fun t1=>
 pv (za1 .none .lss v8 t1) fun t2=>
 gdK t2 true (fun k=>k v8) fun t3=>
 gdK t2 true (fun k=>pv (za1 .none .lss t3 (.int .i64 200)) k) fun t4=>
 pv (zah t2 t4 (.bool false)) fun t5=>
 cnd t5 (
  pv (iaV none 1 x1 v8) fun t6=>
  ld false 1 t6 fun t7=>
  za2 Tryz.prog (.func (.func 43) #[] #[]) #[x0,t7] (fun t8=>
  pv (bdC #[(.slice none 0 0),(.int .i64 0)] [(0,1),(1,1)] #[(0,t8)]) fun t9=>
  nw 90 [(.slice none 0 0),(.int .i64 0)] fun t10=>
  st 2 t10 t9 fun _=>
  pv (za9 x2) fun t11=>
  pv (za1 .none .gtr t11 (.int .i64 0)) fun t12=>
  cnd t12 (
  pv (za9 x2) fun t13=>
  pv (za1 .none .rem v8 t13) fun t14=>
  pv (iaV none 1 x2 t14) fun t15=>
  ld false 1 t15 fun t16=>
  pv (faV 1 t10) fun t17=>
  st 1 t17 t16 fun _=>
  d20 [1,1,0,1,0,0,1,0,0,1,1] (blk 1 (za6 (d20 [1,1,0,1,0,0,1,1] (zjx K E k1)) (zjx K E k1))) #[x0,x1,x2,x3,x4,x5,x6,v7,v8,t10,v8,x1,t1,t2,t2,t3,t4,t5,(j 18),(j 19),x0,x1,v8,t6,t7,t8,t9,x2,t11,t12,x2,v8,x2,t13,t14,t15,t16,t17,(j 38),(j 39),(j 40),(j 41),x42]) (
  d20 [1,1,0,1,0,0,1,0,0,1,1] (blk 1 (za6 (d20 [1,1,0,1,0,0,1,1] (zjx K E k1)) (zjx K E k1))) #[x0,x1,x2,x3,x4,x5,x6,v7,v8,t10,v8,x1,t1,t2,t2,t3,t4,t5,(j 18),(j 19),x0,x1,v8,t6,t7,t8,t9,x2,t11,t12,(j 30),(j 31),(j 32),(j 33),(j 34),(j 35),(j 36),(j 37),(j 38),(j 39),(j 40),(j 41),x42])) E) (
  K v7):=by kernel_rfl
theorem zka:d20 [1,1,0,1,0,0,1,0,0,1,1] (blk 1 (za6 (d20 [1,1,0,1,0,0,1,1] (zjx K E k1)) (zjx K E k1))) #[x0,x1,x2,x3,x4,x5,x6,x7,x8,x9,x10,x11,x12,x13,x14,x15,x16,x17,x18,x19,x20,x21,x22,x23,x24,x25,x26,x27,x28,x29,x30,x31,x32,x33,x34,x35,x36,x37,x38,x39,x40,x41,x42] =
 ld true 2 x9 fun t1=>
 nws 90 1 (bsC #[(.slice none 0 0),(.int .i64 0)] 2 1 #[(0,t1)]) fun t2=>
 zbf 90 2 32 x7 t2 fun t3=>
 pv (za1 .none .add x8 (.int .i64 1)) fun t4=>
 k1 (zei x0 x1 x2 x3 x4 x5 x6 x42 t3 t4 (jf #[U,U,U,U,U,U,U,U,U,x9,x10,x11,x12,x13,x14,x15,x16,x17,x8,t4,x20,x21,x22,x23,x24,x25,x26,x27,x28,x29,x30,x31,x32,x33,x34,x35,x36,x37,x7,t1,t2,t3])):=by kernel_rfl
abbrev q21:QD:=zab Tryz.prog Tryz.f21.results.toList K E
abbrev d21 (p:List Nat):QD→Env→Hp→Prop:=den Tryz.prog (sel (za8 Tryz.f21) p)
abbrev zz3:=za6 k1 (blk 0 (za6 (d21 [1,1,1] (q21 K E)) (q21 K E)))
def ze6 (j:Nat→Value):Env:=#[x0,x1,x2,x3,(j 4),v5,x6,x7,x8,x9,x10,(j 11),(j 12),(j 13),(j 14),(j 15),(j 16),(j 17),(j 18),(j 19),(j 20),(j 21),(j 22),(j 23),(j 24),(j 25),(j 26),(j 27),(j 28),(j 29),(j 30),(j 31),(j 32),(j 33),(j 34),(j 35),(j 36),(j 37),(j 38),(j 39),(j 40),(j 41)]
theorem t21:d21 [] (q21 K E) #[x0,x1,U,U,U,U,U,U,U,U,U,U,U,U,U,U,U,U,U,U,U,U,U,U,U,U,U,U,U,U,U,U,U,U,U,U,U,U,U,U,U,U] =
 pv (za9 x0) fun t1=>
 pv (za9 x1) fun t2=>
 pv (za1 .none .neq t1 t2) fun t3=>
 cnd t3 (
  K (.bool false)) (
  lp (fun k1=>d21 [1,1,0,1,0,0] (zz3 K E k1)) (ze6 x0 x1 U U x0 t1 x1 t2 t3 (.int .i64 0) (jf #[U,U,U,U,(.bool false)]))):=by kernel_rfl
theorem zun:d21 [1,1,0,1,0,0] (zz3 K E k1) (ze6 x0 x1 x2 x3 x6 x7 x8 x9 x10 v5 j) =
 pv (za9 x0) fun t1=>
 pv (za1 .none .lss v5 t1) fun t2=>
 cnd t2 (
  pv (iaV none 5 x0 v5) fun t3=>
  pv (faV 0 t3) fun t4=>
  ld false 1 t4 fun t5=>
  pv (iaV none 5 x1 v5) fun t6=>
  pv (faV 0 t6) fun t7=>
  ld false 1 t7 fun t8=>
  za2 Tryz.prog (.func (.func 44) #[] #[]) #[t5,t8] (fun t9=>
  pv (za1 .none .neq t9 (.int .i64 0)) fun t10=>
  gdK t10 false (fun k=>k x0) fun t11=>
  gdK t10 false (fun k=>k v5) fun t12=>
  gdK t10 false (fun k=>pv (iaV none 5 t11 t12) k) fun t13=>
  gdK t10 false (fun k=>pv (faV 1 t13) k) fun t14=>
  gdK t10 false (fun k=>ld true 4 t14 k) fun t15=>
  gdK t10 false (fun k=>k x1) fun t16=>
  gdK t10 false (fun k=>k v5) fun t17=>
  gdK t10 false (fun k=>pv (iaV none 5 t16 t17) k) fun t18=>
  gdK t10 false (fun k=>pv (faV 1 t18) k) fun t19=>
  gdK t10 false (fun k=>ld true 4 t19 k) fun t20=>
  gdK t10 false (fun k=>pv (ze0 .neq [0,0,0,0] t15 t20) k) fun t21=>
  pv (zah t10 (.bool true) t21) fun t22=>
  cnd t22 (
  K (.bool false)) (
  pv (za1 .none .add v5 (.int .i64 1)) fun t23=>
  k1 (ze6 x0 x1 x2 x3 x6 x7 x8 x9 x10 t23 (jf #[U,U,U,U,(j 4),U,U,U,U,U,U,v5,x0,t1,t2,v5,t23,x0,v5,t3,t4,t5,x1,v5,t6,t7,t8,t9,t10,t10,t11,t12,t13,t14,t15,t16,t17,t18,t19,t20,t21,t22])))) E) (
  K (.bool true)):=by kernel_rfl
abbrev q24:QD:=zab Tryz.prog Tryz.f24.results.toList K E
abbrev d24 (p:List Nat):QD→Env→Hp→Prop:=den Tryz.prog (sel (za8 Tryz.f24) p)
abbrev zn6:=za6 k1 (blk 0 (za6 (d24 [1,1,1] (q24 K E)) (q24 K E)))
def zen (j:Nat→Value):Env:=#[x0,x1,x2,x3,x4,x5,x6,v7,x8,(j 9),(j 10),x11,x12,x13,x14,x15,v16,(j 17),(j 18),(j 19),(j 20),(j 21),(j 22),(j 23),(j 24),(j 25),(j 26),(j 27),(j 28),(j 29),(j 30),(j 31),(j 32),(j 33),(j 34),(j 35),(j 36),x37]
theorem t24:d24 [] (q24 K E) #[x0,x1,x2,U,U,U,U,U,U,U,U,U,U,U,U,U,U,U,U,U,U,U,U,U,U,U,U,U,U,U,U,U,U,U,U,U,U,U] =
 pv (zan x0) fun t1=>
 pv (faV 0 t1) fun t2=>
 ld false 1 t2 fun t3=>
 pv (za9 t3) fun t4=>
 lp (fun k1=>d24 [1,1,0,1,0,0] (zn6 K E k1)) (zen x0 x1 x2 U U U (.slice none 0 0) U x0 t1 t2 t3 t4 U (.slice none 0 0) (.int .i64 0) (jf #[])):=by kernel_rfl
theorem ztd:d24 [1,1,0,1,0,0] (zn6 K E k1) (zen x0 x1 x2 x3 x4 x5 x6 x8 x11 x12 x13 x14 x15 x37 v7 v16 j) =
 pv (za1 .none .lss v16 x15) fun t1=>
 cnd t1 (
  pv (iaV none 2 x14 v16) fun t2=>
  ld true 2 t2 fun t3=>
  nw 74 [(.int .u32 0),(.slice none 0 0)] fun t4=>
  st 2 t4 t3 fun _=>
  pv (faV 1 t4) fun t5=>
  ld false 1 t5 fun t6=>
  za2 Tryz.prog (.func (.func 46) #[] #[]) #[x1,x2] (fun t7 h8=>(ldV h8 false 1 t5 t6)∧(
  za2 Tryz.prog (.func (.func 45) #[] #[]) #[t6,t7,(.bool true)] (fun t9=>
  pv (za9 t9) fun t10=>
  pv (za1 .none .gtr t10 (.int .i64 0)) fun t11=>
  cnd t11 (
   pv (faV 0 t4) fun t12=>
   ld false 1 t12 fun t13=>
   pv (bdC #[(.int .u32 0),(.slice none 0 0)] [(0,1),(1,1)] #[(0,t13),(1,t9)]) fun t14=>
   nws 74 1 (bsC #[(.int .u32 0),(.slice none 0 0)] 2 1 #[(0,t14)]) fun t15=>
   zbf 74 2 32 v7 t15 fun t16=>
   d24 [1,1,0,1,0,0,1,1,1] (zn6 K E k1) #[x0,x1,x2,x3,x4,x5,x6,t16,x8,t4,t9,x11,x12,x13,x14,x15,v16,t1,t2,t3,t5,t6,x1,x2,t7,t9,t9,t10,t11,v7,t12,t13,t9,t14,t15,t16,(j 36),x37]) (
   d24 [1,1,0,1,0,0,1,1,1] (zn6 K E k1) #[x0,x1,x2,x3,x4,x5,x6,v7,x8,t4,t9,x11,x12,x13,x14,x15,v16,t1,t2,t3,t5,t6,x1,x2,t7,t9,t9,t10,t11,(j 29),(j 30),(j 31),(j 32),(j 33),(j 34),(j 35),(j 36),x37])) E) h8) E) (
  K v7):=by kernel_rfl
theorem zif:d24 [1,1,0,1,0,0,1,1,1] (zn6 K E k1) #[x0,x1,x2,x3,x4,x5,x6,x7,x8,x9,x10,x11,x12,x13,x14,x15,x16,x17,x18,x19,x20,x21,x22,x23,x24,x25,x26,x27,x28,x29,x30,x31,x32,x33,x34,x35,x36,x37] =
 pv (za1 .none .add x16 (.int .i64 1)) fun t1=>
 k1 (zen x0 x1 x2 x3 x4 x5 x6 x8 x11 x12 x13 x14 x15 x37 x7 t1 (jf #[U,U,U,U,U,U,U,U,U,x9,x10,U,U,U,U,U,U,x17,x18,x19,x20,x21,x22,x23,x24,x25,x26,x27,x28,x29,x30,x31,x32,x33,x34,x35,t1])):=by kernel_rfl
abbrev q27:QD:=zab Tryz.prog Tryz.f27.results.toList K E
abbrev d27 (p:List Nat):QD→Env→Hp→Prop:=den Tryz.prog (sel (za8 Tryz.f27) p)
theorem t27:d27 [] (q27 K E) #[x0,x1,U,U,U,U,U,U,U,U,U,U,U,U] =
 nw 69 (Value.cells x0).toList fun t1=>
 pv (za9 x1) fun t2=>
 pv (za1 .none .leq t2 (.int .i64 200)) fun t3=>
 gdK t3 true (fun k=>k x1) fun t4=>
 gdK t3 true (fun k=>k (.func (.func 54) #[] #[t1])) fun t5=>
 gdK t3 true (fun k=>za2 Tryz.prog (.func (.func 53) #[] #[]) #[t4,t5] k E) fun t6=>
 gdK t3 true (fun k=>pv (unV .not t6) k) fun t7=>
 pv (zah t3 t7 (.bool false)) fun t8=>
 K t8:=by kernel_rfl
abbrev q28:QD:=zab Tryz.prog Tryz.f28.results.toList K E
abbrev d28 (p:List Nat):QD→Env→Hp→Prop:=den Tryz.prog (sel (za8 Tryz.f28) p)
abbrev zyj:=za6 k1 (blk 0 (za6 (d28 [1,1] (q28 K E)) (q28 K E)))
def zfi (j:Nat→Value):Env:=#[x0,x1,x2,x3,(j 4),v5,(j 6),(j 7),(j 8),(j 9),(j 10),(j 11),(j 12),(j 13),(j 14),(j 15),(j 16),(j 17),(j 18),(j 19),(j 20),(j 21),(j 22),x23,x24,x25]
theorem t28:d28 [] (q28 K E) #[x0,x1,U,U,U,U,U,U,U,U,U,U,U,U,U,U,U,U,U,U,U,U,U,U,U,U] =
 lp (fun k1=>d28 [1,0,1,0,0] (zyj K E k1)) (zfi x0 x1 U U U U U (.int .i64 0) (jf #[U,U,U,U,(.bool false)])):=by kernel_rfl
theorem zy4:d28 [1,0,1,0,0] (zyj K E k1) (zfi x0 x1 x2 x3 x23 x24 x25 v5 j) =
 pv (za9 x1) fun t1=>
 pv (za1 .none .lss v5 t1) fun t2=>
 cnd t2 (
  pv (zan x0) fun t3=>
  pv (faV 0 t3) fun t4=>
  ld false 1 t4 fun t5=>
  pv (iaV none 2 x1 v5) fun t6=>
  pv (faV 0 t6) fun t7=>
  ld false 1 t7 fun t8=>
  za2 Tryz.prog (.func (.func 56) #[] #[]) #[t5,t8] (fun t9=>
  pv (unV .not t9) fun t10=>
  cnd t10 (
  K (.bool false)) (
  pv (za1 .none .add v5 (.int .i64 1)) fun t11=>
  k1 (zfi x0 x1 x2 x3 x23 x24 x25 t11 (jf #[U,U,U,U,(j 4),U,v5,x1,t1,t2,v5,t11,x0,t3,t4,t5,x1,v5,t6,t7,t8,t9,t10])))) E) (
  pv (za9 x1) fun t12=>
  pv (za1 .none .leq t12 (.int .i64 200)) fun t13=>
  K t13):=by kernel_rfl
abbrev q30:QD:=zab Tryz.prog Tryz.f30.results.toList K E
abbrev d30 (p:List Nat):QD→Env→Hp→Prop:=den Tryz.prog (sel (za8 Tryz.f30) p)
abbrev zyx:=za6 k1 (blk 0 (za6 (d30 [1,1,1,1] (q30 K E)) (q30 K E)))
def zd7 (j:Nat→Value):Env:=#[x0,x1,x2,x3,x4,(j 5),x6,x7,x8,x9,x10,x11,x12,v13,(j 14),(j 15),(j 16),(j 17),(j 18),(j 19),(j 20),(j 21),(j 22),(j 23),(j 24),(j 25),(j 26),(j 27),(j 28),(j 29),(j 30),(j 31),(j 32),x33]
theorem t30:d30 [] (q30 K E) #[x0,U,U,U,U,U,U,U,U,U,U,U,U,U,U,U,U,U,U,U,U,U,U,U,U,U,U,U,U,U,U,U,U,U] =
 za2 Tryz.prog (.func (.func 64) #[] #[]) #[x0] (fun t1=>
 pv (unV .not t1) fun t2=>
 cnd t2 (
  K (.pointer none)) (
  pv (bdC #[(.slice none 0 0),(.slice none 0 0)] [(0,1),(1,1)] #[]) fun t3=>
  nw 113 (Value.cells t3).toList fun t4=>
  pv (za9 x0) fun t5=>
  lp (fun k1=>d30 [1,1,1,0,1,0,0] (zyx K E k1)) (zd7 x0 U (.pointer none) t4 U x0 t1 t2 t3 t4 x0 t5 U (.int .i64 0) (jf #[])))) E:=by kernel_rfl
theorem zpz:d30 [1,1,1,0,1,0,0] (zyx K E k1) (zd7 x0 x1 x2 x3 x4 x6 x7 x8 x9 x10 x11 x12 x33 v13 j) =
 pv (za1 .none .lss v13 x12) fun t1=>
 cnd t1 (
  pv (iaV none 2 x11 v13) fun t2=>
  ld true 2 t2 fun t3=>
  nw 88 [(.int .i64 0),(.slice none 0 0)] fun t4=>
  st 2 t4 t3 fun _=>
  pv (zan x3) fun t5=>
  pv (faV 1 t5) fun t6=>
  ld false 1 t6 fun t7=>
  pv (faV 0 t4) fun t8=>
  ld false 1 t8 fun t9=>
  pv (faV 1 t4) fun t10=>
  ld false 1 t10 fun t11=>
  za2 Tryz.prog (.func (.func 65) #[] #[]) #[t11] (fun t12 h13=>(ldV h13 false 1 t8 t9)∧(ldV h13 false 1 t6 t7)∧(
  pv (bdC #[(.int .i64 0),(.slice none 0 0)] [(0,1),(1,1)] #[(0,t9),(1,t12)]) fun t14=>
  nws 88 1 (bsC #[(.int .i64 0),(.slice none 0 0)] 2 1 #[(0,t14)]) (fun t15 h16=>(ldV h16 false 1 t6 t7)∧(
   zbf 88 2 32 t7 t15 fun t17=>
   pv (zan x3) fun t18=>
   pv (faV 1 t18) fun t19=>
   st 1 t19 t17 fun _=>
   pv (za1 .none .add v13 (.int .i64 1)) fun t20=>
   k1 (zd7 x0 x1 x2 x3 x4 x6 x7 x8 x9 x10 x11 x12 x33 t20 (jf #[U,U,U,U,U,t4,U,U,U,U,U,U,U,U,t1,t2,t3,x3,x3,t5,t6,t7,t8,t9,t10,t11,t12,t14,t15,t17,t18,t19,t20]))) h16)) h13) E) (
  K x3):=by kernel_rfl
abbrev q35:QD:=zab Tryz.prog Tryz.f35.results.toList K E
abbrev d35 (p:List Nat):QD→Env→Hp→Prop:=den Tryz.prog (sel (za8 Tryz.f35) p)
abbrev zyw:=za6 k1 (blk 0 (za6 (d35 [1,1,1,1] (q35 K E)) (q35 K E)))
def zd8 (j:Nat→Value):Env:=#[x0,x1,x2,x3,x4,x5,x6,x7,x8,x9,v10,(j 11),x12,x13,x14,x15,x16,x17,(j 18),(j 19),(j 20),(j 21),(j 22),(j 23),(j 24),(j 25),(j 26),(j 27),(j 28),(j 29),(j 30),(j 31),(j 32),(j 33),(j 34),(j 35),(j 36),(j 37),(j 38),(j 39),(j 40),(j 41),(j 42),(j 43),(j 44),(j 45),(j 46),(j 47),(j 48),(j 49),x50,x51]
theorem t35:d35 [] (q35 K E) #[x0,x1,x2,U,U,U,U,U,U,U,U,U,U,U,U,U,U,U,U,U,U,U,U,U,U,U,U,U,U,U,U,U,U,U,U,U,U,U,U,U,U,U,U,U,U,U,U,U,U,U,U,U] =
 za2 Tryz.prog (.func (.func 43) #[] #[]) #[x0,x1] (fun t1=>
 za2 Tryz.prog (.func (.func 43) #[] #[]) #[x0,x2] (fun t2=>
 lp (fun k1=>d35 [1,1,1,0,1,0,0] (zyw K E k1)) (zd8 x0 x1 x2 U U U (.slice none 0 0) (.slice none 0 0) t1 t2 x0 x1 t1 x0 x2 t2 U U (.int .i64 0) (jf #[]))) E) E:=by kernel_rfl
theorem zqc:d35 [1,1,1,0,1,0,0] (zyw K E k1) (zd8 x0 x1 x2 x3 x4 x5 x6 x7 x8 x9 x12 x13 x14 x15 x16 x17 x50 x51 v10 j) =
 pv (za9 x0) fun t1=>
 pv (za1 .none .lss v10 t1) fun t2=>
 cnd t2 (
  pv (iaV none 1 x8 v10) fun t3=>
  ld false 1 t3 fun t4=>
  pv (iaV none 1 x9 v10) fun t5=>
  ld false 1 t5 fun t6=>
  pv (mm false t4 t6) fun t7=>
  pv (iaV none 1 x8 v10) fun t8=>
  ld false 1 t8 fun t9=>
  pv (iaV none 1 x9 v10) fun t10=>
  ld false 1 t10 fun t11=>
  pv (mm true t9 t11) fun t12=>
  pv (za1 .none .add t12 (.int .i64 1)) fun t13=>
  pv (iaV none 1 x9 v10) fun t14=>
  st 1 t14 t13 fun _=>
  pv (iaV none 1 x8 v10) fun t15=>
  st 1 t15 t7 fun _=>
  pv (za1 .none .add v10 (.int .i64 1)) fun t16=>
  k1 (zd8 x0 x1 x2 x3 x4 x5 x6 x7 x8 x9 x12 x13 x14 x15 x16 x17 x50 x51 t16 (jf #[U,U,U,U,U,U,U,U,U,U,U,t7,U,U,U,U,U,U,v10,x0,t1,t2,v10,t16,x8,v10,t3,t4,x9,v10,t5,t6,t7,x9,v10,x8,v10,t8,t9,x9,v10,t10,t11,t12,t13,t14,x8,v10,t7,t15]))) (
  K (.tuple #[x8,x9])):=by kernel_rfl
abbrev q36:QD:=zab Tryz.prog Tryz.f36.results.toList K E
abbrev d36 (p:List Nat):QD→Env→Hp→Prop:=den Tryz.prog (sel (za8 Tryz.f36) p)
abbrev zgb:=za6 k1 (blk 0 (za6 (d36 [1,1,1] (q36 K E)) (q36 K E)))
def zef (j:Nat→Value):Env:=#[x0,x1,x2,x3,x4,x5,x6,v7,v8,(j 9),(j 10),(j 11),(j 12),(j 13),(j 14),(j 15),(j 16),(j 17),(j 18),(j 19),(j 20),(j 21),(j 22),(j 23),(j 24),(j 25),(j 26),(j 27),(j 28),(j 29),(j 30),(j 31),(j 32),(j 33),(j 34),(j 35),(j 36),(j 37),(j 38),(j 39),(j 40),(j 41),(j 42),(j 43),(j 44),(j 45),(j 46),(j 47),(j 48),(j 49),x50]
theorem t36:d36 [] (q36 K E) #[x0,x1,x2,U,U,U,U,U,U,U,U,U,U,U,U,U,U,U,U,U,U,U,U,U,U,U,U,U,U,U,U,U,U,U,U,U,U,U,U,U,U,U,U,U,U,U,U,U,U,U,U] =
 lp (fun k1=>d36 [1,1,0,1,0,0] (zgb K E k1)) (zef x0 x1 x2 U U U (.slice none 0 0) U (.slice none 0 0) (.int .i64 0) (jf #[])):=by kernel_rfl
theorem ztt:d36 [1,1,0,1,0,0] (zgb K E k1) (zef x0 x1 x2 x3 x4 x5 x6 x50 v7 v8 j) =
 pv (za9 x0) fun t1=>
 pv (za1 .none .lss v8 t1) fun t2=>
 cnd t2 (
  pv (za9 x1) fun t3=>
  pv (za1 .none .lss v8 t3) fun t4=>
  cnd t4 (
  pv (iaV none 1 x1 v8) fun t5=>
  ld false 1 t5 fun t6=>
  pv (cvV .i64 t6) fun t7=>
  d36 [1,1,0,1,0,0,1,0,0,1,1,1] (blk 1 (za6 (d36 [1,1,0,1,0,0,1,1] (zgb K E k1)) (zgb K E k1))) #[x0,x1,x2,x3,x4,x5,x6,v7,v8,t7,(.int .i64 0),v8,x0,t1,t2,(j 15),(j 16),v8,x1,t3,t4,x1,v8,t5,t6,t7,(j 26),(j 27),(j 28),(j 29),(j 30),(j 31),(j 32),(j 33),(j 34),(j 35),(j 36),(j 37),(j 38),(j 39),(j 40),(j 41),(j 42),(j 43),(j 44),(j 45),(j 46),(j 47),(j 48),(j 49),x50]) (
  d36 [1,1,0,1,0,0,1,0,0,1,1,1] (blk 1 (za6 (d36 [1,1,0,1,0,0,1,1] (zgb K E k1)) (zgb K E k1))) #[x0,x1,x2,x3,x4,x5,x6,v7,v8,(.int .i64 0),(.int .i64 0),v8,x0,t1,t2,(j 15),(j 16),v8,x1,t3,t4,(j 21),(j 22),(j 23),(j 24),(j 25),(j 26),(j 27),(j 28),(j 29),(j 30),(j 31),(j 32),(j 33),(j 34),(j 35),(j 36),(j 37),(j 38),(j 39),(j 40),(j 41),(j 42),(j 43),(j 44),(j 45),(j 46),(j 47),(j 48),(j 49),x50])) (
  K v7):=by kernel_rfl
theorem zk2:d36 [1,1,0,1,0,0,1,0,0,1,1,1] (blk 1 (za6 (d36 [1,1,0,1,0,0,1,1] (zgb K E k1)) (zgb K E k1))) #[x0,x1,x2,x3,x4,x5,x6,x7,x8,x9,x10,x11,x12,x13,x14,x15,x16,x17,x18,x19,x20,x21,x22,x23,x24,x25,x26,x27,x28,x29,x30,x31,x32,x33,x34,x35,x36,x37,x38,x39,x40,x41,x42,x43,x44,x45,x46,x47,x48,x49,x50] =
 pv (za9 x2) fun t1=>
 pv (za1 .none .lss x8 t1) fun t2=>
 cnd t2 (
  pv (iaV none 1 x2 x8) fun t3=>
  ld false 1 t3 fun t4=>
  d36 [1,1,0,1,0,0,1,0,0,1,1,1,1] (blk 1 (za6 (d36 [1,1,0,1,0,0,1,1] (zgb K E k1)) (zgb K E k1))) #[x0,x1,x2,x3,x4,x5,x6,x7,x8,x9,t4,x11,x12,x13,x14,x15,x16,x17,x18,x19,x20,x21,x22,x23,x24,x25,x8,x2,t1,t2,x2,x8,t3,t4,x34,x35,x36,x37,x38,x39,x40,x41,x42,x43,x44,x45,x46,x47,x48,x49,x50]) (
  d36 [1,1,0,1,0,0,1,0,0,1,1,1,1] (blk 1 (za6 (d36 [1,1,0,1,0,0,1,1] (zgb K E k1)) (zgb K E k1))) #[x0,x1,x2,x3,x4,x5,x6,x7,x8,x9,x10,x11,x12,x13,x14,x15,x16,x17,x18,x19,x20,x21,x22,x23,x24,x25,x8,x2,t1,t2,x30,x31,x32,x33,x34,x35,x36,x37,x38,x39,x40,x41,x42,x43,x44,x45,x46,x47,x48,x49,x50]):=by kernel_rfl
theorem zj9:d36 [1,1,0,1,0,0,1,0,0,1,1,1,1] (blk 1 (za6 (d36 [1,1,0,1,0,0,1,1] (zgb K E k1)) (zgb K E k1))) #[x0,x1,x2,x3,x4,x5,x6,x7,x8,x9,x10,x11,x12,x13,x14,x15,x16,x17,x18,x19,x20,x21,x22,x23,x24,x25,x26,x27,x28,x29,x30,x31,x32,x33,x34,x35,x36,x37,x38,x39,x40,x41,x42,x43,x44,x45,x46,x47,x48,x49,x50] =
 pv (iaV none 2 x0 x8) fun t1=>
 pv (faV 1 t1) fun t2=>
 ld false 1 t2 fun t3=>
 pv (za9 t3) fun t4=>
 pv (za1 .none .add t4 (.int .i64 2)) fun t5=>
 pv (za1 .none .sub t5 x10) fun t6=>
 pv (za1 .none .rem x9 t6) fun t7=>
 pv (za1 .none .add x10 t7) fun t8=>
 nws 3 1 (bsC #[(.int .i64 0)] 1 1 #[(0,t8)]) fun t9=>
 zbf 3 1 8 x7 t9 fun t10=>
 pv (za1 .none .add x8 (.int .i64 1)) fun t11=>
 k1 (zef x0 x1 x2 x3 x4 x5 x6 x50 t10 t11 (jf #[U,U,U,U,U,U,U,U,U,x9,x10,x11,x12,x13,x14,x8,t11,x17,x18,x19,x20,x21,x22,x23,x24,x25,x26,x27,x28,x29,x30,x31,x32,x33,x7,x10,x9,x0,x8,t1,t2,t3,t4,t5,x10,t6,t7,t8,t9,t10])):=by kernel_rfl
abbrev q43:QD:=zab Tryz.prog Tryz.f43.results.toList K E
abbrev d43 (p:List Nat):QD→Env→Hp→Prop:=den Tryz.prog (sel (za8 Tryz.f43) p)
abbrev zjy:=za6 k1 (blk 0 (za6 (d43 [1,1,1] (q43 K E)) (q43 K E)))
def zed (j:Nat→Value):Env:=#[x0,x1,x2,x3,x4,v5,v6,(j 7),(j 8),(j 9),(j 10),(j 11),(j 12),(j 13),(j 14),(j 15),(j 16),(j 17),(j 18),(j 19),(j 20),(j 21),(j 22),(j 23),(j 24),(j 25),(j 26),(j 27),(j 28),(j 29),(j 30),(j 31),(j 32),x33]
theorem t43:d43 [] (q43 K E) #[x0,x1,U,U,U,U,U,U,U,U,U,U,U,U,U,U,U,U,U,U,U,U,U,U,U,U,U,U,U,U,U,U,U,U] =
 lp (fun k1=>d43 [1,1,0,1,0,0] (zjy K E k1)) (zed x0 x1 U U (.slice none 0 0) U (.slice none 0 0) (.int .i64 0) (jf #[])):=by kernel_rfl
theorem zle:d43 [1,1,0,1,0,0] (zjy K E k1) (zed x0 x1 x2 x3 x4 x33 v5 v6 j) =
 pv (za9 x0) fun t1=>
 pv (za1 .none .lss v6 t1) fun t2=>
 cnd t2 (
  pv (za9 x1) fun t3=>
  pv (za1 .none .lss v6 t3) fun t4=>
  cnd t4 (
  pv (iaV none 1 x1 v6) fun t5=>
  ld false 1 t5 fun t6=>
  pv (cvV .i64 t6) fun t7=>
  d43 [1,1,0,1,0,0,1,0,0,1,1] (blk 1 (za6 (d43 [1,1,0,1,0,0,1,1] (zjy K E k1)) (zjy K E k1))) #[x0,x1,x2,x3,x4,v5,v6,t7,v6,x0,t1,t2,(j 12),(j 13),v6,x1,t3,t4,x1,v6,t5,t6,t7,(j 23),(j 24),(j 25),(j 26),(j 27),(j 28),(j 29),(j 30),(j 31),(j 32),x33]) (
  d43 [1,1,0,1,0,0,1,0,0,1,1] (blk 1 (za6 (d43 [1,1,0,1,0,0,1,1] (zjy K E k1)) (zjy K E k1))) #[x0,x1,x2,x3,x4,v5,v6,(.int .i64 0),v6,x0,t1,t2,(j 12),(j 13),v6,x1,t3,t4,(j 18),(j 19),(j 20),(j 21),(j 22),(j 23),(j 24),(j 25),(j 26),(j 27),(j 28),(j 29),(j 30),(j 31),(j 32),x33])) (
  K v5):=by kernel_rfl
theorem zh1:d43 [1,1,0,1,0,0,1,0,0,1,1] (blk 1 (za6 (d43 [1,1,0,1,0,0,1,1] (zjy K E k1)) (zjy K E k1))) #[x0,x1,x2,x3,x4,x5,x6,x7,x8,x9,x10,x11,x12,x13,x14,x15,x16,x17,x18,x19,x20,x21,x22,x23,x24,x25,x26,x27,x28,x29,x30,x31,x32,x33] =
 pv (iaV none 2 x0 x6) fun t1=>
 pv (faV 0 t1) fun t2=>
 ld false 1 t2 fun t3=>
 pv (za1 .none .rem x7 t3) fun t4=>
 nws 3 1 (bsC #[(.int .i64 0)] 1 1 #[(0,t4)]) fun t5=>
 zbf 3 1 8 x5 t5 fun t6=>
 pv (za1 .none .add x6 (.int .i64 1)) fun t7=>
 k1 (zed x0 x1 x2 x3 x4 x33 t6 t7 (jf #[U,U,U,U,U,U,U,x7,x8,x9,x10,x11,x6,t7,x14,x15,x16,x17,x18,x19,x20,x21,x22,x5,x7,x0,x6,t1,t2,t3,t4,t5,t6])):=by kernel_rfl
abbrev q44:QD:=zab Tryz.prog Tryz.f44.results.toList K E
abbrev d44 (p:List Nat):QD→Env→Hp→Prop:=den Tryz.prog (sel (za8 Tryz.f44) p)
abbrev zyg:=za6 k1 (blk 0 (za6 (d44 [1,1] (q44 K E)) (q44 K E)))
def zfo (j:Nat→Value):Env:=#[x0,x1,x2,x3,(j 4),v5,(j 6),(j 7),(j 8),(j 9),(j 10),(j 11),(j 12),(j 13),(j 14),(j 15),(j 16),(j 17),(j 18),(j 19),(j 20),(j 21),(j 22),(j 23),(j 24),(j 25),(j 26),(j 27),(j 28),(j 29),(j 30),(j 31),(j 32),(j 33),(j 34),(j 35),x36,x37,x38,x39,x40,x41,x42,x43,x44,x45]
theorem t44:d44 [] (q44 K E) #[x0,x1,U,U,U,U,U,U,U,U,U,U,U,U,U,U,U,U,U,U,U,U,U,U,U,U,U,U,U,U,U,U,U,U,U,U,U,U,U,U,U,U,U,U,U,U] =
 lp (fun k1=>d44 [1,0,1,0,0] (zyg K E k1)) (zfo x0 x1 U U U U U U U U U U U U (.int .i64 0) (jf #[U,U,U,U,(.int .i64 0)])):=by kernel_rfl
theorem zxz:d44 [1,0,1,0,0] (zyg K E k1) (zfo x0 x1 x2 x3 x36 x37 x38 x39 x40 x41 x42 x43 x44 x45 v5 j) =
 pv (za9 x0) fun t1=>
 pv (za1 .none .lss v5 t1) fun t2=>
 gdK t2 true (fun k=>k v5) fun t3=>
 gdK t2 true (fun k=>k x1) fun t4=>
 gdK t2 true (fun k=>pv (za9 t4) k) fun t5=>
 gdK t2 true (fun k=>pv (za1 .none .lss t3 t5) k) fun t6=>
 pv (zah t2 t6 (.bool false)) fun t7=>
 cnd t7 (
  pv (iaV none 1 x0 v5) fun t8=>
  ld false 1 t8 fun t9=>
  pv (iaV none 1 x1 v5) fun t10=>
  ld false 1 t10 fun t11=>
  pv (za1 .none .lss t9 t11) fun t12=>
  cnd t12 (
  K (.int .i64 (-1))) (
  pv (iaV none 1 x0 v5) fun t13=>
  ld false 1 t13 fun t14=>
  pv (iaV none 1 x1 v5) fun t15=>
  ld false 1 t15 fun t16=>
  pv (za1 .none .gtr t14 t16) fun t17=>
  cnd t17 (
   K (.int .i64 1)) (
   pv (za1 .none .add v5 (.int .i64 1)) fun t18=>
   k1 (zfo x0 x1 x2 x3 x36 x37 x38 x39 x40 x41 x42 x43 x44 x45 t18 (jf #[U,U,U,U,(j 4),U,v5,x0,t1,t2,t2,t3,t4,t5,t6,t7,v5,t18,x0,v5,t8,t9,x1,v5,t10,t11,t12,x0,v5,t13,t14,x1,v5,t15,t16,t17]))))) (
  pv (za9 x0) fun t19=>
  pv (za9 x1) fun t20=>
  pv (za1 .none .lss t19 t20) fun t21=>
  cnd t21 (
  K (.int .i64 (-1))) (
  pv (za9 x0) fun t22=>
  pv (za9 x1) fun t23=>
  pv (za1 .none .gtr t22 t23) fun t24=>
  cnd t24 (
   K (.int .i64 1)) (
   K (.int .i64 0)))):=by kernel_rfl
abbrev q45:QD:=zab Tryz.prog Tryz.f45.results.toList K E
abbrev d45 (p:List Nat):QD→Env→Hp→Prop:=den Tryz.prog (sel (za8 Tryz.f45) p)
theorem t45:d45 [] (q45 K E) #[x0,x1,x2,U,U,U,U,U,U,U,U] =
 nw 115 (Value.cells x1).toList fun t1=>
 nw 4 (Value.cells x2).toList fun t2=>
 za2 Tryz.prog (.func (.func 76) #[] #[]) #[x0] (fun t3=>
 za2 Tryz.prog (.func (.func 75) #[] #[]) #[t3,(.func (.func 77) #[] #[t1,t2])] (fun t4=>
 K t4) E) E:=by kernel_rfl
abbrev q46:QD:=zab Tryz.prog Tryz.f46.results.toList K E
abbrev d46 (p:List Nat):QD→Env→Hp→Prop:=den Tryz.prog (sel (za8 Tryz.f46) p)
theorem t46:d46 [] (q46 K E) #[x0,x1,U,U,U,U] =
 nw 3 (Value.cells x0).toList fun t1=>
 nw 3 (Value.cells x1).toList fun t2=>
 K (.func (.func 78) #[] #[t1,t2]):=by kernel_rfl
abbrev q47:QD:=zab Tryz.prog Tryz.f47.results.toList K E
abbrev d47 (p:List Nat):QD→Env→Hp→Prop:=den Tryz.prog (sel (za8 Tryz.f47) p)
abbrev zyk:=za6 k1 (blk 0 (za6 (d47 [1,1,1,1] (q47 K E)) (q47 K E)))
def zdc (j:Nat→Value):Env:=#[x0,x1,x2,x3,v4,(j 5),x6,x7,x8,x9,x10,(j 11),(j 12),(j 13),(j 14),(j 15),(j 16),(j 17),(j 18),(j 19),(j 20),(j 21),(j 22),(j 23),(j 24),(j 25),(j 26),(j 27),(j 28),(j 29),(j 30),(j 31),(j 32),(j 33),(j 34),(j 35),(j 36),(j 37),(j 38),(j 39),x40]
theorem t47:d47 [] (q47 K E) #[x0,U,U,U,U,U,U,U,U,U,U,U,U,U,U,U,U,U,U,U,U,U,U,U,U,U,U,U,U,U,U,U,U,U,U,U,U,U,U,U,U] =
 za2 Tryz.prog (.func (.func 79) #[] #[]) #[x0] (fun t1=>
 pv (unV .not t1) fun t2=>
 cnd t2 (
  K (.pointer none)) (
  pv (bdC #[(.slice none 0 0),(.slice none 0 0)] [(0,1),(1,1)] #[]) fun t3=>
  nw 126 (Value.cells t3).toList fun t4=>
  lp (fun k1=>d47 [1,1,1,0,1,0,0] (zyk K E k1)) (zdc x0 U (.pointer none) t4 x0 t1 t2 t3 t4 U (.int .i64 0) (jf #[])))) E:=by kernel_rfl
theorem zq2:d47 [1,1,1,0,1,0,0] (zyk K E k1) (zdc x0 x1 x2 x3 x6 x7 x8 x9 x10 x40 v4 j) =
 pv (za9 x0) fun t1=>
 pv (za1 .none .lss v4 t1) fun t2=>
 cnd t2 (
  pv (iaV none 2 x0 v4) fun t3=>
  pv (faV 1 t3) fun t4=>
  ld false 1 t4 fun t5=>
  zbf 3 1 8 (.slice none 0 0) t5 fun t6=>
  pv (zan x3) fun t7=>
  pv (faV 0 t7) fun t8=>
  ld false 1 t8 fun t9=>
  pv (iaV none 2 x0 v4) fun t10=>
  pv (faV 0 t10) fun t11=>
  ld false 1 t11 fun t12=>
  pv (bdC #[(.int .i64 0),(.slice none 0 0)] [(0,1),(1,1)] #[(0,t12),(1,t6)]) fun t13=>
  nws 88 1 (bsC #[(.int .i64 0),(.slice none 0 0)] 2 1 #[(0,t13)]) (fun t14 h15=>(ldV h15 false 1 t8 t9)∧(
  zbf 88 2 32 t9 t14 fun t16=>
  pv (zan x3) fun t17=>
  pv (faV 0 t17) fun t18=>
  st 1 t18 t16 fun _=>
  pv (za1 .none .add v4 (.int .i64 1)) fun t19=>
  k1 (zdc x0 x1 x2 x3 x6 x7 x8 x9 x10 x40 t19 (jf #[U,U,U,U,U,t6,U,U,U,U,U,v4,x0,t1,t2,v4,t19,(.slice none 0 0),x0,v4,t3,t4,t5,t6,x3,x3,t7,t8,t9,x0,v4,t10,t11,t12,t6,t13,t14,t16,t17,t18]))) h15)) (
  K x3):=by kernel_rfl
abbrev q50:QD:=zab Tryz.prog Tryz.f50.results.toList K E
abbrev d50 (p:List Nat):QD→Env→Hp→Prop:=den Tryz.prog (sel (za8 Tryz.f50) p)
abbrev zyi:=za6 k1 (blk 0 (za6 (d50 [1,1,1] (q50 K E)) (q50 K E)))
def ze5 (j:Nat→Value):Env:=#[x0,x1,x2,v3,v4,(j 5),(j 6),(j 7),(j 8),(j 9),(j 10),(j 11),(j 12),(j 13),(j 14),(j 15),(j 16),(j 17),(j 18),(j 19),(j 20),(j 21),(j 22),(j 23),(j 24),(j 25),(j 26),(j 27),(j 28),x29]
theorem t50:d50 [] (q50 K E) #[x0,U,U,U,U,U,U,U,U,U,U,U,U,U,U,U,U,U,U,U,U,U,U,U,U,U,U,U,U,U] =
 lp (fun k1=>d50 [1,1,0,1,0,0] (zyi K E k1)) (ze5 x0 U (.slice none 0 0) U (.slice none 0 0) (.int .i64 0) (jf #[])):=by kernel_rfl
theorem zst:d50 [1,1,0,1,0,0] (zyi K E k1) (ze5 x0 x1 x2 x29 v3 v4 j) =
 pv (za9 x0) fun t1=>
 pv (za1 .none .lss v4 t1) fun t2=>
 cnd t2 (
  pv (iaV none 2 x0 v4) fun t3=>
  pv (faV 0 t3) fun t4=>
  ld false 1 t4 fun t5=>
  zbf 3 1 8 (.slice none 0 0) t5 fun t6=>
  pv (iaV none 2 x0 v4) fun t7=>
  pv (faV 1 t7) fun t8=>
  ld false 1 t8 fun t9=>
  pv (bdC #[(.slice none 0 0),(.int .i64 0)] [(0,1),(1,1)] #[(0,t6),(1,t9)]) fun t10=>
  nws 90 1 (bsC #[(.slice none 0 0),(.int .i64 0)] 2 1 #[(0,t10)]) fun t11=>
  zbf 90 2 32 v3 t11 fun t12=>
  pv (za1 .none .add v4 (.int .i64 1)) fun t13=>
  k1 (ze5 x0 x1 x2 x29 t12 t13 (jf #[U,U,U,U,U,t6,v4,x0,t1,t2,v4,t13,(.slice none 0 0),x0,v4,t3,t4,t5,t6,v3,t6,x0,v4,t7,t8,t9,t10,t11,t12]))) (
  K v3):=by kernel_rfl
end
section
variable {K:zae} {E:zat} {k1 k2 k3 k4 k5:Env→Hp→Prop} {σ:Type} {x0 x1 x2 x3 x4 x5 x6 x7 x8 x9 x10 x11 x12 x13 x14 x15 x16 x17 x18 x19 x20 x21 x22 x23 x24 x25 x26 x27 x28 x29 x30 x31 x32 x33 x34 x35 x36 x37 x38 x39 x40 x41 x42 x43 x44 x45 x46 x47 x48 x49 x50 x51 x52 x53 x54 x55 x56 x57 x58 x59 x60 x61 x62 x63 x64 x65 x66 x67 x68 x69 x70 x71 x72 v0 v1 v2 v3 v4 v5 v6 v7 v8 v9 v10 v11 v12 v13 v14 v15 v16 v17 v18 v19 v20 v21 v22 v23 v24 v25 v26 v27 v28 v29 v30 v31 v32 v33 v34 v35 v36 v37 v38 v39 v40 v41 v42 v43 v44 v45 v46 v47 v48 v49 v50 v51 v52 v53 v54 v55 v56 v57 v58 v59 v60 v61 v62 v63 v64 v65 v66 v67 v68 v69 v70 v71 v72:Value} {h:Hp} {j:Nat→Value}
theorem zv9 (f3 f4:σ→Value) (I:σ→Hp→Prop) (μ:σ→Nat) (s0:σ) (e3:v3=f3 s0) (e4:v4=f4 s0) (h0:h.wf→∃ h',h.wk h'∧I s0 h')
 (round:∀ (k1:Env→Hp→Prop) (s:σ) (j:Nat→Value) (h:Hp),I s h→h.wf→(∀ s' j' h',μ s'<μ s→(h'.wf→∃ h'',h'.wk h''∧I s' h'')→k1 (zeh x0 x1 x2 x64 x65 x66 x67 x68 x69 x70 x71 x72 (f3 s') (f4 s') j') h')→d12 [1,1,0,1,0,0] (zze K E k1) (zeh x0 x1 x2 x64 x65 x66 x67 x68 x69 x70 x71 x72 (f3 s) (f4 s) j) h) :
 lp (fun k1=>d12 [1,1,0,1,0,0] (zze K E k1)) (zeh x0 x1 x2 x64 x65 x66 x67 x68 x69 x70 x71 x72 v3 v4 j) h:=by
 subst e3
 subst e4
 exact zaj (fun s j=>zeh x0 x1 x2 x64 x65 x66 x67 x68 x69 x70 x71 x72 (f3 s) (f4 s) j) I μ round s0 j h0
theorem zhv (f6 f7:σ→Value) (I:σ→Hp→Prop) (μ:σ→Nat) (s0:σ) (e6:v6=f6 s0) (e7:v7=f7 s0) (h0:h.wf→∃ h',h.wk h'∧I s0 h')
 (round:∀ (k2:Env→Hp→Prop) (s:σ) (j:Nat→Value) (h:Hp),I s h→h.wf→(∀ s' j' h',μ s'<μ s→(h'.wf→∃ h'',h'.wk h''∧I s' h'')→k2 (zb5 x0 x1 x2 x3 x4 x5 x8 x9 x10 x11 x12 x13 x14 x15 x16 x17 x18 x19 x20 x21 x22 x23 x24 x25 x26 x60 x61 x62 x63 x64 x65 x66 x67 x68 x69 x70 x71 x72 (f6 s') (f7 s') j') h')→d12 [1,1,0,1,0,0,1,0,0,1,1,0,1,0,0] (zz1 K E k1 k2) (zb5 x0 x1 x2 x3 x4 x5 x8 x9 x10 x11 x12 x13 x14 x15 x16 x17 x18 x19 x20 x21 x22 x23 x24 x25 x26 x60 x61 x62 x63 x64 x65 x66 x67 x68 x69 x70 x71 x72 (f6 s) (f7 s) j) h) :
 lp (fun k2=>d12 [1,1,0,1,0,0,1,0,0,1,1,0,1,0,0] (zz1 K E k1 k2)) (zb5 x0 x1 x2 x3 x4 x5 x8 x9 x10 x11 x12 x13 x14 x15 x16 x17 x18 x19 x20 x21 x22 x23 x24 x25 x26 x60 x61 x62 x63 x64 x65 x66 x67 x68 x69 x70 x71 x72 v6 v7 j) h:=by
 subst e6
 subst e7
 exact zaj (fun s j=>zb5 x0 x1 x2 x3 x4 x5 x8 x9 x10 x11 x12 x13 x14 x15 x16 x17 x18 x19 x20 x21 x22 x23 x24 x25 x26 x60 x61 x62 x63 x64 x65 x66 x67 x68 x69 x70 x71 x72 (f6 s) (f7 s) j) I μ round s0 j h0
theorem zt3 (f7 f8:σ→Value) (I:σ→Hp→Prop) (μ:σ→Nat) (s0:σ) (e7:v7=f7 s0) (e8:v8=f8 s0) (h0:h.wf→∃ h',h.wk h'∧I s0 h')
 (round:∀ (k1:Env→Hp→Prop) (s:σ) (j:Nat→Value) (h:Hp),I s h→h.wf→(∀ s' j' h',μ s'<μ s→(h'.wf→∃ h'',h'.wk h''∧I s' h'')→k1 (zei x0 x1 x2 x3 x4 x5 x6 x42 (f7 s') (f8 s') j') h')→d20 [1,1,0,1,0,0] (zjx K E k1) (zei x0 x1 x2 x3 x4 x5 x6 x42 (f7 s) (f8 s) j) h) :
 lp (fun k1=>d20 [1,1,0,1,0,0] (zjx K E k1)) (zei x0 x1 x2 x3 x4 x5 x6 x42 v7 v8 j) h:=by
 subst e7
 subst e8
 exact zaj (fun s j=>zei x0 x1 x2 x3 x4 x5 x6 x42 (f7 s) (f8 s) j) I μ round s0 j h0
theorem ztz (f5:σ→Value) (I:σ→Hp→Prop) (μ:σ→Nat) (s0:σ) (e5:v5=f5 s0) (h0:h.wf→∃ h',h.wk h'∧I s0 h')
 (round:∀ (k1:Env→Hp→Prop) (s:σ) (j:Nat→Value) (h:Hp),I s h→h.wf→(∀ s' j' h',μ s'<μ s→(h'.wf→∃ h'',h'.wk h''∧I s' h'')→k1 (ze6 x0 x1 x2 x3 x6 x7 x8 x9 x10 (f5 s') j') h')→d21 [1,1,0,1,0,0] (zz3 K E k1) (ze6 x0 x1 x2 x3 x6 x7 x8 x9 x10 (f5 s) j) h) :
 lp (fun k1=>d21 [1,1,0,1,0,0] (zz3 K E k1)) (ze6 x0 x1 x2 x3 x6 x7 x8 x9 x10 v5 j) h:=by
 subst e5
 exact zaj (fun s j=>ze6 x0 x1 x2 x3 x6 x7 x8 x9 x10 (f5 s) j) I μ round s0 j h0
theorem zuj (f7 f16:σ→Value) (I:σ→Hp→Prop) (μ:σ→Nat) (s0:σ) (e7:v7=f7 s0) (e16:v16=f16 s0) (h0:h.wf→∃ h',h.wk h'∧I s0 h')
 (round:∀ (k1:Env→Hp→Prop) (s:σ) (j:Nat→Value) (h:Hp),I s h→h.wf→(∀ s' j' h',μ s'<μ s→(h'.wf→∃ h'',h'.wk h''∧I s' h'')→k1 (zen x0 x1 x2 x3 x4 x5 x6 x8 x11 x12 x13 x14 x15 x37 (f7 s') (f16 s') j') h')→d24 [1,1,0,1,0,0] (zn6 K E k1) (zen x0 x1 x2 x3 x4 x5 x6 x8 x11 x12 x13 x14 x15 x37 (f7 s) (f16 s) j) h) :
 lp (fun k1=>d24 [1,1,0,1,0,0] (zn6 K E k1)) (zen x0 x1 x2 x3 x4 x5 x6 x8 x11 x12 x13 x14 x15 x37 v7 v16 j) h:=by
 subst e7
 subst e16
 exact zaj (fun s j=>zen x0 x1 x2 x3 x4 x5 x6 x8 x11 x12 x13 x14 x15 x37 (f7 s) (f16 s) j) I μ round s0 j h0
theorem zyd (f5:σ→Value) (I:σ→Hp→Prop) (μ:σ→Nat) (s0:σ) (e5:v5=f5 s0) (h0:h.wf→∃ h',h.wk h'∧I s0 h')
 (round:∀ (k1:Env→Hp→Prop) (s:σ) (j:Nat→Value) (h:Hp),I s h→h.wf→(∀ s' j' h',μ s'<μ s→(h'.wf→∃ h'',h'.wk h''∧I s' h'')→k1 (zfi x0 x1 x2 x3 x23 x24 x25 (f5 s') j') h')→d28 [1,0,1,0,0] (zyj K E k1) (zfi x0 x1 x2 x3 x23 x24 x25 (f5 s) j) h) :
 lp (fun k1=>d28 [1,0,1,0,0] (zyj K E k1)) (zfi x0 x1 x2 x3 x23 x24 x25 v5 j) h:=by
 subst e5
 exact zaj (fun s j=>zfi x0 x1 x2 x3 x23 x24 x25 (f5 s) j) I μ round s0 j h0
theorem zq8 (f13:σ→Value) (I:σ→Hp→Prop) (μ:σ→Nat) (s0:σ) (e13:v13=f13 s0) (h0:h.wf→∃ h',h.wk h'∧I s0 h')
 (round:∀ (k1:Env→Hp→Prop) (s:σ) (j:Nat→Value) (h:Hp),I s h→h.wf→(∀ s' j' h',μ s'<μ s→(h'.wf→∃ h'',h'.wk h''∧I s' h'')→k1 (zd7 x0 x1 x2 x3 x4 x6 x7 x8 x9 x10 x11 x12 x33 (f13 s') j') h')→d30 [1,1,1,0,1,0,0] (zyx K E k1) (zd7 x0 x1 x2 x3 x4 x6 x7 x8 x9 x10 x11 x12 x33 (f13 s) j) h) :
 lp (fun k1=>d30 [1,1,1,0,1,0,0] (zyx K E k1)) (zd7 x0 x1 x2 x3 x4 x6 x7 x8 x9 x10 x11 x12 x33 v13 j) h:=by
 subst e13
 exact zaj (fun s j=>zd7 x0 x1 x2 x3 x4 x6 x7 x8 x9 x10 x11 x12 x33 (f13 s) j) I μ round s0 j h0
theorem zpv (f10:σ→Value) (I:σ→Hp→Prop) (μ:σ→Nat) (s0:σ) (e10:v10=f10 s0) (h0:h.wf→∃ h',h.wk h'∧I s0 h')
 (round:∀ (k1:Env→Hp→Prop) (s:σ) (j:Nat→Value) (h:Hp),I s h→h.wf→(∀ s' j' h',μ s'<μ s→(h'.wf→∃ h'',h'.wk h''∧I s' h'')→k1 (zd8 x0 x1 x2 x3 x4 x5 x6 x7 x8 x9 x12 x13 x14 x15 x16 x17 x50 x51 (f10 s') j') h')→d35 [1,1,1,0,1,0,0] (zyw K E k1) (zd8 x0 x1 x2 x3 x4 x5 x6 x7 x8 x9 x12 x13 x14 x15 x16 x17 x50 x51 (f10 s) j) h) :
 lp (fun k1=>d35 [1,1,1,0,1,0,0] (zyw K E k1)) (zd8 x0 x1 x2 x3 x4 x5 x6 x7 x8 x9 x12 x13 x14 x15 x16 x17 x50 x51 v10 j) h:=by
 subst e10
 exact zaj (fun s j=>zd8 x0 x1 x2 x3 x4 x5 x6 x7 x8 x9 x12 x13 x14 x15 x16 x17 x50 x51 (f10 s) j) I μ round s0 j h0
theorem ztm (f7 f8:σ→Value) (I:σ→Hp→Prop) (μ:σ→Nat) (s0:σ) (e7:v7=f7 s0) (e8:v8=f8 s0) (h0:h.wf→∃ h',h.wk h'∧I s0 h')
 (round:∀ (k1:Env→Hp→Prop) (s:σ) (j:Nat→Value) (h:Hp),I s h→h.wf→(∀ s' j' h',μ s'<μ s→(h'.wf→∃ h'',h'.wk h''∧I s' h'')→k1 (zef x0 x1 x2 x3 x4 x5 x6 x50 (f7 s') (f8 s') j') h')→d36 [1,1,0,1,0,0] (zgb K E k1) (zef x0 x1 x2 x3 x4 x5 x6 x50 (f7 s) (f8 s) j) h) :
 lp (fun k1=>d36 [1,1,0,1,0,0] (zgb K E k1)) (zef x0 x1 x2 x3 x4 x5 x6 x50 v7 v8 j) h:=by
 subst e7
 subst e8
 exact zaj (fun s j=>zef x0 x1 x2 x3 x4 x5 x6 x50 (f7 s) (f8 s) j) I μ round s0 j h0
theorem zli (f5 f6:σ→Value) (I:σ→Hp→Prop) (μ:σ→Nat) (s0:σ) (e5:v5=f5 s0) (e6:v6=f6 s0) (h0:h.wf→∃ h',h.wk h'∧I s0 h')
 (round:∀ (k1:Env→Hp→Prop) (s:σ) (j:Nat→Value) (h:Hp),I s h→h.wf→(∀ s' j' h',μ s'<μ s→(h'.wf→∃ h'',h'.wk h''∧I s' h'')→k1 (zed x0 x1 x2 x3 x4 x33 (f5 s') (f6 s') j') h')→d43 [1,1,0,1,0,0] (zjy K E k1) (zed x0 x1 x2 x3 x4 x33 (f5 s) (f6 s) j) h) :
 lp (fun k1=>d43 [1,1,0,1,0,0] (zjy K E k1)) (zed x0 x1 x2 x3 x4 x33 v5 v6 j) h:=by
 subst e5
 subst e6
 exact zaj (fun s j=>zed x0 x1 x2 x3 x4 x33 (f5 s) (f6 s) j) I μ round s0 j h0
theorem zy0 (f5:σ→Value) (I:σ→Hp→Prop) (μ:σ→Nat) (s0:σ) (e5:v5=f5 s0) (h0:h.wf→∃ h',h.wk h'∧I s0 h')
 (round:∀ (k1:Env→Hp→Prop) (s:σ) (j:Nat→Value) (h:Hp),I s h→h.wf→(∀ s' j' h',μ s'<μ s→(h'.wf→∃ h'',h'.wk h''∧I s' h'')→k1 (zfo x0 x1 x2 x3 x36 x37 x38 x39 x40 x41 x42 x43 x44 x45 (f5 s') j') h')→d44 [1,0,1,0,0] (zyg K E k1) (zfo x0 x1 x2 x3 x36 x37 x38 x39 x40 x41 x42 x43 x44 x45 (f5 s) j) h) :
 lp (fun k1=>d44 [1,0,1,0,0] (zyg K E k1)) (zfo x0 x1 x2 x3 x36 x37 x38 x39 x40 x41 x42 x43 x44 x45 v5 j) h:=by
 subst e5
 exact zaj (fun s j=>zfo x0 x1 x2 x3 x36 x37 x38 x39 x40 x41 x42 x43 x44 x45 (f5 s) j) I μ round s0 j h0
theorem zpu (f4:σ→Value) (I:σ→Hp→Prop) (μ:σ→Nat) (s0:σ) (e4:v4=f4 s0) (h0:h.wf→∃ h',h.wk h'∧I s0 h')
 (round:∀ (k1:Env→Hp→Prop) (s:σ) (j:Nat→Value) (h:Hp),I s h→h.wf→(∀ s' j' h',μ s'<μ s→(h'.wf→∃ h'',h'.wk h''∧I s' h'')→k1 (zdc x0 x1 x2 x3 x6 x7 x8 x9 x10 x40 (f4 s') j') h')→d47 [1,1,1,0,1,0,0] (zyk K E k1) (zdc x0 x1 x2 x3 x6 x7 x8 x9 x10 x40 (f4 s) j) h) :
 lp (fun k1=>d47 [1,1,1,0,1,0,0] (zyk K E k1)) (zdc x0 x1 x2 x3 x6 x7 x8 x9 x10 x40 v4 j) h:=by
 subst e4
 exact zaj (fun s j=>zdc x0 x1 x2 x3 x6 x7 x8 x9 x10 x40 (f4 s) j) I μ round s0 j h0
theorem ztb (f3 f4:σ→Value) (I:σ→Hp→Prop) (μ:σ→Nat) (s0:σ) (e3:v3=f3 s0) (e4:v4=f4 s0) (h0:h.wf→∃ h',h.wk h'∧I s0 h')
 (round:∀ (k1:Env→Hp→Prop) (s:σ) (j:Nat→Value) (h:Hp),I s h→h.wf→(∀ s' j' h',μ s'<μ s→(h'.wf→∃ h'',h'.wk h''∧I s' h'')→k1 (ze5 x0 x1 x2 x29 (f3 s') (f4 s') j') h')→d50 [1,1,0,1,0,0] (zyi K E k1) (ze5 x0 x1 x2 x29 (f3 s) (f4 s) j) h) :
 lp (fun k1=>d50 [1,1,0,1,0,0] (zyi K E k1)) (ze5 x0 x1 x2 x29 v3 v4 j) h:=by
 subst e3
 subst e4
 exact zaj (fun s j=>ze5 x0 x1 x2 x29 (f3 s) (f4 s) j) I μ round s0 j h0
end
end Go.Proofs.YtgcmbkoejjcjlaaGreatDoor.T
