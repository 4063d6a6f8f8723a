import Derived.Test.YtlhlhpgjnjjhnaaGreatDoorProg
import Derived.Test.YtlhlhpgjnjjhnaaGreatDoorZ1
set_option maxHeartbeats 16000000
set_option maxRecDepth 20000
open Go Go.RowKit Go.Proofs.YtlhlhpgjnjjhnaaGreatDoor.K
set_option linter.unusedVariables false
set_option maxRecDepth 100000
namespace Go.Proofs.YtlhlhpgjnjjhnaaGreatDoor.K
abbrev cF (n:Nat):=zbq Tryz.prog (.func (.func n) #[] #[])
end Go.Proofs.YtlhlhpgjnjjhnaaGreatDoor.K
namespace Go.Proofs.YtlhlhpgjnjjhnaaGreatDoor.T
section
variable (K:zae) (E:zb2) (k1 k2:Env -> Hp -> Prop) (x0 x1 x2 x3 x4 x5 x6 x7 x8 x9 x10 x11 x12 x13 x14 x15 x16 x17 x18 x19 x20 x21 x22 x23 x24 x25 x26 x27 x28 x29 x30 x31 x32 x33 x34 x35 x36 x37 x38 x39 x40 x41 x42 x43 x44 x45 x46 x47 x48 x49 x50 x51 x52 x53 x54 x55 x56 x57 x58 x59 x60 x61 x62 x63 x64 x65 x66 x67 x68 x69 x70 x71 x72 v0 v3 v4 v5 v6 v7 v8 v13 v16:Value) (j:Nat -> Value)
abbrev q10:QD:=za7 Tryz.prog Tryz.f10.results.toList K E
abbrev d10 (p:List Nat):QD -> Env -> Hp -> Prop:=den Tryz.prog (sel (za3 Tryz.f10) p)
abbrev zzv:=za8 k2 (blk 2 (za8 (d10 [1,1,0,1,0,0,1,0,0,1,1,1] (blk 1 (za8 (d10 [1,1,0,1,0,0,1,1] (za8 k1 (blk 0 (za8 (d10 [1,1,1] (q10 K E)) (q10 K E))))) (za8 k1 (blk 0 (za8 (d10 [1,1,1] (q10 K E)) (q10 K E))))))) (blk 1 (za8 (d10 [1,1,0,1,0,0,1,1] (za8 k1 (blk 0 (za8 (d10 [1,1,1] (q10 K E)) (q10 K E))))) (za8 k1 (blk 0 (za8 (d10 [1,1,1] (q10 K E)) (q10 K E))))))))
abbrev zzw:=za8 k1 (blk 0 (za8 (d10 [1,1,1] (q10 K E)) (q10 K E)))
def zen (j:Nat -> Value):Env:=#[x0,x1,x2,v3,v4,(j 5),(j 6),(j 7),(j 8),(j 9),(j 10),(j 11),(j 12),(j 13),(j 14),(j 15),(j 16),(j 17),(j 18),(j 19),(j 20),(j 21),(j 22),(j 23),(j 24),(j 25),(j 26),(j 27),(j 28),(j 29),(j 30),(j 31),(j 32),(j 33),(j 34),(j 35),(j 36),(j 37),(j 38),(j 39),(j 40),(j 41),(j 42),(j 43),(j 44),(j 45),(j 46),(j 47),(j 48),(j 49),(j 50),(j 51),(j 52),(j 53),(j 54),(j 55),(j 56),(j 57),(j 58),(j 59),(j 60),(j 61),(j 62),(j 63),x64,x65,x66,x67,x68,x69,x70,x71,x72]
def zbs (j:Nat -> Value):Env:=#[x0,x1,x2,x3,x4,x5,v6,v7,x8,x9,x10,x11,x12,x13,x14,x15,x16,x17,x18,x19,x20,x21,x22,x23,x24,x25,x26,(j 27),(j 28),(j 29),(j 30),(j 31),(j 32),(j 33),(j 34),(j 35),(j 36),(j 37),(j 38),(j 39),(j 40),(j 41),(j 42),(j 43),(j 44),(j 45),(j 46),(j 47),(j 48),(j 49),(j 50),(j 51),(j 52),(j 53),(j 54),(j 55),(j 56),(j 57),(j 58),(j 59),x60,x61,x62,x63,x64,x65,x66,x67,x68,x69,x70,x71,x72]
theorem t10:d10 [] (q10 K E) #[x0,U,U,U,U,U,U,U,U,U,U,U,U,U,U,U,U,U,U,U,U,U,U,U,U,U,U,U,U,U,U,U,U,U,U,U,U,U,U,U,U,U,U,U,U,U,U,U,U,U,U,U,U,U,U,U,U,U,U,U,U,U,U,U,U,U,U,U,U,U,U,U,U] =
 lp (λk1=>d10 [1,1,0,1,0,0] (zzw K E k1)) (zen x0 U (.slice none 0 0) U U U U U U U U U (.slice none 0 0) (.int .i64 0) (jf #[])):=by kernel_rfl
theorem zu6:d10 [1,1,0,1,0,0] (zzw K E k1) (zen x0 x1 x2 x64 x65 x66 x67 x68 x69 x70 x71 x72 v3 v4 j) =
 pv (zac x0) λt1=>
 pv (za1 .none .lss v4 t1) λt2=>
 gdK t2 true (λk=>k v4) λt3=>
 gdK t2 true (λk=>pv (za1 .none .lss t3 (.int .i64 4)) k) λt4=>
 pv (zad t2 t4 (.bool false)) λt5=>
 cnd t5 (
  pv (iaV none 2 x0 v4) λt6=>
  pv (faV 0 t6) λt7=>
  ld false 1 t7 λt8=>
  pv (za1 .none .rem t8 (.int .u16 200)) λt9=>
  pv (cvV .i64 t9) λt10=>
  pv (za1 .none .add (.int .i64 1) t10) λt11=>
  pv (bdC #[(.int .i64 0),(.slice none 0 0)] [(0,1),(1,1)] #[(0,t11)]) λt12=>
  nw 108 [(.int .i64 0),(.slice none 0 0)] λt13=>
  st 2 t13 t12 λ_=>
  lp (λk2=>d10 [1,1,0,1,0,0,1,0,0,1,1,0,1,0,0] (zzv K E k1 k2)) (zbs x0 x1 x2 v3 v4 t13 v4 x0 t1 t2 t2 t3 t4 t5 (j 16) (j 17) x0 v4 t6 t7 t8 t9 t10 t11 t12 (j 60) (j 61) (j 62) (j 63) x64 x65 x66 x67 x68 x69 x70 x71 x72 (.int .i64 1) (.int .i64 0) (jf #[U,U,U,U,U,U,U,U,U,U,U,U,U,U,U,U,U,U,U,U,U,U,U,U,U,U,U,(j 27),(j 28),(j 29),(j 30),(j 31),(j 32),(j 33),(j 34),(j 35),(j 36),(j 37),(j 38),(j 39),(j 40),(j 41),(j 42),(j 43),(j 44),(j 45),(j 46),(j 47),(j 48),(j 49),(j 50),(j 51),(j 52),(j 53),(j 54),(j 55),(j 56),(j 57),(j 58),(j 59)]))) (
  pv (zac v3) λt14=>
  pv (za1 .none .eql t14 (.int .i64 0)) λt15=>
  cnd t15 (
  nws 3 1 (bsC #[(.int .i64 0)] 1 1 #[(0,(.int .i64 10))]) λt16=>
  pv (bdC #[(.int .i64 0),(.slice none 0 0)] [(0,1),(1,1)] #[(0,(.int .i64 100)),(1,t16)]) λt17=>
  nws 108 1 (bsC #[(.int .i64 0),(.slice none 0 0)] 2 1 #[(0,t17)]) λt18=>
  zek 108 2 32 v3 t18 λt19=>
  d10 [1,1,1,1] (q10 K E) #[x0,x1,x2,t19,v4,(j 5),(j 6),(j 7),v4,x0,t1,t2,t2,t3,t4,t5,(j 16),(j 17),(j 18),(j 19),(j 20),(j 21),(j 22),(j 23),(j 24),(j 25),(j 26),(j 27),(j 28),(j 29),(j 30),(j 31),(j 32),(j 33),(j 34),(j 35),(j 36),(j 37),(j 38),(j 39),(j 40),(j 41),(j 42),(j 43),(j 44),(j 45),(j 46),(j 47),(j 48),(j 49),(j 50),(j 51),(j 52),(j 53),(j 54),(j 55),(j 56),(j 57),(j 58),(j 59),(j 60),(j 61),(j 62),(j 63),v3,t14,t15,v3,t16,t17,t18,t19,x72]) (
  d10 [1,1,1,1] (q10 K E) #[x0,x1,x2,v3,v4,(j 5),(j 6),(j 7),v4,x0,t1,t2,t2,t3,t4,t5,(j 16),(j 17),(j 18),(j 19),(j 20),(j 21),(j 22),(j 23),(j 24),(j 25),(j 26),(j 27),(j 28),(j 29),(j 30),(j 31),(j 32),(j 33),(j 34),(j 35),(j 36),(j 37),(j 38),(j 39),(j 40),(j 41),(j 42),(j 43),(j 44),(j 45),(j 46),(j 47),(j 48),(j 49),(j 50),(j 51),(j 52),(j 53),(j 54),(j 55),(j 56),(j 57),(j 58),(j 59),(j 60),(j 61),(j 62),(j 63),v3,t14,t15,x67,x68,x69,x70,x71,x72])):=by kernel_rfl
theorem zi8:d10 [1,1,0,1,0,0,1,0,0,1,1,0,1,0,0] (zzv K E k1 k2) (zbs x0 x1 x2 x3 x4 x5 x8 x9 x10 x11 x12 x13 x14 x15 x16 x17 x18 x19 x20 x21 x22 x23 x24 x25 x26 x60 x61 x62 x63 x64 x65 x66 x67 x68 x69 x70 x71 x72 v6 v7 j) =
 pv (iaV none 2 x0 x4) λt1=>
 pv (faV 1 t1) λt2=>
 ld false 1 t2 λt3=>
 pv (zac t3) λt4=>
 pv (za1 .none .lss v7 t4) λt5=>
 gdK t5 true (λk=>k v7) λt6=>
 gdK t5 true (λk=>pv (za1 .none .lss t6 (.int .i64 4)) k) λt7=>
 pv (zad t5 t7 (.bool false)) λt8=>
 cnd t8 (
  pv (iaV none 2 x0 x4) λt9=>
  pv (faV 1 t9) λt10=>
  ld false 1 t10 λt11=>
  pv (iaV none 1 t11 v7) λt12=>
  ld false 1 t12 λt13=>
  pv (za1 .none .rem t13 (.int .u8 4)) λt14=>
  pv (cvV .i64 t14) λt15=>
  pv (za1 .none .add (.int .i64 2) t15) λt16=>
  pv (za1 .none .mul v6 t16) λt17=>
  pv (faV 1 x5) λt18=>
  ld false 1 t18 λt19=>
  nws 3 1 (bsC #[(.int .i64 0)] 1 1 #[(0,t17)]) λt20=>
  zek 3 1 8 t19 t20 λt21=>
  pv (faV 1 x5) λt22=>
  st 1 t22 t21 λ_=>
  pv (za1 .none .add v7 (.int .i64 1)) λt23=>
  k2 (zbs x0 x1 x2 x3 x4 x5 x8 x9 x10 x11 x12 x13 x14 x15 x16 x17 x18 x19 x20 x21 x22 x23 x24 x25 x26 x60 x61 x62 x63 x64 x65 x66 x67 x68 x69 x70 x71 x72 t17 t23 (jf #[U,U,U,U,U,U,U,U,U,U,U,U,U,U,U,U,U,U,U,U,U,U,U,U,U,U,U,v7,x0,x4,t1,t2,t3,t4,t5,t5,t6,t7,t8,v7,t23,v6,x0,x4,t9,t10,t11,v7,t12,t13,t14,t15,t16,t17,t18,t19,t17,t20,t21,t22]))) (
  ld true 2 x5 λt24=>
  nws 108 1 (bsC #[(.int .i64 0),(.slice none 0 0)] 2 1 #[(0,t24)]) λt25=>
  zek 108 2 32 x3 t25 λt26=>
  pv (za1 .none .add x4 (.int .i64 1)) λt27=>
  k1 (zen x0 x1 x2 x64 x65 x66 x67 x68 x69 x70 x71 x72 t26 t27 (jf #[U,U,U,U,U,x5,v6,v7,x8,x9,x10,x11,x12,x13,x14,x15,x4,t27,x18,x19,x20,x21,x22,x23,x24,x25,x26,v7,x0,x4,t1,t2,t3,t4,t5,t5,t6,t7,t8,(j 39),(j 40),(j 41),(j 42),(j 43),(j 44),(j 45),(j 46),(j 47),(j 48),(j 49),(j 50),(j 51),(j 52),(j 53),(j 54),(j 55),(j 56),(j 57),(j 58),(j 59),x3,t24,t25,t26]))):=by kernel_rfl
theorem zrs:d10 [1,1,1,1] (q10 K E) #[x0,x1,x2,x3,x4,x5,x6,x7,x8,x9,x10,x11,x12,x13,x14,x15,x16,x17,x18,x19,x20,x21,x22,x23,x24,x25,x26,x27,x28,x29,x30,x31,x32,x33,x34,x35,x36,x37,x38,x39,x40,x41,x42,x43,x44,x45,x46,x47,x48,x49,x50,x51,x52,x53,x54,x55,x56,x57,x58,x59,x60,x61,x62,x63,x64,x65,x66,x67,x68,x69,x70,x71,x72] =
 K x3:=by kernel_rfl
abbrev q15:QD:=za7 Tryz.prog Tryz.f15.results.toList K E
abbrev d15 (p:List Nat):QD -> Env -> Hp -> Prop:=den Tryz.prog (sel (za3 Tryz.f15) p)
abbrev zk7:=za8 k1 (blk 0 (za8 (d15 [1,1,1] (q15 K E)) (q15 K E)))
def zeq (j:Nat -> Value):Env:=#[x0,x1,x2,x3,x4,x5,x6,v7,v8,(j 9),(j 10),(j 11),(j 12),(j 13),(j 14),(j 15),(j 16),(j 17),(j 18),(j 19),(j 20),(j 21),(j 22),(j 23),(j 24),(j 25),(j 26),(j 27),(j 28),(j 29),(j 30),(j 31),(j 32),(j 33),(j 34),(j 35),(j 36),(j 37),(j 38),(j 39),(j 40),(j 41),x42]
theorem t15:d15 [] (q15 K E) #[x0,x1,x2,U,U,U,U,U,U,U,U,U,U,U,U,U,U,U,U,U,U,U,U,U,U,U,U,U,U,U,U,U,U,U,U,U,U,U,U,U,U,U,U] =
 lp (λk1=>d15 [1,1,0,1,0,0] (zk7 K E k1)) (zeq x0 x1 x2 U U U (.slice none 0 0) U (.slice none 0 0) (.int .i64 0) (jf #[])):=by kernel_rfl
theorem zv3:d15 [1,1,0,1,0,0] (zk7 K E k1) (zeq x0 x1 x2 x3 x4 x5 x6 x42 v7 v8 j) =
 pv (zac x1) λt1=>
 pv (za1 .none .lss v8 t1) λt2=>
 gdK t2 true (λk=>k v8) λt3=>
 gdK t2 true (λk=>pv (za1 .none .lss t3 (.int .i64 200)) k) λt4=>
 pv (zad t2 t4 (.bool false)) λt5=>
 cnd t5 (
  pv (iaV none 1 x1 v8) λt6=>
  ld false 1 t6 λt7=>
  cF 41 #[x0,t7] (λt8=>
  pv (bdC #[(.slice none 0 0),(.int .i64 0)] [(0,1),(1,1)] #[(0,t8)]) λt9=>
  nw 110 [(.slice none 0 0),(.int .i64 0)] λt10=>
  st 2 t10 t9 λ_=>
  pv (zac x2) λt11=>
  pv (za1 .none .gtr t11 (.int .i64 0)) λt12=>
  cnd t12 (
  pv (zac x2) λt13=>
  pv (za1 .none .rem v8 t13) λt14=>
  pv (iaV none 1 x2 t14) λt15=>
  ld false 1 t15 λt16=>
  pv (faV 1 t10) λt17=>
  st 1 t17 t16 λ_=>
  d15 [1,1,0,1,0,0,1,0,0,1,1] (blk 1 (za8 (d15 [1,1,0,1,0,0,1,1] (zk7 K E k1)) (zk7 K E k1))) #[x0,x1,x2,x3,x4,x5,x6,v7,v8,t10,v8,x1,t1,t2,t2,t3,t4,t5,(j 18),(j 19),x0,x1,v8,t6,t7,t8,t9,x2,t11,t12,x2,v8,x2,t13,t14,t15,t16,t17,(j 38),(j 39),(j 40),(j 41),x42]) (
  d15 [1,1,0,1,0,0,1,0,0,1,1] (blk 1 (za8 (d15 [1,1,0,1,0,0,1,1] (zk7 K E k1)) (zk7 K E k1))) #[x0,x1,x2,x3,x4,x5,x6,v7,v8,t10,v8,x1,t1,t2,t2,t3,t4,t5,(j 18),(j 19),x0,x1,v8,t6,t7,t8,t9,x2,t11,t12,(j 30),(j 31),(j 32),(j 33),(j 34),(j 35),(j 36),(j 37),(j 38),(j 39),(j 40),(j 41),x42])) E) (
  K v7):=by kernel_rfl
theorem zl5:d15 [1,1,0,1,0,0,1,0,0,1,1] (blk 1 (za8 (d15 [1,1,0,1,0,0,1,1] (zk7 K E k1)) (zk7 K E k1))) #[x0,x1,x2,x3,x4,x5,x6,x7,x8,x9,x10,x11,x12,x13,x14,x15,x16,x17,x18,x19,x20,x21,x22,x23,x24,x25,x26,x27,x28,x29,x30,x31,x32,x33,x34,x35,x36,x37,x38,x39,x40,x41,x42] =
 ld true 2 x9 λt1=>
 nws 110 1 (bsC #[(.slice none 0 0),(.int .i64 0)] 2 1 #[(0,t1)]) λt2=>
 zek 110 2 32 x7 t2 λt3=>
 pv (za1 .none .add x8 (.int .i64 1)) λt4=>
 k1 (zeq x0 x1 x2 x3 x4 x5 x6 x42 t3 t4 (jf #[U,U,U,U,U,U,U,U,U,x9,x10,x11,x12,x13,x14,x15,x16,x17,x8,t4,x20,x21,x22,x23,x24,x25,x26,x27,x28,x29,x30,x31,x32,x33,x34,x35,x36,x37,x7,t1,t2,t3])):=by kernel_rfl
abbrev q19:QD:=za7 Tryz.prog Tryz.f19.results.toList K E
abbrev d19 (p:List Nat):QD -> Env -> Hp -> Prop:=den Tryz.prog (sel (za3 Tryz.f19) p)
abbrev zo5:=za8 k1 (blk 0 (za8 (d19 [1,1,1] (q19 K E)) (q19 K E)))
def zel (j:Nat -> Value):Env:=#[x0,x1,x2,x3,x4,x5,x6,v7,x8,(j 9),(j 10),x11,x12,x13,x14,x15,v16,(j 17),(j 18),(j 19),(j 20),(j 21),(j 22),(j 23),(j 24),(j 25),(j 26),(j 27),(j 28),(j 29),(j 30),(j 31),(j 32),(j 33),(j 34),(j 35),(j 36),x37]
theorem t19:d19 [] (q19 K E) #[x0,x1,x2,U,U,U,U,U,U,U,U,U,U,U,U,U,U,U,U,U,U,U,U,U,U,U,U,U,U,U,U,U,U,U,U,U,U,U] =
 pv (zai x0) λt1=>
 pv (faV 0 t1) λt2=>
 ld false 1 t2 λt3=>
 pv (zac t3) λt4=>
 lp (λk1=>d19 [1,1,0,1,0,0] (zo5 K E k1)) (zel x0 x1 x2 U U U (.slice none 0 0) U x0 t1 t2 t3 t4 U (.slice none 0 0) (.int .i64 0) (jf #[])):=by kernel_rfl
theorem zuq:d19 [1,1,0,1,0,0] (zo5 K E k1) (zel x0 x1 x2 x3 x4 x5 x6 x8 x11 x12 x13 x14 x15 x37 v7 v16 j) =
 pv (za1 .none .lss v16 x15) λt1=>
 cnd t1 (
  pv (iaV none 2 x14 v16) λt2=>
  ld true 2 t2 λt3=>
  nw 143 [(.int .u32 0),(.slice none 0 0)] λt4=>
  st 2 t4 t3 λ_=>
  pv (faV 1 t4) λt5=>
  ld false 1 t5 λt6=>
  cF 52 #[x1,x2] (λt7 h8=>(ldV h8 false 1 t5 t6)∧(
  cF 51 #[t6,t7,(.bool true)] (λt9=>
  pv (zac t9) λt10=>
  pv (za1 .none .gtr t10 (.int .i64 0)) λt11=>
  cnd t11 (
   pv (faV 0 t4) λt12=>
   ld false 1 t12 λt13=>
   pv (bdC #[(.int .u32 0),(.slice none 0 0)] [(0,1),(1,1)] #[(0,t13),(1,t9)]) λt14=>
   nws 143 1 (bsC #[(.int .u32 0),(.slice none 0 0)] 2 1 #[(0,t14)]) λt15=>
   zek 143 2 32 v7 t15 λt16=>
   d19 [1,1,0,1,0,0,1,1,1] (zo5 K E k1) #[x0,x1,x2,x3,x4,x5,x6,t16,x8,t4,t9,x11,x12,x13,x14,x15,v16,t1,t2,t3,t5,t6,x1,x2,t7,t9,t9,t10,t11,v7,t12,t13,t9,t14,t15,t16,(j 36),x37]) (
   d19 [1,1,0,1,0,0,1,1,1] (zo5 K E k1) #[x0,x1,x2,x3,x4,x5,x6,v7,x8,t4,t9,x11,x12,x13,x14,x15,v16,t1,t2,t3,t5,t6,x1,x2,t7,t9,t9,t10,t11,(j 29),(j 30),(j 31),(j 32),(j 33),(j 34),(j 35),(j 36),x37])) E) h8) E) (
  K v7):=by kernel_rfl
theorem zj1:d19 [1,1,0,1,0,0,1,1,1] (zo5 K E k1) #[x0,x1,x2,x3,x4,x5,x6,x7,x8,x9,x10,x11,x12,x13,x14,x15,x16,x17,x18,x19,x20,x21,x22,x23,x24,x25,x26,x27,x28,x29,x30,x31,x32,x33,x34,x35,x36,x37] =
 pv (za1 .none .add x16 (.int .i64 1)) λt1=>
 k1 (zel x0 x1 x2 x3 x4 x5 x6 x8 x11 x12 x13 x14 x15 x37 x7 t1 (jf #[U,U,U,U,U,U,U,U,U,x9,x10,U,U,U,U,U,U,x17,x18,x19,x20,x21,x22,x23,x24,x25,x26,x27,x28,x29,x30,x31,x32,x33,x34,x35,t1])):=by kernel_rfl
abbrev q20:QD:=za7 Tryz.prog Tryz.f20.results.toList K E
abbrev d20 (p:List Nat):QD -> Env -> Hp -> Prop:=den Tryz.prog (sel (za3 Tryz.f20) p)
abbrev q31:QD:=za7 Tryz.prog Tryz.f31.results.toList K E
abbrev d31 (p:List Nat):QD -> Env -> Hp -> Prop:=den Tryz.prog (sel (za3 Tryz.f31) p)
abbrev q41:QD:=za7 Tryz.prog Tryz.f41.results.toList K E
abbrev d41 (p:List Nat):QD -> Env -> Hp -> Prop:=den Tryz.prog (sel (za3 Tryz.f41) p)
abbrev zka:=za8 k1 (blk 0 (za8 (d41 [1,1,1] (q41 K E)) (q41 K E)))
def zep (j:Nat -> Value):Env:=#[x0,x1,x2,x3,x4,v5,v6,(j 7),(j 8),(j 9),(j 10),(j 11),(j 12),(j 13),(j 14),(j 15),(j 16),(j 17),(j 18),(j 19),(j 20),(j 21),(j 22),(j 23),(j 24),(j 25),(j 26),(j 27),(j 28),(j 29),(j 30),(j 31),(j 32),x33]
theorem t41:d41 [] (q41 K E) #[x0,x1,U,U,U,U,U,U,U,U,U,U,U,U,U,U,U,U,U,U,U,U,U,U,U,U,U,U,U,U,U,U,U,U] =
 lp (λk1=>d41 [1,1,0,1,0,0] (zka K E k1)) (zep x0 x1 U U (.slice none 0 0) U (.slice none 0 0) (.int .i64 0) (jf #[])):=by kernel_rfl
theorem zvp:d41 [1,1,0,1,0,0] (zka K E k1) (zep x0 x1 x2 x3 x4 x33 v5 v6 j) =
 pv (zac x0) λt1=>
 pv (za1 .none .lss v6 t1) λt2=>
 cnd t2 (
  pv (zac x1) λt3=>
  pv (za1 .none .lss v6 t3) λt4=>
  cnd t4 (
  pv (iaV none 1 x1 v6) λt5=>
  ld false 1 t5 λt6=>
  pv (cvV .i64 t6) λt7=>
  d41 [1,1,0,1,0,0,1,0,0,1,1] (blk 1 (za8 (d41 [1,1,0,1,0,0,1,1] (zka K E k1)) (zka K E k1))) #[x0,x1,x2,x3,x4,v5,v6,t7,v6,x0,t1,t2,(j 12),(j 13),v6,x1,t3,t4,x1,v6,t5,t6,t7,(j 23),(j 24),(j 25),(j 26),(j 27),(j 28),(j 29),(j 30),(j 31),(j 32),x33]) (
  d41 [1,1,0,1,0,0,1,0,0,1,1] (blk 1 (za8 (d41 [1,1,0,1,0,0,1,1] (zka K E k1)) (zka K E k1))) #[x0,x1,x2,x3,x4,v5,v6,(.int .i64 0),v6,x0,t1,t2,(j 12),(j 13),v6,x1,t3,t4,(j 18),(j 19),(j 20),(j 21),(j 22),(j 23),(j 24),(j 25),(j 26),(j 27),(j 28),(j 29),(j 30),(j 31),(j 32),x33])) (
  K v5):=by kernel_rfl
theorem zl0:d41 [1,1,0,1,0,0,1,0,0,1,1] (blk 1 (za8 (d41 [1,1,0,1,0,0,1,1] (zka K E k1)) (zka K E k1))) #[x0,x1,x2,x3,x4,x5,x6,x7,x8,x9,x10,x11,x12,x13,x14,x15,x16,x17,x18,x19,x20,x21,x22,x23,x24,x25,x26,x27,x28,x29,x30,x31,x32,x33] =
 pv (iaV none 2 x0 x6) λt1=>
 pv (faV 0 t1) λt2=>
 ld false 1 t2 λt3=>
 pv (za1 .none .rem x7 t3) λt4=>
 nws 3 1 (bsC #[(.int .i64 0)] 1 1 #[(0,t4)]) λt5=>
 zek 3 1 8 x5 t5 λt6=>
 pv (za1 .none .add x6 (.int .i64 1)) λt7=>
 k1 (zep x0 x1 x2 x3 x4 x33 t6 t7 (jf #[U,U,U,U,U,U,U,x7,x8,x9,x10,x11,x6,t7,x14,x15,x16,x17,x18,x19,x20,x21,x22,x5,x7,x0,x6,t1,t2,t3,t4,t5,t6])):=by kernel_rfl
abbrev q51:QD:=za7 Tryz.prog Tryz.f51.results.toList K E
abbrev d51 (p:List Nat):QD -> Env -> Hp -> Prop:=den Tryz.prog (sel (za3 Tryz.f51) p)
theorem t51:d51 [] (q51 K E) #[x0,x1,x2,U,U,U,U,U,U,U,U] =
 nw 145 (Value.cells x1).toList λt1=>
 nw 4 (Value.cells x2).toList λt2=>
 cF 103 #[x0] (λt3=>
 cF 102 #[t3,(.func (.func 104) #[] #[t1,t2])] (λt4=>
 K t4) E) E:=by kernel_rfl
abbrev q52:QD:=za7 Tryz.prog Tryz.f52.results.toList K E
abbrev d52 (p:List Nat):QD -> Env -> Hp -> Prop:=den Tryz.prog (sel (za3 Tryz.f52) p)
theorem t52:d52 [] (q52 K E) #[x0,x1,U,U,U,U] =
 nw 3 (Value.cells x0).toList λt1=>
 nw 3 (Value.cells x1).toList λt2=>
 K (.func (.func 105) #[] #[t1,t2]):=by kernel_rfl
abbrev q53:QD:=za7 Tryz.prog Tryz.f53.results.toList K E
abbrev d53 (p:List Nat):QD -> Env -> Hp -> Prop:=den Tryz.prog (sel (za3 Tryz.f53) p)
abbrev zzu:=za8 k1 (blk 0 (za8 (d53 [1,1,1] (q53 K E)) (q53 K E)))
def zer (j:Nat -> Value):Env:=#[v0,x1,x2,x3,x4,v5,x6,x7,x8,x9,x10,(j 11),(j 12),(j 13),(j 14),(j 15),(j 16),(j 17),(j 18),(j 19),(j 20),(j 21),(j 22),(j 23),(j 24),(j 25),(j 26),(j 27),(j 28),(j 29),(j 30),(j 31),x32]
theorem t53:d53 [] (q53 K E) #[x0,x1,U,U,U,U,U,U,U,U,U,U,U,U,U,U,U,U,U,U,U,U,U,U,U,U,U,U,U,U,U,U,U] =
 pv (zac x1) λt1=>
 pv (cvV .u64 t1) λt2=>
 cF 106 #[x0,t2,(.int .i64 4)] (λt3=>
 lp (λk1=>d53 [1,1,0,1,0,0] (zzu K E k1)) (zer x1 U U (.slice none 0 0) x0 x1 t1 t2 t3 U t3 (.int .i64 0) (jf #[]))) E:=by kernel_rfl
theorem zvy:d53 [1,1,0,1,0,0] (zzu K E k1) (zer x1 x2 x3 x4 x6 x7 x8 x9 x10 x32 v0 v5 j) =
 pv (zac x1) λt1=>
 pv (za1 .none .lss v5 t1) λt2=>
 cnd t2 (
  pv (iaV none 2 x1 v5) λt3=>
  pv (faV 0 t3) λt4=>
  ld false 1 t4 λt5=>
  pv (cvV .u64 t5) λt6=>
  cF 106 #[v0,t6,(.int .i64 4)] (λt7=>
  pv (iaV none 2 x1 v5) λt8=>
  pv (faV 1 t8) λt9=>
  ld false 1 t9 λt10=>
  cF 107 #[t7,t10] (λt11=>
  pv (za1 .none .add v5 (.int .i64 1)) λt12=>
  k1 (zer x1 x2 x3 x4 x6 x7 x8 x9 x10 x32 t11 t12 (jf #[U,U,U,U,U,U,U,U,U,U,U,v5,x1,t1,t2,v5,t12,v0,x1,v5,t3,t4,t5,t6,t7,t7,x1,v5,t8,t9,t10,t11]))) E) E) (
  K v0):=by kernel_rfl
abbrev q71:QD:=za7 Tryz.prog Tryz.f71.results.toList K E
abbrev d71 (p:List Nat):QD -> Env -> Hp -> Prop:=den Tryz.prog (sel (za3 Tryz.f71) p)
abbrev q72:QD:=za7 Tryz.prog Tryz.f72.results.toList K E
abbrev d72 (p:List Nat):QD -> Env -> Hp -> Prop:=den Tryz.prog (sel (za3 Tryz.f72) p)
abbrev q76:QD:=za7 Tryz.prog Tryz.f76.results.toList K E
abbrev d76 (p:List Nat):QD -> Env -> Hp -> Prop:=den Tryz.prog (sel (za3 Tryz.f76) p)
abbrev q83:QD:=za7 Tryz.prog Tryz.f83.results.toList K E
abbrev d83 (p:List Nat):QD -> Env -> Hp -> Prop:=den Tryz.prog (sel (za3 Tryz.f83) p)
abbrev q87:QD:=za7 Tryz.prog Tryz.f87.results.toList K E
abbrev d87 (p:List Nat):QD -> Env -> Hp -> Prop:=den Tryz.prog (sel (za3 Tryz.f87) p)
abbrev zzt:=za8 k1 (blk 0 (za8 (d87 [1,1,1,1] (q87 K E)) (q87 K E)))
def zdt (j:Nat -> Value):Env:=#[x0,x1,x2,x3,x4,(j 5),x6,x7,x8,x9,x10,x11,x12,v13,(j 14),(j 15),(j 16),(j 17),(j 18),(j 19),(j 20),(j 21),(j 22),(j 23),(j 24),(j 25),(j 26),(j 27),(j 28),(j 29),(j 30),(j 31),(j 32),x33]
theorem t87:d87 [] (q87 K E) #[x0,U,U,U,U,U,U,U,U,U,U,U,U,U,U,U,U,U,U,U,U,U,U,U,U,U,U,U,U,U,U,U,U,U] =
 cF 129 #[x0] (λt1=>
 pv (unV .not t1) λt2=>
 cnd t2 (
  K (.pointer none)) (
  pv (bdC #[(.slice none 0 0),(.slice none 0 0)] [(0,1),(1,1)] #[]) λt3=>
  nw 141 (Value.cells t3).toList λt4=>
  pv (zac x0) λt5=>
  lp (λk1=>d87 [1,1,1,0,1,0,0] (zzt K E k1)) (zdt x0 U (.pointer none) t4 U x0 t1 t2 t3 t4 x0 t5 U (.int .i64 0) (jf #[])))) E:=by kernel_rfl
theorem zrj:d87 [1,1,1,0,1,0,0] (zzt K E k1) (zdt x0 x1 x2 x3 x4 x6 x7 x8 x9 x10 x11 x12 x33 v13 j) =
 pv (za1 .none .lss v13 x12) λt1=>
 cnd t1 (
  pv (iaV none 2 x11 v13) λt2=>
  ld true 2 t2 λt3=>
  nw 108 [(.int .i64 0),(.slice none 0 0)] λt4=>
  st 2 t4 t3 λ_=>
  pv (zai x3) λt5=>
  pv (faV 1 t5) λt6=>
  ld false 1 t6 λt7=>
  pv (faV 0 t4) λt8=>
  ld false 1 t8 λt9=>
  pv (faV 1 t4) λt10=>
  ld false 1 t10 λt11=>
  cF 122 #[t11] (λt12 h13=>(ldV h13 false 1 t8 t9)∧(ldV h13 false 1 t6 t7)∧(
  pv (bdC #[(.int .i64 0),(.slice none 0 0)] [(0,1),(1,1)] #[(0,t9),(1,t12)]) λt14=>
  nws 108 1 (bsC #[(.int .i64 0),(.slice none 0 0)] 2 1 #[(0,t14)]) (λt15 h16=>(ldV h16 false 1 t6 t7)∧(
   zek 108 2 32 t7 t15 λt17=>
   pv (zai x3) λt18=>
   pv (faV 1 t18) λt19=>
   st 1 t19 t17 λ_=>
   pv (za1 .none .add v13 (.int .i64 1)) λt20=>
   k1 (zdt x0 x1 x2 x3 x4 x6 x7 x8 x9 x10 x11 x12 x33 t20 (jf #[U,U,U,U,U,t4,U,U,U,U,U,U,U,U,t1,t2,t3,x3,x3,t5,t6,t7,t8,t9,t10,t11,t12,t14,t15,t17,t18,t19,t20]))) h16)) h13) E) (
  K x3):=by kernel_rfl
abbrev q98:QD:=za7 Tryz.prog Tryz.f98.results.toList K E
abbrev d98 (p:List Nat):QD -> Env -> Hp -> Prop:=den Tryz.prog (sel (za3 Tryz.f98) p)
theorem t98:d98 [] (q98 K E) #[x0,x1,U,U,U,U,U,U,U,U,U,U,U,U] =
 nw 55 (Value.cells x0).toList λt1=>
 pv (zac x1) λt2=>
 pv (za1 .none .leq t2 (.int .i64 200)) λt3=>
 gdK t3 true (λk=>k x1) λt4=>
 gdK t3 true (λk=>k (.func (.func 143) #[] #[t1])) λt5=>
 gdK t3 true (λk=>cF 142 #[t4,t5] k E) λt6=>
 gdK t3 true (λk=>pv (unV .not t6) k) λt7=>
 pv (zad t3 t7 (.bool false)) λt8=>
 K t8:=by kernel_rfl
abbrev yk0:QD:=za7 Tryz.prog Tryz.f102.results.toList K E
abbrev zo1 (p:List Nat):QD -> Env -> Hp -> Prop:=den Tryz.prog (sel (za3 Tryz.f102) p)
abbrev zls:=za8 k1 (blk 0 (za8 (zo1 [1,1,1,1] (yk0 K E)) (yk0 K E)))
def zdc (j:Nat -> Value):Env:=#[x0,x1,x2,x3,x4,v5,v6,(j 7),x8,x9,x10,x11,x12,x13,x14,x15,(j 16),(j 17),(j 18),(j 19),(j 20),(j 21),(j 22),(j 23),(j 24),(j 25),(j 26),(j 27),(j 28),(j 29),(j 30),(j 31),(j 32),(j 33),(j 34),(j 35),x36,x37,x38,x39,x40,x41]
theorem ybh:zo1 [] (yk0 K E) #[x0,x1,U,U,U,U,U,U,U,U,U,U,U,U,U,U,U,U,U,U,U,U,U,U,U,U,U,U,U,U,U,U,U,U,U,U,U,U,U,U,U,U] =
 cF 152 #[x0,x1] (λt1=>
 pv (za1 .none .eql t1 (.int .i64 (-1))) λt2=>
 cnd t2 (
  K x0) (
  pv (za1 .none .add t1 (.int .i64 1)) λt3=>
  lp (λk1=>zo1 [1,1,1,0,1,0,0] (zls K E k1)) (zdc x0 x1 U U (.slice none 0 0) x0 x1 t1 t1 t2 U t1 t3 U U U U U U t1 t3 (jf #[])))) E:=by kernel_rfl
theorem zqq:zo1 [1,1,1,0,1,0,0] (zls K E k1) (zdc x0 x1 x2 x3 x4 x8 x9 x10 x11 x12 x13 x14 x15 x36 x37 x38 x39 x40 x41 v5 v6 j) =
 pv (zac x0) λt1=>
 pv (za1 .none .lss v6 t1) λt2=>
 cnd t2 (
  pv (iaV none 2 x0 v6) λt3=>
  ld true 2 t3 λt4=>
  nw 110 [(.slice none 0 0),(.int .i64 0)] λt5=>
  st 2 t5 t4 λ_=>
  ld true 2 t5 λt6=>
  zbq Tryz.prog x1 #[t6] (λt7=>
  pv (unV .not t7) λt8=>
  cnd t8 (
  ld true 2 t5 λt9=>
  pv (iaV none 2 x0 v5) λt10=>
  st 2 t10 t9 λ_=>
  pv (za1 .none .add v5 (.int .i64 1)) λt11=>
  zo1 [1,1,1,0,1,0,0,1,1] (zls K E k1) #[x0,x1,x2,x3,x4,t11,v6,t5,x8,x9,x10,x11,x12,x13,x14,x15,v6,x0,t1,t2,(j 20),(j 21),x0,v6,t3,t4,x1,t6,t7,t8,x0,v5,t9,t10,v5,t11,x36,x37,x38,x39,x40,x41]) (
  zo1 [1,1,1,0,1,0,0,1,1] (zls K E k1) #[x0,x1,x2,x3,x4,v5,v6,t5,x8,x9,x10,x11,x12,x13,x14,x15,v6,x0,t1,t2,(j 20),(j 21),x0,v6,t3,t4,x1,t6,t7,t8,(j 30),(j 31),(j 32),(j 33),(j 34),(j 35),x36,x37,x38,x39,x40,x41])) E) (
  pv (slV 2 x0 (some v5) none none) λt12=>
  clr 110 [(.slice none 0 0),(.int .i64 0)] 2 t12 λ_=>
  pv (slV 2 x0 none (some v5) none) λt13=>
  K t13):=by kernel_rfl
theorem zi6:zo1 [1,1,1,0,1,0,0,1,1] (zls K E k1) #[x0,x1,x2,x3,x4,x5,x6,x7,x8,x9,x10,x11,x12,x13,x14,x15,x16,x17,x18,x19,x20,x21,x22,x23,x24,x25,x26,x27,x28,x29,x30,x31,x32,x33,x34,x35,x36,x37,x38,x39,x40,x41] =
 pv (za1 .none .add x6 (.int .i64 1)) λt1=>
 k1 (zdc x0 x1 x2 x3 x4 x8 x9 x10 x11 x12 x13 x14 x15 x36 x37 x38 x39 x40 x41 x5 t1 (jf #[U,U,U,U,U,U,U,x7,U,U,U,U,U,U,U,U,x16,x17,x18,x19,x6,t1,x22,x23,x24,x25,x26,x27,x28,x29,x30,x31,x32,x33,x34,x35])):=by kernel_rfl
end
section
variable {K:zae} {E:zb2} {k1 k2:Env -> Hp -> Prop} {σ:Type} {x0 x1 x2 x3 x4 x5 x6 x7 x8 x9 x10 x11 x12 x13 x14 x15 x16 x17 x18 x19 x20 x21 x22 x23 x24 x25 x26 x32 x33 x36 x37 x38 x39 x40 x41 x42 x60 x61 x62 x63 x64 x65 x66 x67 x68 x69 x70 x71 x72 v0 v3 v4 v5 v6 v7 v8 v13 v16:Value} {h:Hp} {j:Nat -> Value}
theorem zu0 (f3 f4:σ -> Value) (I:σ -> Hp -> Prop) (μ:σ -> Nat) (s0:σ) (e3:v3=f3 s0) (e4:v4=f4 s0) (h0:h.wf -> ∃ h',h.wk h'∧I s0 h')
 (round:∀ (k1:Env -> Hp -> Prop) (s:σ) (j:Nat -> Value) (h:Hp),I s h -> h.wf -> (∀ s' j' h',μ s'<μ s -> (h'.wf -> ∃ h'',h'.wk h''∧I s' h'') -> k1 (zen x0 x1 x2 x64 x65 x66 x67 x68 x69 x70 x71 x72 (f3 s') (f4 s') j') h') -> d10 [1,1,0,1,0,0] (zzw K E k1) (zen x0 x1 x2 x64 x65 x66 x67 x68 x69 x70 x71 x72 (f3 s) (f4 s) j) h) :
 lp (λk1=>d10 [1,1,0,1,0,0] (zzw K E k1)) (zen x0 x1 x2 x64 x65 x66 x67 x68 x69 x70 x71 x72 v3 v4 j) h:=by
 subst e3;subst e4;exact zaw _ I μ round s0 j h0
theorem zi3 (f6 f7:σ -> Value) (I:σ -> Hp -> Prop) (μ:σ -> Nat) (s0:σ) (e6:v6=f6 s0) (e7:v7=f7 s0) (h0:h.wf -> ∃ h',h.wk h'∧I s0 h')
 (round:∀ (k2:Env -> Hp -> Prop) (s:σ) (j:Nat -> Value) (h:Hp),I s h -> h.wf -> (∀ s' j' h',μ s'<μ s -> (h'.wf -> ∃ h'',h'.wk h''∧I s' h'') -> k2 (zbs x0 x1 x2 x3 x4 x5 x8 x9 x10 x11 x12 x13 x14 x15 x16 x17 x18 x19 x20 x21 x22 x23 x24 x25 x26 x60 x61 x62 x63 x64 x65 x66 x67 x68 x69 x70 x71 x72 (f6 s') (f7 s') j') h') -> d10 [1,1,0,1,0,0,1,0,0,1,1,0,1,0,0] (zzv K E k1 k2) (zbs x0 x1 x2 x3 x4 x5 x8 x9 x10 x11 x12 x13 x14 x15 x16 x17 x18 x19 x20 x21 x22 x23 x24 x25 x26 x60 x61 x62 x63 x64 x65 x66 x67 x68 x69 x70 x71 x72 (f6 s) (f7 s) j) h) :
 lp (λk2=>d10 [1,1,0,1,0,0,1,0,0,1,1,0,1,0,0] (zzv K E k1 k2)) (zbs x0 x1 x2 x3 x4 x5 x8 x9 x10 x11 x12 x13 x14 x15 x16 x17 x18 x19 x20 x21 x22 x23 x24 x25 x26 x60 x61 x62 x63 x64 x65 x66 x67 x68 x69 x70 x71 x72 v6 v7 j) h:=by
 subst e6;subst e7;exact zaw _ I μ round s0 j h0
theorem zul (f7 f8:σ -> Value) (I:σ -> Hp -> Prop) (μ:σ -> Nat) (s0:σ) (e7:v7=f7 s0) (e8:v8=f8 s0) (h0:h.wf -> ∃ h',h.wk h'∧I s0 h')
 (round:∀ (k1:Env -> Hp -> Prop) (s:σ) (j:Nat -> Value) (h:Hp),I s h -> h.wf -> (∀ s' j' h',μ s'<μ s -> (h'.wf -> ∃ h'',h'.wk h''∧I s' h'') -> k1 (zeq x0 x1 x2 x3 x4 x5 x6 x42 (f7 s') (f8 s') j') h') -> d15 [1,1,0,1,0,0] (zk7 K E k1) (zeq x0 x1 x2 x3 x4 x5 x6 x42 (f7 s) (f8 s) j) h) :
 lp (λk1=>d15 [1,1,0,1,0,0] (zk7 K E k1)) (zeq x0 x1 x2 x3 x4 x5 x6 x42 v7 v8 j) h:=by
 subst e7;subst e8;exact zaw _ I μ round s0 j h0
theorem zw5 (f7 f16:σ -> Value) (I:σ -> Hp -> Prop) (μ:σ -> Nat) (s0:σ) (e7:v7=f7 s0) (e16:v16=f16 s0) (h0:h.wf -> ∃ h',h.wk h'∧I s0 h')
 (round:∀ (k1:Env -> Hp -> Prop) (s:σ) (j:Nat -> Value) (h:Hp),I s h -> h.wf -> (∀ s' j' h',μ s'<μ s -> (h'.wf -> ∃ h'',h'.wk h''∧I s' h'') -> k1 (zel x0 x1 x2 x3 x4 x5 x6 x8 x11 x12 x13 x14 x15 x37 (f7 s') (f16 s') j') h') -> d19 [1,1,0,1,0,0] (zo5 K E k1) (zel x0 x1 x2 x3 x4 x5 x6 x8 x11 x12 x13 x14 x15 x37 (f7 s) (f16 s) j) h) :
 lp (λk1=>d19 [1,1,0,1,0,0] (zo5 K E k1)) (zel x0 x1 x2 x3 x4 x5 x6 x8 x11 x12 x13 x14 x15 x37 v7 v16 j) h:=by
 subst e7;subst e16;exact zaw _ I μ round s0 j h0
theorem zvk (f5 f6:σ -> Value) (I:σ -> Hp -> Prop) (μ:σ -> Nat) (s0:σ) (e5:v5=f5 s0) (e6:v6=f6 s0) (h0:h.wf -> ∃ h',h.wk h'∧I s0 h')
 (round:∀ (k1:Env -> Hp -> Prop) (s:σ) (j:Nat -> Value) (h:Hp),I s h -> h.wf -> (∀ s' j' h',μ s'<μ s -> (h'.wf -> ∃ h'',h'.wk h''∧I s' h'') -> k1 (zep x0 x1 x2 x3 x4 x33 (f5 s') (f6 s') j') h') -> d41 [1,1,0,1,0,0] (zka K E k1) (zep x0 x1 x2 x3 x4 x33 (f5 s) (f6 s) j) h) :
 lp (λk1=>d41 [1,1,0,1,0,0] (zka K E k1)) (zep x0 x1 x2 x3 x4 x33 v5 v6 j) h:=by
 subst e5;subst e6;exact zaw _ I μ round s0 j h0
theorem zuk (f0 f5:σ -> Value) (I:σ -> Hp -> Prop) (μ:σ -> Nat) (s0:σ) (e0:v0=f0 s0) (e5:v5=f5 s0) (h0:h.wf -> ∃ h',h.wk h'∧I s0 h')
 (round:∀ (k1:Env -> Hp -> Prop) (s:σ) (j:Nat -> Value) (h:Hp),I s h -> h.wf -> (∀ s' j' h',μ s'<μ s -> (h'.wf -> ∃ h'',h'.wk h''∧I s' h'') -> k1 (zer x1 x2 x3 x4 x6 x7 x8 x9 x10 x32 (f0 s') (f5 s') j') h') -> d53 [1,1,0,1,0,0] (zzu K E k1) (zer x1 x2 x3 x4 x6 x7 x8 x9 x10 x32 (f0 s) (f5 s) j) h) :
 lp (λk1=>d53 [1,1,0,1,0,0] (zzu K E k1)) (zer x1 x2 x3 x4 x6 x7 x8 x9 x10 x32 v0 v5 j) h:=by
 subst e0;subst e5;exact zaw _ I μ round s0 j h0
theorem zrk (f13:σ -> Value) (I:σ -> Hp -> Prop) (μ:σ -> Nat) (s0:σ) (e13:v13=f13 s0) (h0:h.wf -> ∃ h',h.wk h'∧I s0 h')
 (round:∀ (k1:Env -> Hp -> Prop) (s:σ) (j:Nat -> Value) (h:Hp),I s h -> h.wf -> (∀ s' j' h',μ s'<μ s -> (h'.wf -> ∃ h'',h'.wk h''∧I s' h'') -> k1 (zdt x0 x1 x2 x3 x4 x6 x7 x8 x9 x10 x11 x12 x33 (f13 s') j') h') -> d87 [1,1,1,0,1,0,0] (zzt K E k1) (zdt x0 x1 x2 x3 x4 x6 x7 x8 x9 x10 x11 x12 x33 (f13 s) j) h) :
 lp (λk1=>d87 [1,1,1,0,1,0,0] (zzt K E k1)) (zdt x0 x1 x2 x3 x4 x6 x7 x8 x9 x10 x11 x12 x33 v13 j) h:=by
 subst e13;exact zaw _ I μ round s0 j h0
theorem zpf (f5 f6:σ -> Value) (I:σ -> Hp -> Prop) (μ:σ -> Nat) (s0:σ) (e5:v5=f5 s0) (e6:v6=f6 s0) (h0:h.wf -> ∃ h',h.wk h'∧I s0 h')
 (round:∀ (k1:Env -> Hp -> Prop) (s:σ) (j:Nat -> Value) (h:Hp),I s h -> h.wf -> (∀ s' j' h',μ s'<μ s -> (h'.wf -> ∃ h'',h'.wk h''∧I s' h'') -> k1 (zdc x0 x1 x2 x3 x4 x8 x9 x10 x11 x12 x13 x14 x15 x36 x37 x38 x39 x40 x41 (f5 s') (f6 s') j') h') -> zo1 [1,1,1,0,1,0,0] (zls K E k1) (zdc x0 x1 x2 x3 x4 x8 x9 x10 x11 x12 x13 x14 x15 x36 x37 x38 x39 x40 x41 (f5 s) (f6 s) j) h) :
 lp (λk1=>zo1 [1,1,1,0,1,0,0] (zls K E k1)) (zdc x0 x1 x2 x3 x4 x8 x9 x10 x11 x12 x13 x14 x15 x36 x37 x38 x39 x40 x41 v5 v6 j) h:=by
 subst e5;subst e6;exact zaw _ I μ round s0 j h0
end
end Go.Proofs.YtlhlhpgjnjjhnaaGreatDoor.T
open Go Go.RowKit Go.Proofs.YtlhlhpgjnjjhnaaGreatDoor.K
set_option linter.unusedVariables false
set_option maxRecDepth 100000
namespace Go.Proofs.YtlhlhpgjnjjhnaaGreatDoor.T
section
variable (K:zae) (E:zb2) (k1 k2:Env -> Hp -> Prop) (x0 x1 x2 x3 x4 x5 x6 x7 x8 x9 x10 x11 x12 x13 x14 x15 x16 x17 x18 x19 x20 x21 x22 x23 x24 x25 x26 x27 x28 x29 x30 x31 x32 x33 x34 x35 x36 x37 x38 x39 x40 x41 x42 x43 x44 x45 x46 x47 x48 x49 x50 x51 x52 x53 x54 x55 x56 x57 x58 x59 x60 x61 x62 x63 x64 x65 x66 x67 x68 x69 x70 x71 x72 x73 x74 x75 x76 x77 x78 x79 x80 x81 x82 x83 v0 v3 v5 v6 v7 v8 v10 v30 v57:Value) (j:Nat -> Value)
abbrev ykb:QD:=za7 Tryz.prog Tryz.f103.results.toList K E
abbrev zxq (p:List Nat):QD -> Env -> Hp -> Prop:=den Tryz.prog (sel (za3 Tryz.f103) p)
abbrev zux:=za8 k1 (blk 0 (za8 (zxq [1,1,1] (ykb K E)) (ykb K E)))
def zdx (j:Nat -> Value):Env:=#[x0,x1,x2,v3,x4,(j 5),x6,x7,v8,(j 9),(j 10),(j 11),(j 12),(j 13),(j 14),(j 15),(j 16),(j 17),(j 18),(j 19),(j 20),(j 21),x22]
theorem ymv:zxq [] (ykb K E) #[x0,U,U,U,U,U,U,U,U,U,U,U,U,U,U,U,U,U,U,U,U,U,U] =
 pv (zac x0) λt1=>
 lp (λk1=>zxq [1,1,0,1,0,0] (zux K E k1)) (zdx x0 U (.slice none 0 0) U x0 t1 U (.slice none 0 0) (.int .i64 0) (jf #[])):=by kernel_rfl
theorem zsa:zxq [1,1,0,1,0,0] (zux K E k1) (zdx x0 x1 x2 x4 x6 x7 x22 v3 v8 j) =
 pv (za1 .none .lss v8 x7) λt1=>
 cnd t1 (
  pv (iaV none 2 x6 v8) λt2=>
  ld true 2 t2 λt3=>
  nw 110 [(.slice none 0 0),(.int .i64 0)] λt4=>
  st 2 t4 t3 λ_=>
  pv (faV 0 t4) λt5=>
  ld false 1 t5 λt6=>
  pv (faV 1 t4) λt7=>
  ld false 1 t7 λt8=>
  cF 122 #[t6] (λt9 h10=>(ldV h10 false 1 t7 t8)∧(
  pv (bdC #[(.slice none 0 0),(.int .i64 0)] [(0,1),(1,1)] #[(0,t9),(1,t8)]) λt11=>
  nws 110 1 (bsC #[(.slice none 0 0),(.int .i64 0)] 2 1 #[(0,t11)]) λt12=>
  zek 110 2 32 v3 t12 λt13=>
  pv (za1 .none .add v8 (.int .i64 1)) λt14=>
  k1 (zdx x0 x1 x2 x4 x6 x7 x22 t13 t14 (jf #[U,U,U,U,U,t4,U,U,U,t1,t2,t3,v3,t5,t6,t9,t7,t8,t11,t12,t13,t14]))) h10) E) (
  K v3):=by kernel_rfl
abbrev yuh:QD:=za7 Tryz.prog Tryz.f104.results.toList K E
abbrev yu3 (p:List Nat):QD -> Env -> Hp -> Prop:=den Tryz.prog (sel (za3 Tryz.f104) p)
theorem zse:yu3 [] (yuh K E) #[x0,x1,x2,U,U,U,U,U,U,U] =
 nw 110 (Value.cells x0).toList λt1=>
 ld false 1 x1 λt2=>
 ld true 2 t1 λt3=>
 ld false 1 x2 λt4=>
 zbq Tryz.prog t2 #[t3] (λt5 h6=>(ldV h6 false 1 x2 t4)∧(
  pv (za1 .bool .neq t5 t4) λt7=>
  K t7) h6) E:=by kernel_rfl
abbrev yuv:QD:=za7 Tryz.prog Tryz.f105.results.toList K E
abbrev yw0 (p:List Nat):QD -> Env -> Hp -> Prop:=den Tryz.prog (sel (za3 Tryz.f105) p)
theorem zsm:yw0 [] (yuv K E) #[x0,x1,x2,U,U,U,U,U,U,U,U,U,U,U,U,U,U,U,U,U,U,U,U,U,U] =
 nw 110 (Value.cells x0).toList λt1=>
 pv (faV 0 t1) λt2=>
 ld false 1 t2 λt3=>
 pv (zac t3) λt4=>
 pv (za1 .none .gtr t4 (.int .i64 0)) λt5=>
 gdK t5 true (λk=>pv (faV 0 t1) k) λt6=>
 gdK t5 true (λk=>ld false 1 t6 k) λt7=>
 gdK t5 true (λk=>pv (iaV none 1 t7 (.int .i64 0)) k) λt8=>
 gdK t5 true (λk=>ld false 1 t8 k) λt9=>
 gdK t5 true (λk=>ld false 1 x1 k) λt10=>
 gdK t5 true (λk=>pv (za1 .none .geq t9 t10) k) λt11=>
 pv (zad t5 t11 (.bool false)) λt12=>
 gdK t12 true (λk=>pv (faV 0 t1) k) λt13=>
 gdK t12 true (λk=>ld false 1 t13 k) λt14=>
 gdK t12 true (λk=>pv (iaV none 1 t14 (.int .i64 0)) k) λt15=>
 gdK t12 true (λk=>ld false 1 t15 k) λt16=>
 gdK t12 true (λk=>ld false 1 x2 k) λt17=>
 gdK t12 true (λk=>pv (za1 .none .lss t16 t17) k) λt18=>
 pv (zad t12 t18 (.bool false)) λt19=>
 K t19:=by kernel_rfl
abbrev ylk:QD:=za7 Tryz.prog Tryz.f106.results.toList K E
abbrev zwq (p:List Nat):QD -> Env -> Hp -> Prop:=den Tryz.prog (sel (za3 Tryz.f106) p)
abbrev zva:=za8 k1 (blk 0 (za8 (zwq [1,1] (ylk K E)) (ylk K E)))
def zfe (j:Nat -> Value):Env:=#[v0,x1,x2,x3,x4,x5,x6,v7,x8,x9,(j 10),(j 11),(j 12),(j 13),(j 14),(j 15),(j 16),(j 17),(j 18),(j 19),(j 20),(j 21),(j 22),x23]
theorem zhi:zwq [] (ylk K E) #[x0,x1,x2,U,U,U,U,U,U,U,U,U,U,U,U,U,U,U,U,U,U,U,U,U] =
 pv (za1 .none .sub x2 (.int .i64 1)) λt1=>
 lp (λk1=>zwq [1,0,1,0,0] (zva K E k1)) (zfe x1 x2 U U U (.slice none 0 0) x2 t1 U x0 t1 (jf #[])):=by kernel_rfl
theorem zxy:zwq [1,0,1,0,0] (zva K E k1) (zfe x1 x2 x3 x4 x5 x6 x8 x9 x23 v0 v7 j) =
 pv (za1 .none .geq v7 (.int .i64 0)) λt1=>
 cnd t1 (
  pv (cvV .u64 v7) λt2=>
  pv (za1 .none .mul (.int .u64 8) t2) λt3=>
  pv (za1 .none .shr x1 t3) λt4=>
  pv (cvV .u8 t4) λt5=>
  nws 5 1 (bsC #[(.int .u8 0)] 1 1 #[(0,t5)]) λt6=>
  zek 5 1 1 v0 t6 λt7=>
  pv (za1 .none .sub v7 (.int .i64 1)) λt8=>
  k1 (zfe x1 x2 x3 x4 x5 x6 x8 x9 x23 t7 t8 (jf #[U,U,U,U,U,U,U,U,U,U,v7,t1,v7,t8,v0,x1,v7,t2,t3,t4,t5,t6,t7]))) (
  K v0):=by kernel_rfl
abbrev zlg:QD:=za7 Tryz.prog Tryz.f107.results.toList K E
abbrev zhm (p:List Nat):QD -> Env -> Hp -> Prop:=den Tryz.prog (sel (za3 Tryz.f107) p)
abbrev zuf:=za8 k2 (blk 2 (za8 (zhm [1,1,0,1,0,0,1,0,0,1,1] (blk 1 (za8 (zhm [1,1,0,1,0,0,1,1] (za8 k1 (blk 0 (za8 (zhm [1,1,1] (zlg K E)) (zlg K E))))) (za8 k1 (blk 0 (za8 (zhm [1,1,1] (zlg K E)) (zlg K E))))))) (blk 1 (za8 (zhm [1,1,0,1,0,0,1,1] (za8 k1 (blk 0 (za8 (zhm [1,1,1] (zlg K E)) (zlg K E))))) (za8 k1 (blk 0 (za8 (zhm [1,1,1] (zlg K E)) (zlg K E))))))))
abbrev zwa:=za8 k1 (blk 0 (za8 (zhm [1,1,1] (zlg K E)) (zlg K E)))
def ze0 (j:Nat -> Value):Env:=#[v0,x1,x2,x3,x4,v5,(j 6),x7,x8,x9,x10,x11,(j 12),(j 13),(j 14),(j 15),(j 16),(j 17),(j 18),(j 19),(j 20),(j 21),(j 22),(j 23),(j 24),(j 25),(j 26),(j 27),(j 28),(j 29),(j 30),(j 31),(j 32),(j 33),(j 34),(j 35),(j 36),(j 37),(j 38),(j 39),(j 40),(j 41),(j 42),(j 43),(j 44),(j 45),(j 46),(j 47),(j 48),(j 49),(j 50),(j 51),(j 52),(j 53),(j 54),(j 55),x56]
def zbu (j:Nat -> Value):Env:=#[v0,x1,x2,x3,x4,x5,v6,x7,x8,x9,x10,x11,x12,x13,x14,x15,x16,x17,x18,x19,x20,x21,x22,x23,x24,x25,x26,(j 27),(j 28),(j 29),(j 30),(j 31),(j 32),(j 33),(j 34),(j 35),(j 36),(j 37),(j 38),(j 39),(j 40),(j 41),(j 42),(j 43),(j 44),(j 45),(j 46),(j 47),x48,x49,x50,x51,x52,x53,x54,x55,x56]
theorem zsy:zhm [] (zlg K E) #[x0,x1,U,U,U,U,U,U,U,U,U,U,U,U,U,U,U,U,U,U,U,U,U,U,U,U,U,U,U,U,U,U,U,U,U,U,U,U,U,U,U,U,U,U,U,U,U,U,U,U,U,U,U,U,U,U,U] =
 pv (zac x1) λt1=>
 pv (cvV .u64 t1) λt2=>
 cF 106 #[x0,t2,(.int .i64 4)] (λt3=>
 lp (λk1=>zhm [1,1,0,1,0,0] (zwa K E k1)) (ze0 x1 U U (.slice none 0 0) x0 x1 t1 t2 t3 U t3 (.int .i64 0) (jf #[]))) E:=by kernel_rfl
theorem zs8:zhm [1,1,0,1,0,0] (zwa K E k1) (ze0 x1 x2 x3 x4 x7 x8 x9 x10 x11 x56 v0 v5 j) =
 pv (zac x1) λt1=>
 pv (za1 .none .lss v5 t1) λt2=>
 cnd t2 (
  pv (iaV none 2 x1 v5) λt3=>
  pv (faV 0 t3) λt4=>
  ld false 1 t4 λt5=>
  pv (zac t5) λt6=>
  pv (cvV .u64 t6) λt7=>
  cF 106 #[v0,t7,(.int .i64 1)] (λt8=>
  lp (λk2=>zhm [1,1,0,1,0,0,1,0,0,1,0,1,0,0] (zuf K E k1 k2)) (zbu x1 x2 x3 x4 v5 x7 x8 x9 x10 x11 v5 x1 t1 t2 (j 16) (j 17) v0 x1 v5 t3 t4 t5 t6 t7 t8 (j 48) (j 49) (j 50) (j 51) (j 52) (j 53) (j 54) (j 55) x56 t8 (.int .i64 0) (jf #[U,U,U,U,U,U,U,U,U,U,U,U,U,U,U,U,U,U,U,U,U,U,U,U,U,U,U,(j 27),(j 28),(j 29),(j 30),(j 31),(j 32),(j 33),(j 34),(j 35),(j 36),(j 37),(j 38),(j 39),(j 40),(j 41),(j 42),(j 43),(j 44),(j 45),(j 46),(j 47)]))) E) (
  K v0):=by kernel_rfl
theorem zit:zhm [1,1,0,1,0,0,1,0,0,1,0,1,0,0] (zuf K E k1 k2) (zbu x1 x2 x3 x4 x5 x7 x8 x9 x10 x11 x12 x13 x14 x15 x16 x17 x18 x19 x20 x21 x22 x23 x24 x25 x26 x48 x49 x50 x51 x52 x53 x54 x55 x56 v0 v6 j) =
 pv (iaV none 2 x1 x5) λt1=>
 pv (faV 0 t1) λt2=>
 ld false 1 t2 λt3=>
 pv (zac t3) λt4=>
 pv (za1 .none .lss v6 t4) λt5=>
 cnd t5 (
  pv (iaV none 2 x1 x5) λt6=>
  pv (faV 0 t6) λt7=>
  ld false 1 t7 λt8=>
  pv (iaV none 1 t8 v6) λt9=>
  ld false 1 t9 λt10=>
  pv (cvV .u64 t10) λt11=>
  cF 106 #[v0,t11,(.int .i64 4)] (λt12=>
  pv (za1 .none .add v6 (.int .i64 1)) λt13=>
  k2 (zbu x1 x2 x3 x4 x5 x7 x8 x9 x10 x11 x12 x13 x14 x15 x16 x17 x18 x19 x20 x21 x22 x23 x24 x25 x26 x48 x49 x50 x51 x52 x53 x54 x55 x56 t12 t13 (jf #[U,U,U,U,U,U,U,U,U,U,U,U,U,U,U,U,U,U,U,U,U,U,U,U,U,U,U,v6,x1,x5,t1,t2,t3,t4,t5,v6,t13,v0,x1,x5,t6,t7,t8,v6,t9,t10,t11,t12]))) E) (
  pv (iaV none 2 x1 x5) λt14=>
  pv (faV 1 t14) λt15=>
  ld false 1 t15 λt16=>
  pv (cvV .u64 t16) λt17=>
  cF 106 #[v0,t17,(.int .i64 8)] (λt18=>
  pv (za1 .none .add x5 (.int .i64 1)) λt19=>
  k1 (ze0 x1 x2 x3 x4 x7 x8 x9 x10 x11 x56 t18 t19 (jf #[U,U,U,U,U,U,v6,U,U,U,U,U,x12,x13,x14,x15,x5,t19,x18,x19,x20,x21,x22,x23,x24,x25,x26,v6,x1,x5,t1,t2,t3,t4,t5,(j 35),(j 36),(j 37),(j 38),(j 39),(j 40),(j 41),(j 42),(j 43),(j 44),(j 45),(j 46),(j 47),v0,x1,x5,t14,t15,t16,t17,t18]))) E):=by kernel_rfl
abbrev qdl:QD:=za7 Tryz.prog Tryz.f119.results.toList K E
abbrev qbj (p:List Nat):QD -> Env -> Hp -> Prop:=den Tryz.prog (sel (za3 Tryz.f119) p)
abbrev qc0:QD:=za7 Tryz.prog Tryz.f120.results.toList K E
abbrev qan (p:List Nat):QD -> Env -> Hp -> Prop:=den Tryz.prog (sel (za3 Tryz.f120) p)
abbrev yvp:QD:=za7 Tryz.prog Tryz.f122.results.toList K E
abbrev yvs (p:List Nat):QD -> Env -> Hp -> Prop:=den Tryz.prog (sel (za3 Tryz.f122) p)
theorem yqk:yvs [] (yvp K E) #[x0,U,U,U,U,U,U,U] =
 pv (za1 .slc .eql x0 (.slice none 0 0)) λt1=>
 cnd t1 (
  K (.slice none 0 0)) (
  nws 3 0 (bsC #[(.int .i64 0)] 1 0 #[]) λt2=>
  zek 3 1 8 t2 x0 λt3=>
  K t3):=by kernel_rfl
abbrev qdx:QD:=za7 Tryz.prog Tryz.f124.results.toList K E
abbrev qc2 (p:List Nat):QD -> Env -> Hp -> Prop:=den Tryz.prog (sel (za3 Tryz.f124) p)
abbrev qal:QD:=za7 Tryz.prog Tryz.f125.results.toList K E
abbrev qb7 (p:List Nat):QD -> Env -> Hp -> Prop:=den Tryz.prog (sel (za3 Tryz.f125) p)
abbrev yti:QD:=za7 Tryz.prog Tryz.f129.results.toList K E
abbrev yyb (p:List Nat):QD -> Env -> Hp -> Prop:=den Tryz.prog (sel (za3 Tryz.f129) p)
theorem yy4:yyb [] (yti K E) #[x0,U,U,U,U,U,U,U,U,U,U,U,U,U,U,U] =
 pv (zac x0) λt1=>
 pv (za1 .none .gtr t1 (.int .i64 0)) λt2=>
 gdK t2 true (λk=>k x0) λt3=>
 gdK t2 true (λk=>pv (zac t3) k) λt4=>
 gdK t2 true (λk=>pv (za1 .none .leq t4 (.int .i64 4)) k) λt5=>
 pv (zad t2 t5 (.bool false)) λt6=>
 gdK t6 true (λk=>k x0) λt7=>
 gdK t6 true (λk=>cF 180 #[t7,(.func (.func 181) #[] #[])] k E) λt8=>
 gdK t6 true (λk=>pv (unV .not t8) k) λt9=>
 pv (zad t6 t9 (.bool false)) λt10=>
 K t10:=by kernel_rfl
abbrev zsc:QD:=za7 Tryz.prog Tryz.f135.results.toList K E
abbrev zss (p:List Nat):QD -> Env -> Hp -> Prop:=den Tryz.prog (sel (za3 Tryz.f135) p)
theorem yu5:zss [] (zsc K E) #[x0,x1,x2,U,U,U,U,U,U,U,U,U,U,U,U,U,U,U,U,U,U,U,U,U,U,U,U,U,U,U,U,U,U,U,U,U,U,U,U,U,U,U,U,U] =
 pv (zai x0) λt1=>
 pv (faV 0 t1) λt2=>
 ld false 1 t2 λt3=>
 cF 166 #[t3,x1] (λt4=>
 pv (exV 0 t4) λt5=>
 pv (exV 1 t4) λt6=>
 cF 98 #[x0,x2] (λt7=>
 pv (unV .not t7) λt8=>
 cnd t8 (
  K (.int .u16 1)) (
  pv (za1 .none .eql x1 (.int .u32 0)) λt9=>
  cnd t9 (
  zss [1,1,0,0,1,1,1] (blk 0 (za8 (zss [1,1,1] (zsc K E)) (zsc K E))) #[x0,x1,x2,U,U,U,(.int .u16 0),t5,t6,t4,x0,t1,t2,t3,x1,t4,t5,t6,t8,x0,x2,t7,t8,t9,x1,t9,U,U,U,U,U,U,U,U,U,U,U,U,U,U,U,U,U,U]) (
  zss [1,1,0,0,1,1,1] (blk 0 (za8 (zss [1,1,1] (zsc K E)) (zsc K E))) #[x0,x1,x2,U,U,U,(.int .u16 0),t5,t6,t4,x0,t1,t2,t3,x1,t4,t5,t6,t8,x0,x2,t7,t8,t6,x1,t9,t6,U,U,U,U,U,U,U,U,U,U,U,U,U,U,U,U,U]))) E) E:=by kernel_rfl
theorem zkk:zss [1,1,0,0,1,1,1] (blk 0 (za8 (zss [1,1,1] (zsc K E)) (zsc K E))) #[x0,x1,x2,x3,x4,x5,x6,x7,x8,x9,x10,x11,x12,x13,x14,x15,x16,x17,x18,x19,x20,x21,x22,x23,x24,x25,x26,x27,x28,x29,x30,x31,x32,x33,x34,x35,x36,x37,x38,x39,x40,x41,x42,x43] =
 cnd x23 (
  K (.int .u16 130)) (
  pv (zai x0) λt1=>
  pv (faV 0 t1) λt2=>
  ld false 1 t2 λt3=>
  pv (zac t3) λt4=>
  pv (za1 .none .geq t4 (.int .i64 5000)) λt5=>
  cnd t5 (
  K (.int .u16 3)) (
  pv (zai x0) λt6=>
  pv (faV 0 t6) λt7=>
  ld false 1 t7 λt8=>
  cF 186 #[t8,x1,x2] (λt9=>
  pv (zai x0) λt10=>
  pv (faV 0 t10) λt11=>
  st 1 t11 t9 λ_=>
  K (.int .u16 0)) E)):=by kernel_rfl
abbrev yce:QD:=za7 Tryz.prog Tryz.f136.results.toList K E
abbrev zh5 (p:List Nat):QD -> Env -> Hp -> Prop:=den Tryz.prog (sel (za3 Tryz.f136) p)
abbrev zm2:=za8 k1 (blk 2 (za8 (zh5 [1,1,1,1,1,1] (yce K E)) (yce K E)))
abbrev zlw:=za8 k1 (blk 0 (za8 (zh5 [1,1,1,1,1] (yce K E)) (yce K E)))
def zcu (j:Nat -> Value):Env:=#[x0,x1,x2,x3,x4,x5,x6,x7,x8,x9,v10,x11,(j 12),(j 13),x14,x15,x16,x17,x18,x19,x20,x21,x22,x23,x24,x25,x26,x27,x28,x29,v30,(j 31),(j 32),(j 33),(j 34),(j 35),(j 36),(j 37),(j 38),(j 39),(j 40),(j 41),(j 42),(j 43),(j 44),(j 45),(j 46),(j 47),(j 48),(j 49),(j 50),(j 51),(j 52),(j 53),(j 54),x55,x56,x57,x58,x59,x60,x61,x62,x63,x64,x65,x66,x67,x68,x69,x70,x71,x72,x73,x74,x75,x76,x77,x78,x79,x80,x81,x82,x83]
def zci (j:Nat -> Value):Env:=#[x0,x1,x2,x3,x4,x5,x6,x7,x8,x9,v10,x11,x12,x13,x14,(j 15),x16,x17,x18,x19,x20,x21,x22,x23,x24,x25,x26,x27,x28,x29,x30,x31,x32,x33,x34,x35,x36,x37,x38,x39,x40,x41,x42,x43,x44,x45,x46,x47,x48,x49,x50,x51,x52,x53,x54,x55,x56,v57,(j 58),(j 59),(j 60),(j 61),(j 62),(j 63),(j 64),(j 65),(j 66),(j 67),(j 68),(j 69),(j 70),(j 71),x72,x73,x74,x75,x76,x77,x78,x79,x80,x81,x82,x83]
theorem yyq:zh5 [] (yce K E) #[x0,x1,x2,x3,U,U,U,U,U,U,U,U,U,U,U,U,U,U,U,U,U,U,U,U,U,U,U,U,U,U,U,U,U,U,U,U,U,U,U,U,U,U,U,U,U,U,U,U,U,U,U,U,U,U,U,U,U,U,U,U,U,U,U,U,U,U,U,U,U,U,U,U,U,U,U,U,U,U,U,U,U,U,U,U] =
 cF 52 #[x1,x2] (λt1=>
 cF 187 #[x0,t1,x3] (λt2=>
 pv (unV .not t2) λt3=>
 cnd t3 (
  K (.int .u16 1)) (
  pv (zai x0) λt4=>
  pv (faV 0 t4) λt5=>
  ld false 1 t5 λt6=>
  pv (zac t6) λt7=>
  lp (λk1=>zh5 [1,1,1,1,0,1,0,0] (zlw K E k1)) (zcu x0 x1 x2 x3 U U U U (.int .u16 0) t1 U U U U x1 x2 t1 x0 t1 x3 t2 t3 x0 t4 t5 t6 t7 U U U U U U U U U U U U U U U U U U U U U U U U U U U U U (.slice none 0 0) (.int .i64 0) (jf #[])))) E) E:=by kernel_rfl
theorem zp4:zh5 [1,1,1,1,0,1,0,0] (zlw K E k1) (zcu x0 x1 x2 x3 x4 x5 x6 x7 x8 x9 x11 x14 x15 x16 x17 x18 x19 x20 x21 x22 x23 x24 x25 x26 x27 x28 x29 x55 x56 x57 x58 x59 x60 x61 x62 x63 x64 x65 x66 x67 x68 x69 x70 x71 x72 x73 x74 x75 x76 x77 x78 x79 x80 x81 x82 x83 v10 v30 j) =
 pv (za1 .none .lss v30 x29) λt1=>
 cnd t1 (
  pv (iaV none 2 x28 v30) λt2=>
  ld true 2 t2 λt3=>
  nw 143 [(.int .u32 0),(.slice none 0 0)] λt4=>
  st 2 t4 t3 λ_=>
  pv (faV 1 t4) λt5=>
  ld false 1 t5 λt6=>
  cF 51 #[t6,x9,(.bool false)] (λt7=>
  pv (zac t7) λt8=>
  pv (za1 .none .gtr t8 (.int .i64 0)) λt9=>
  gdK t9 false (λk=>pv (faV 1 t4) k) λt10=>
  gdK t9 false (λk=>ld false 1 t10 k) λt11=>
  gdK t9 false (λk=>pv (zac t11) k) λt12=>
  gdK t9 false (λk=>pv (za1 .none .eql t12 (.int .i64 0)) k) λt13=>
  pv (zad t9 (.bool true) t13) λt14=>
  cnd t14 (
  pv (faV 0 t4) λt15=>
  ld false 1 t15 λt16=>
  pv (bdC #[(.int .u32 0),(.slice none 0 0)] [(0,1),(1,1)] #[(0,t16),(1,t7)]) λt17=>
  nws 143 1 (bsC #[(.int .u32 0),(.slice none 0 0)] 2 1 #[(0,t17)]) λt18=>
  zek 143 2 32 v10 t18 λt19=>
  zh5 [1,1,1,1,0,1,0,0,1,1,1] (zlw K E k1) #[x0,x1,x2,x3,x4,x5,x6,x7,x8,x9,t19,x11,t4,t7,x14,x15,x16,x17,x18,x19,x20,x21,x22,x23,x24,x25,x26,x27,x28,x29,v30,t1,t2,t3,t5,t6,x9,t7,t7,t8,t9,t9,t10,t11,t12,t13,t14,v10,t15,t16,t7,t17,t18,t19,(j 54),x55,x56,x57,x58,x59,x60,x61,x62,x63,x64,x65,x66,x67,x68,x69,x70,x71,x72,x73,x74,x75,x76,x77,x78,x79,x80,x81,x82,x83]) (
  zh5 [1,1,1,1,0,1,0,0,1,1,1] (zlw K E k1) #[x0,x1,x2,x3,x4,x5,x6,x7,x8,x9,v10,x11,t4,t7,x14,x15,x16,x17,x18,x19,x20,x21,x22,x23,x24,x25,x26,x27,x28,x29,v30,t1,t2,t3,t5,t6,x9,t7,t7,t8,t9,t9,t10,t11,t12,t13,t14,(j 47),(j 48),(j 49),(j 50),(j 51),(j 52),(j 53),(j 54),x55,x56,x57,x58,x59,x60,x61,x62,x63,x64,x65,x66,x67,x68,x69,x70,x71,x72,x73,x74,x75,x76,x77,x78,x79,x80,x81,x82,x83])) E) (
  pv (zac x3) λt20=>
  lp (λk1=>zh5 [1,1,1,1,1,0,1,0,0] (zm2 K E k1)) (zci x0 x1 x2 x3 x4 x5 x6 x7 x8 x9 x11 (j 12) (j 13) x14 x16 x17 x18 x19 x20 x21 x22 x23 x24 x25 x26 x27 x28 x29 v30 t1 (j 32) (j 33) (j 34) (j 35) (j 36) (j 37) (j 38) (j 39) (j 40) (j 41) (j 42) (j 43) (j 44) (j 45) (j 46) (j 47) (j 48) (j 49) (j 50) (j 51) (j 52) (j 53) (j 54) x3 t20 x72 x73 x74 x75 x76 x77 x78 x79 x80 x81 x82 x83 v10 (.int .i64 0) (jf #[U,U,U,U,U,U,U,U,U,U,U,U,U,U,U,x15,U,U,U,U,U,U,U,U,U,U,U,U,U,U,U,U,U,U,U,U,U,U,U,U,U,U,U,U,U,U,U,U,U,U,U,U,U,U,U,U,U,U,x58,x59,x60,x61,x62,x63,x64,x65,x66,x67,x68,x69,x70,x71]))):=by kernel_rfl
theorem zgu:zh5 [1,1,1,1,0,1,0,0,1,1,1] (zlw K E k1) #[x0,x1,x2,x3,x4,x5,x6,x7,x8,x9,x10,x11,x12,x13,x14,x15,x16,x17,x18,x19,x20,x21,x22,x23,x24,x25,x26,x27,x28,x29,x30,x31,x32,x33,x34,x35,x36,x37,x38,x39,x40,x41,x42,x43,x44,x45,x46,x47,x48,x49,x50,x51,x52,x53,x54,x55,x56,x57,x58,x59,x60,x61,x62,x63,x64,x65,x66,x67,x68,x69,x70,x71,x72,x73,x74,x75,x76,x77,x78,x79,x80,x81,x82,x83] =
 pv (za1 .none .add x30 (.int .i64 1)) λt1=>
 k1 (zcu x0 x1 x2 x3 x4 x5 x6 x7 x8 x9 x11 x14 x15 x16 x17 x18 x19 x20 x21 x22 x23 x24 x25 x26 x27 x28 x29 x55 x56 x57 x58 x59 x60 x61 x62 x63 x64 x65 x66 x67 x68 x69 x70 x71 x72 x73 x74 x75 x76 x77 x78 x79 x80 x81 x82 x83 x10 t1 (jf #[U,U,U,U,U,U,U,U,U,U,U,U,x12,x13,U,U,U,U,U,U,U,U,U,U,U,U,U,U,U,U,U,x31,x32,x33,x34,x35,x36,x37,x38,x39,x40,x41,x42,x43,x44,x45,x46,x47,x48,x49,x50,x51,x52,x53,t1])):=by kernel_rfl
theorem zms:zh5 [1,1,1,1,1,0,1,0,0] (zm2 K E k1) (zci x0 x1 x2 x3 x4 x5 x6 x7 x8 x9 x11 x12 x13 x14 x16 x17 x18 x19 x20 x21 x22 x23 x24 x25 x26 x27 x28 x29 x30 x31 x32 x33 x34 x35 x36 x37 x38 x39 x40 x41 x42 x43 x44 x45 x46 x47 x48 x49 x50 x51 x52 x53 x54 x55 x56 x72 x73 x74 x75 x76 x77 x78 x79 x80 x81 x82 x83 v10 v57 j) =
 pv (za1 .none .lss v57 x56) λt1=>
 cnd t1 (
  pv (iaV none 2 x55 v57) λt2=>
  ld true 2 t2 λt3=>
  nw 143 [(.int .u32 0),(.slice none 0 0)] λt4=>
  st 2 t4 t3 λ_=>
  pv (faV 1 t4) λt5=>
  ld false 1 t5 λt6=>
  pv (zac t6) λt7=>
  pv (za1 .none .gtr t7 (.int .i64 0)) λt8=>
  cnd t8 (
  pv (faV 0 t4) λt9=>
  ld false 1 t9 λt10=>
  pv (faV 1 t4) λt11=>
  ld false 1 t11 λt12=>
  cF 186 #[v10,t10,t12] (λt13=>
  zh5 [1,1,1,1,1,0,1,0,0,1,1,1] (zm2 K E k1) #[x0,x1,x2,x3,x4,x5,x6,x7,x8,x9,t13,x11,x12,x13,x14,t4,x16,x17,x18,x19,x20,x21,x22,x23,x24,x25,x26,x27,x28,x29,x30,x31,x32,x33,x34,x35,x36,x37,x38,x39,x40,x41,x42,x43,x44,x45,x46,x47,x48,x49,x50,x51,x52,x53,x54,x55,x56,v57,t1,t2,t3,t5,t6,t7,t8,v10,t9,t10,t11,t12,t13,(j 71),x72,x73,x74,x75,x76,x77,x78,x79,x80,x81,x82,x83]) E) (
  zh5 [1,1,1,1,1,0,1,0,0,1,1,1] (zm2 K E k1) #[x0,x1,x2,x3,x4,x5,x6,x7,x8,x9,v10,x11,x12,x13,x14,t4,x16,x17,x18,x19,x20,x21,x22,x23,x24,x25,x26,x27,x28,x29,x30,x31,x32,x33,x34,x35,x36,x37,x38,x39,x40,x41,x42,x43,x44,x45,x46,x47,x48,x49,x50,x51,x52,x53,x54,x55,x56,v57,t1,t2,t3,t5,t6,t7,t8,(j 65),(j 66),(j 67),(j 68),(j 69),(j 70),(j 71),x72,x73,x74,x75,x76,x77,x78,x79,x80,x81,x82,x83])) (
  pv (zac v10) λt14=>
  pv (za1 .none .gtr t14 (.int .i64 5000)) λt15=>
  gdK t15 false (λk=>k v10) λt16=>
  gdK t15 false (λk=>k (.func (.func 188) #[] #[])) λt17=>
  gdK t15 false (λk=>cF 189 #[t16,t17] k E) λt18=>
  pv (zad t15 (.bool true) t18) λt19=>
  cnd t19 (
  K (.int .u16 3)) (
  pv (zai x0) λt20=>
  pv (faV 0 t20) λt21=>
  st 1 t21 v10 λ_=>
  K (.int .u16 0))):=by kernel_rfl
theorem zgd:zh5 [1,1,1,1,1,0,1,0,0,1,1,1] (zm2 K E k1) #[x0,x1,x2,x3,x4,x5,x6,x7,x8,x9,x10,x11,x12,x13,x14,x15,x16,x17,x18,x19,x20,x21,x22,x23,x24,x25,x26,x27,x28,x29,x30,x31,x32,x33,x34,x35,x36,x37,x38,x39,x40,x41,x42,x43,x44,x45,x46,x47,x48,x49,x50,x51,x52,x53,x54,x55,x56,x57,x58,x59,x60,x61,x62,x63,x64,x65,x66,x67,x68,x69,x70,x71,x72,x73,x74,x75,x76,x77,x78,x79,x80,x81,x82,x83] =
 pv (za1 .none .add x57 (.int .i64 1)) λt1=>
 k1 (zci x0 x1 x2 x3 x4 x5 x6 x7 x8 x9 x11 x12 x13 x14 x16 x17 x18 x19 x20 x21 x22 x23 x24 x25 x26 x27 x28 x29 x30 x31 x32 x33 x34 x35 x36 x37 x38 x39 x40 x41 x42 x43 x44 x45 x46 x47 x48 x49 x50 x51 x52 x53 x54 x55 x56 x72 x73 x74 x75 x76 x77 x78 x79 x80 x81 x82 x83 x10 t1 (jf #[U,U,U,U,U,U,U,U,U,U,U,U,U,U,U,x15,U,U,U,U,U,U,U,U,U,U,U,U,U,U,U,U,U,U,U,U,U,U,U,U,U,U,U,U,U,U,U,U,U,U,U,U,U,U,U,U,U,U,x58,x59,x60,x61,x62,x63,x64,x65,x66,x67,x68,x69,x70,t1])):=by kernel_rfl
abbrev yu0:QD:=za7 Tryz.prog Tryz.f142.results.toList K E
abbrev yxp (p:List Nat):QD -> Env -> Hp -> Prop:=den Tryz.prog (sel (za3 Tryz.f142) p)
theorem yro:yxp [] (yu0 K E) #[x0,x1,U,U,U,U,U,U,U] =
 cF 152 #[x0,x1] (λt1=>
 pv (za1 .none .geq t1 (.int .i64 0)) λt2=>
 K t2) E:=by kernel_rfl
abbrev ywy:QD:=za7 Tryz.prog Tryz.f143.results.toList K E
abbrev yw9 (p:List Nat):QD -> Env -> Hp -> Prop:=den Tryz.prog (sel (za3 Tryz.f143) p)
theorem yug:yw9 [] (ywy K E) #[x0,x1,U,U,U,U,U,U,U,U,U,U] =
 nw 110 (Value.cells x0).toList λt1=>
 ld false 1 x1 λt2=>
 pv (zai t2) λt3=>
 pv (faV 1 t3) λt4=>
 ld false 1 t4 λt5=>
 pv (faV 0 t1) λt6=>
 ld false 1 t6 λt7=>
 cF 144 #[t5,t7] (λt8=>
 pv (unV .not t8) λt9=>
 K t9) E:=by kernel_rfl
abbrev yy2:QD:=za7 Tryz.prog Tryz.f144.results.toList K E
abbrev yv5 (p:List Nat):QD -> Env -> Hp -> Prop:=den Tryz.prog (sel (za3 Tryz.f144) p)
theorem yuf:yv5 [] (yy2 K E) #[x0,x1,U,U,U,U,U,U] =
 cF 201 #[x0,x1,(.func (.func 202) #[] #[])] (λt1=>
 K t1) E:=by kernel_rfl
end
section
variable {K:zae} {E:zb2} {k1 k2:Env -> Hp -> Prop} {σ:Type} {x0 x1 x2 x3 x4 x5 x6 x7 x8 x9 x10 x11 x12 x13 x14 x15 x16 x17 x18 x19 x20 x21 x22 x23 x24 x25 x26 x27 x28 x29 x30 x31 x32 x33 x34 x35 x36 x37 x38 x39 x40 x41 x42 x43 x44 x45 x46 x47 x48 x49 x50 x51 x52 x53 x54 x55 x56 x57 x58 x59 x60 x61 x62 x63 x64 x65 x66 x67 x68 x69 x70 x71 x72 x73 x74 x75 x76 x77 x78 x79 x80 x81 x82 x83 v0 v3 v5 v6 v7 v8 v10 v30 v57:Value} {h:Hp} {j:Nat -> Value}
theorem zso (f3 f8:σ -> Value) (I:σ -> Hp -> Prop) (μ:σ -> Nat) (s0:σ) (e3:v3=f3 s0) (e8:v8=f8 s0) (h0:h.wf -> ∃ h',h.wk h'∧I s0 h')
 (round:∀ (k1:Env -> Hp -> Prop) (s:σ) (j:Nat -> Value) (h:Hp),I s h -> h.wf -> (∀ s' j' h',μ s'<μ s -> (h'.wf -> ∃ h'',h'.wk h''∧I s' h'') -> k1 (zdx x0 x1 x2 x4 x6 x7 x22 (f3 s') (f8 s') j') h') -> zxq [1,1,0,1,0,0] (zux K E k1) (zdx x0 x1 x2 x4 x6 x7 x22 (f3 s) (f8 s) j) h) :
 lp (λk1=>zxq [1,1,0,1,0,0] (zux K E k1)) (zdx x0 x1 x2 x4 x6 x7 x22 v3 v8 j) h:=by
 subst e3;subst e8;exact zaw _ I μ round s0 j h0
theorem zy5 (f0 f7:σ -> Value) (I:σ -> Hp -> Prop) (μ:σ -> Nat) (s0:σ) (e0:v0=f0 s0) (e7:v7=f7 s0) (h0:h.wf -> ∃ h',h.wk h'∧I s0 h')
 (round:∀ (k1:Env -> Hp -> Prop) (s:σ) (j:Nat -> Value) (h:Hp),I s h -> h.wf -> (∀ s' j' h',μ s'<μ s -> (h'.wf -> ∃ h'',h'.wk h''∧I s' h'') -> k1 (zfe x1 x2 x3 x4 x5 x6 x8 x9 x23 (f0 s') (f7 s') j') h') -> zwq [1,0,1,0,0] (zva K E k1) (zfe x1 x2 x3 x4 x5 x6 x8 x9 x23 (f0 s) (f7 s) j) h) :
 lp (λk1=>zwq [1,0,1,0,0] (zva K E k1)) (zfe x1 x2 x3 x4 x5 x6 x8 x9 x23 v0 v7 j) h:=by
 subst e0;subst e7;exact zaw _ I μ round s0 j h0
theorem zti (f0 f5:σ -> Value) (I:σ -> Hp -> Prop) (μ:σ -> Nat) (s0:σ) (e0:v0=f0 s0) (e5:v5=f5 s0) (h0:h.wf -> ∃ h',h.wk h'∧I s0 h')
 (round:∀ (k1:Env -> Hp -> Prop) (s:σ) (j:Nat -> Value) (h:Hp),I s h -> h.wf -> (∀ s' j' h',μ s'<μ s -> (h'.wf -> ∃ h'',h'.wk h''∧I s' h'') -> k1 (ze0 x1 x2 x3 x4 x7 x8 x9 x10 x11 x56 (f0 s') (f5 s') j') h') -> zhm [1,1,0,1,0,0] (zwa K E k1) (ze0 x1 x2 x3 x4 x7 x8 x9 x10 x11 x56 (f0 s) (f5 s) j) h) :
 lp (λk1=>zhm [1,1,0,1,0,0] (zwa K E k1)) (ze0 x1 x2 x3 x4 x7 x8 x9 x10 x11 x56 v0 v5 j) h:=by
 subst e0;subst e5;exact zaw _ I μ round s0 j h0
theorem zis (f0 f6:σ -> Value) (I:σ -> Hp -> Prop) (μ:σ -> Nat) (s0:σ) (e0:v0=f0 s0) (e6:v6=f6 s0) (h0:h.wf -> ∃ h',h.wk h'∧I s0 h')
 (round:∀ (k2:Env -> Hp -> Prop) (s:σ) (j:Nat -> Value) (h:Hp),I s h -> h.wf -> (∀ s' j' h',μ s'<μ s -> (h'.wf -> ∃ h'',h'.wk h''∧I s' h'') -> k2 (zbu x1 x2 x3 x4 x5 x7 x8 x9 x10 x11 x12 x13 x14 x15 x16 x17 x18 x19 x20 x21 x22 x23 x24 x25 x26 x48 x49 x50 x51 x52 x53 x54 x55 x56 (f0 s') (f6 s') j') h') -> zhm [1,1,0,1,0,0,1,0,0,1,0,1,0,0] (zuf K E k1 k2) (zbu x1 x2 x3 x4 x5 x7 x8 x9 x10 x11 x12 x13 x14 x15 x16 x17 x18 x19 x20 x21 x22 x23 x24 x25 x26 x48 x49 x50 x51 x52 x53 x54 x55 x56 (f0 s) (f6 s) j) h) :
 lp (λk2=>zhm [1,1,0,1,0,0,1,0,0,1,0,1,0,0] (zuf K E k1 k2)) (zbu x1 x2 x3 x4 x5 x7 x8 x9 x10 x11 x12 x13 x14 x15 x16 x17 x18 x19 x20 x21 x22 x23 x24 x25 x26 x48 x49 x50 x51 x52 x53 x54 x55 x56 v0 v6 j) h:=by
 subst e0;subst e6;exact zaw _ I μ round s0 j h0
theorem zoe (f10 f30:σ -> Value) (I:σ -> Hp -> Prop) (μ:σ -> Nat) (s0:σ) (e10:v10=f10 s0) (e30:v30=f30 s0) (h0:h.wf -> ∃ h',h.wk h'∧I s0 h')
 (round:∀ (k1:Env -> Hp -> Prop) (s:σ) (j:Nat -> Value) (h:Hp),I s h -> h.wf -> (∀ s' j' h',μ s'<μ s -> (h'.wf -> ∃ h'',h'.wk h''∧I s' h'') -> k1 (zcu x0 x1 x2 x3 x4 x5 x6 x7 x8 x9 x11 x14 x15 x16 x17 x18 x19 x20 x21 x22 x23 x24 x25 x26 x27 x28 x29 x55 x56 x57 x58 x59 x60 x61 x62 x63 x64 x65 x66 x67 x68 x69 x70 x71 x72 x73 x74 x75 x76 x77 x78 x79 x80 x81 x82 x83 (f10 s') (f30 s') j') h') -> zh5 [1,1,1,1,0,1,0,0] (zlw K E k1) (zcu x0 x1 x2 x3 x4 x5 x6 x7 x8 x9 x11 x14 x15 x16 x17 x18 x19 x20 x21 x22 x23 x24 x25 x26 x27 x28 x29 x55 x56 x57 x58 x59 x60 x61 x62 x63 x64 x65 x66 x67 x68 x69 x70 x71 x72 x73 x74 x75 x76 x77 x78 x79 x80 x81 x82 x83 (f10 s) (f30 s) j) h) :
 lp (λk1=>zh5 [1,1,1,1,0,1,0,0] (zlw K E k1)) (zcu x0 x1 x2 x3 x4 x5 x6 x7 x8 x9 x11 x14 x15 x16 x17 x18 x19 x20 x21 x22 x23 x24 x25 x26 x27 x28 x29 x55 x56 x57 x58 x59 x60 x61 x62 x63 x64 x65 x66 x67 x68 x69 x70 x71 x72 x73 x74 x75 x76 x77 x78 x79 x80 x81 x82 x83 v10 v30 j) h:=by
 subst e10;subst e30;exact zaw _ I μ round s0 j h0
theorem zmy (f10 f57:σ -> Value) (I:σ -> Hp -> Prop) (μ:σ -> Nat) (s0:σ) (e10:v10=f10 s0) (e57:v57=f57 s0) (h0:h.wf -> ∃ h',h.wk h'∧I s0 h')
 (round:∀ (k1:Env -> Hp -> Prop) (s:σ) (j:Nat -> Value) (h:Hp),I s h -> h.wf -> (∀ s' j' h',μ s'<μ s -> (h'.wf -> ∃ h'',h'.wk h''∧I s' h'') -> k1 (zci x0 x1 x2 x3 x4 x5 x6 x7 x8 x9 x11 x12 x13 x14 x16 x17 x18 x19 x20 x21 x22 x23 x24 x25 x26 x27 x28 x29 x30 x31 x32 x33 x34 x35 x36 x37 x38 x39 x40 x41 x42 x43 x44 x45 x46 x47 x48 x49 x50 x51 x52 x53 x54 x55 x56 x72 x73 x74 x75 x76 x77 x78 x79 x80 x81 x82 x83 (f10 s') (f57 s') j') h') -> zh5 [1,1,1,1,1,0,1,0,0] (zm2 K E k1) (zci x0 x1 x2 x3 x4 x5 x6 x7 x8 x9 x11 x12 x13 x14 x16 x17 x18 x19 x20 x21 x22 x23 x24 x25 x26 x27 x28 x29 x30 x31 x32 x33 x34 x35 x36 x37 x38 x39 x40 x41 x42 x43 x44 x45 x46 x47 x48 x49 x50 x51 x52 x53 x54 x55 x56 x72 x73 x74 x75 x76 x77 x78 x79 x80 x81 x82 x83 (f10 s) (f57 s) j) h) :
 lp (λk1=>zh5 [1,1,1,1,1,0,1,0,0] (zm2 K E k1)) (zci x0 x1 x2 x3 x4 x5 x6 x7 x8 x9 x11 x12 x13 x14 x16 x17 x18 x19 x20 x21 x22 x23 x24 x25 x26 x27 x28 x29 x30 x31 x32 x33 x34 x35 x36 x37 x38 x39 x40 x41 x42 x43 x44 x45 x46 x47 x48 x49 x50 x51 x52 x53 x54 x55 x56 x72 x73 x74 x75 x76 x77 x78 x79 x80 x81 x82 x83 v10 v57 j) h:=by
 subst e10;subst e57;exact zaw _ I μ round s0 j h0
end
section
variable (K:zae) (E:zb2) (k1:Env -> Hp -> Prop) (x0 x1 x2 x3 x4 x5 x6 x7 x8 x9 x10 x11 x12 x13 x14 x15 x16 x17 x18 x19 x20 x21 x22 v3 v7 v8 v12 v23:Value) (j:Nat -> Value)
abbrev yk4:QD:=za7 Tryz.prog Tryz.f152.results.toList K E
abbrev zwu (p:List Nat):QD -> Env -> Hp -> Prop:=den Tryz.prog (sel (za3 Tryz.f152) p)
abbrev zvr:=za8 k1 (blk 0 (za8 (zwu [1,1] (yk4 K E)) (yk4 K E)))
def zf8 (j:Nat -> Value):Env:=#[x0,x1,x2,x3,(j 4),(j 5),x6,x7,v8,(j 9),(j 10),(j 11),(j 12),(j 13),(j 14),(j 15),(j 16),(j 17),(j 18)]
theorem yle:zwu [] (yk4 K E) #[x0,x1,U,U,U,U,U,U,U,U,U,U,U,U,U,U,U,U,U] =
 pv (zac x0) λt1=>
 lp (λk1=>zwu [1,0,1,0,0] (zvr K E k1)) (zf8 x0 x1 U U x0 t1 (.int .i64 0) (jf #[U,U,U,U,(.int .i64 0)])):=by kernel_rfl
theorem zjt:zwu [1,0,1,0,0] (zvr K E k1) (zf8 x0 x1 x2 x3 x6 x7 v8 j) =
 pv (za1 .none .lss v8 x7) λt1=>
 cnd t1 (
  pv (iaV none 2 x0 v8) λt2=>
  ld true 2 t2 λt3=>
  zbq Tryz.prog x1 #[t3] (λt4=>
  cnd t4 (
  K v8) (
  pv (za1 .none .add v8 (.int .i64 1)) λt5=>
  k1 (zf8 x0 x1 x2 x3 x6 x7 t5 (jf #[U,U,U,U,(j 4),v8,U,U,U,t1,v8,x1,x0,v8,t2,t3,t4,(j 17),t5])))) E) (
  K (.int .i64 (-1))):=by kernel_rfl
abbrev yxi:QD:=za7 Tryz.prog Tryz.f166.results.toList K E
abbrev yvz (p:List Nat):QD -> Env -> Hp -> Prop:=den Tryz.prog (sel (za3 Tryz.f166) p)
theorem yy0:yvz [] (yxi K E) #[x0,x1,U,U,U,U,U,U,U,U,U] =
 cF 218 #[x0,x1,(.func (.func 219) #[] #[])] (λt1=>
 pv (exV 0 t1) λt2=>
 pv (exV 1 t1) λt3=>
 K (.tuple #[t2,t3])) E:=by kernel_rfl
abbrev qbw:QD:=za7 Tryz.prog Tryz.f167.results.toList K E
abbrev yzw (p:List Nat):QD -> Env -> Hp -> Prop:=den Tryz.prog (sel (za3 Tryz.f167) p)
abbrev qa4:QD:=za7 Tryz.prog Tryz.f168.results.toList K E
abbrev qat (p:List Nat):QD -> Env -> Hp -> Prop:=den Tryz.prog (sel (za3 Tryz.f168) p)
abbrev yzs:QD:=za7 Tryz.prog Tryz.f169.results.toList K E
abbrev qbp (p:List Nat):QD -> Env -> Hp -> Prop:=den Tryz.prog (sel (za3 Tryz.f169) p)
abbrev qdg:QD:=za7 Tryz.prog Tryz.f170.results.toList K E
abbrev qav (p:List Nat):QD -> Env -> Hp -> Prop:=den Tryz.prog (sel (za3 Tryz.f170) p)
abbrev qcz:QD:=za7 Tryz.prog Tryz.f171.results.toList K E
abbrev qbs (p:List Nat):QD -> Env -> Hp -> Prop:=den Tryz.prog (sel (za3 Tryz.f171) p)
abbrev qax:QD:=za7 Tryz.prog Tryz.f176.results.toList K E
abbrev qcf (p:List Nat):QD -> Env -> Hp -> Prop:=den Tryz.prog (sel (za3 Tryz.f176) p)
abbrev qd7:QD:=za7 Tryz.prog Tryz.f179.results.toList K E
abbrev qcm (p:List Nat):QD -> Env -> Hp -> Prop:=den Tryz.prog (sel (za3 Tryz.f179) p)
abbrev ywa:QD:=za7 Tryz.prog Tryz.f180.results.toList K E
abbrev yvw (p:List Nat):QD -> Env -> Hp -> Prop:=den Tryz.prog (sel (za3 Tryz.f180) p)
theorem yx0:yvw [] (ywa K E) #[x0,x1,U,U,U,U,U,U,U] =
 cF 243 #[x0,x1] (λt1=>
 pv (za1 .none .geq t1 (.int .i64 0)) λt2=>
 K t2) E:=by kernel_rfl
abbrev yvc:QD:=za7 Tryz.prog Tryz.f181.results.toList K E
abbrev yun (p:List Nat):QD -> Env -> Hp -> Prop:=den Tryz.prog (sel (za3 Tryz.f181) p)
theorem ywe:yun [] (yvc K E) #[x0,U,U,U,U,U] =
 nw 108 (Value.cells x0).toList λt1=>
 ld true 2 t1 λt2=>
 cF 182 #[t2] (λt3=>
 pv (unV .not t3) λt4=>
 K t4) E:=by kernel_rfl
abbrev ym3:QD:=za7 Tryz.prog Tryz.f182.results.toList K E
abbrev zxv (p:List Nat):QD -> Env -> Hp -> Prop:=den Tryz.prog (sel (za3 Tryz.f182) p)
abbrev zvg:=za8 k1 (blk 0 (za8 (zxv [1,1,1,1] (ym3 K E)) (ym3 K E)))
def zd9 (j:Nat -> Value):Env:=#[x0,x1,(j 2),v3,x4,(j 5),x6,x7,x8,x9,x10,x11,x12,x13,x14,x15,x16,x17,x18,x19,x20,x21,x22,v23,(j 24),(j 25),(j 26),(j 27),(j 28),(j 29),(j 30),(j 31),(j 32),(j 33),(j 34),(j 35),(j 36),(j 37),(j 38),(j 39),(j 40),(j 41)]
theorem yth:zxv [] (ym3 K E) #[x0,U,U,U,U,U,U,U,U,U,U,U,U,U,U,U,U,U,U,U,U,U,U,U,U,U,U,U,U,U,U,U,U,U,U,U,U,U,U,U,U,U] =
 nw 108 (Value.cells x0).toList λt1=>
 pv (faV 0 t1) λt2=>
 ld false 1 t2 λt3=>
 pv (za1 .none .lss t3 (.int .i64 1)) λt4=>
 gdK t4 false (λk=>pv (faV 0 t1) k) λt5=>
 gdK t4 false (λk=>ld false 1 t5 k) λt6=>
 gdK t4 false (λk=>pv (za1 .none .gtr t6 (.int .i64 10000)) k) λt7=>
 pv (zad t4 (.bool true) t7) λt8=>
 gdK t8 false (λk=>pv (faV 1 t1) k) λt9=>
 gdK t8 false (λk=>ld false 1 t9 k) λt10=>
 gdK t8 false (λk=>pv (zac t10) k) λt11=>
 gdK t8 false (λk=>pv (za1 .none .gtr t11 (.int .i64 4)) k) λt12=>
 pv (zad t8 (.bool true) t12) λt13=>
 cnd t13 (
  K (.bool false)) (
  pv (faV 1 t1) λt14=>
  ld false 1 t14 λt15=>
  pv (zac t15) λt16=>
  lp (λk1=>zxv [1,1,1,0,1,0,0] (zvg K E k1)) (zd9 x0 t1 U t2 t3 t4 t4 t5 t6 t7 t8 t8 t9 t10 t11 t12 t13 t14 t15 t16 (.int .i64 1) (.int .i64 0) (jf #[U,U,(.bool false)]))):=by kernel_rfl
theorem zqf:zxv [1,1,1,0,1,0,0] (zvg K E k1) (zd9 x0 x1 x4 x6 x7 x8 x9 x10 x11 x12 x13 x14 x15 x16 x17 x18 x19 x20 x21 x22 v3 v23 j) =
 pv (za1 .none .lss v23 x22) λt1=>
 cnd t1 (
  pv (iaV none 1 x21 v23) λt2=>
  ld false 1 t2 λt3=>
  pv (za1 .none .leq t3 v3) λt4=>
  gdK t4 false (λk=>k t3) λt5=>
  gdK t4 false (λk=>pv (za1 .none .gtr t5 (.int .i64 10000)) k) λt6=>
  pv (zad t4 (.bool true) t6) λt7=>
  gdK t7 false (λk=>k t3) λt8=>
  gdK t7 false (λk=>k v3) λt9=>
  gdK t7 false (λk=>pv (za1 .none .rem t8 t9) k) λt10=>
  gdK t7 false (λk=>pv (za1 .none .neq t10 (.int .i64 0)) k) λt11=>
  pv (zad t7 (.bool true) t11) λt12=>
  cnd t12 (
  K (.bool false)) (
  pv (za1 .none .add v23 (.int .i64 1)) λt13=>
  k1 (zd9 x0 x1 x4 x6 x7 x8 x9 x10 x11 x12 x13 x14 x15 x16 x17 x18 x19 x20 x21 x22 t3 t13 (jf #[U,U,(j 2),U,U,t3,U,U,U,U,U,U,U,U,U,U,U,U,U,U,U,U,U,U,t1,t2,t3,t3,v3,t4,t4,t5,t6,t7,t7,t8,t9,t10,t11,t12,t3,t13])))) (
  K (.bool true)):=by kernel_rfl
abbrev yv7:QD:=za7 Tryz.prog Tryz.f186.results.toList K E
abbrev yx4 (p:List Nat):QD -> Env -> Hp -> Prop:=den Tryz.prog (sel (za3 Tryz.f186) p)
theorem yrm:yx4 [] (yv7 K E) #[x0,x1,x2,U,U,U,U,U,U,U,U,U,U,U,U,U,U,U,U,U,U,U,U,U,U,U,U,U,U,U,U,U,U,U,U,U,U,U] =
 cF 166 #[x0,x1] (λt1=>
 pv (exV 0 t1) λt2=>
 pv (exV 1 t1) λt3=>
 cnd t3 (
  pv (iaV none 2 x0 t2) λt4=>
  pv (faV 1 t4) λt5=>
  ld false 1 t5 λt6=>
  cF 103 #[x2] (λt7 h8=>(ldV h8 false 1 t5 t6)∧(
  nws 39 2 (bsC #[(.slice none 0 0)] 1 2 #[(0,t6),(1,t7)]) λt9=>
  cF 247 #[t9] (λt10=>
  pv (iaV none 2 x0 t2) λt11=>
  pv (faV 1 t11) λt12=>
  st 1 t12 t10 λ_=>
  K x0) E) h8) E) (
  cF 103 #[x2] (λt13=>
  pv (bdC #[(.int .u32 0),(.slice none 0 0)] [(0,1),(1,1)] #[(0,x1),(1,t13)]) λt14=>
  nws 143 1 (bsC #[(.int .u32 0),(.slice none 0 0)] 2 1 #[(0,t14)]) λt15=>
  cF 248 #[x0,t2,t15] (λt16=>
  K t16) E) E)) E:=by kernel_rfl
abbrev yk5:QD:=za7 Tryz.prog Tryz.f187.results.toList K E
abbrev zwy (p:List Nat):QD -> Env -> Hp -> Prop:=den Tryz.prog (sel (za3 Tryz.f187) p)
abbrev zu3:=za8 k1 (blk 0 (za8 (zwy [1,1,1] (yk5 K E)) (yk5 K E)))
def zdz (j:Nat -> Value):Env:=#[x0,x1,x2,x3,x4,x5,(j 6),v7,x8,(j 9),x10,x11,v12,(j 13),(j 14),(j 15),(j 16),(j 17),(j 18),(j 19),(j 20),(j 21),(j 22),(j 23),(j 24),(j 25),(j 26),(j 27),(j 28),(j 29),(j 30),(j 31),(j 32),(j 33),(j 34),(j 35),(j 36),(j 37)]
theorem yyv:zwy [] (yk5 K E) #[x0,x1,x2,U,U,U,U,U,U,U,U,U,U,U,U,U,U,U,U,U,U,U,U,U,U,U,U,U,U,U,U,U,U,U,U,U,U,U] =
 pv (zac x2) λt1=>
 lp (λk1=>zwy [1,1,0,1,0,0] (zu3 K E k1)) (zdz x0 x1 x2 U U U U x2 t1 (.int .u32 0) (.int .i64 0) (jf #[U,U,U,U,U,U,(.bool false)])):=by kernel_rfl
theorem zsn:zwy [1,1,0,1,0,0] (zu3 K E k1) (zdz x0 x1 x2 x3 x4 x5 x8 x10 x11 v7 v12 j) =
 pv (za1 .none .lss v12 x11) λt1=>
 cnd t1 (
  pv (iaV none 2 x10 v12) λt2=>
  ld true 2 t2 λt3=>
  nw 143 [(.int .u32 0),(.slice none 0 0)] λt4=>
  st 2 t4 t3 λ_=>
  pv (faV 0 t4) λt5=>
  ld false 1 t5 λt6=>
  pv (za1 .none .leq t6 v7) λt7=>
  gdK t7 false (λk=>k x0) λt8=>
  gdK t7 false (λk=>pv (faV 1 t4) k) λt9=>
  gdK t7 false (λk=>ld false 1 t9 k) λt10=>
  gdK t7 false (λk=>cF 98 #[t8,t10] k E) λt11=>
  gdK t7 false (λk=>pv (unV .not t11) k) λt12=>
  pv (zad t7 (.bool true) t12) λt13=>
  gdK t13 false (λk=>pv (faV 1 t4) k) λt14=>
  gdK t13 false (λk=>ld false 1 t14 k) λt15=>
  gdK t13 false (λk=>k x1) λt16=>
  gdK t13 false (λk=>cF 51 #[t15,t16,(.bool false)] k E) λt17=>
  gdK t13 false (λk=>pv (zac t17) k) λt18=>
  gdK t13 false (λk=>pv (za1 .none .gtr t18 (.int .i64 0)) k) λt19=>
  pv (zad t13 (.bool true) t19) λt20=>
  cnd t20 (
  K (.bool false)) (
  pv (faV 0 t4) λt21=>
  ld false 1 t21 λt22=>
  pv (za1 .none .add v12 (.int .i64 1)) λt23=>
  k1 (zdz x0 x1 x2 x3 x4 x5 x8 x10 x11 t22 t23 (jf #[U,U,U,U,U,U,(j 6),U,U,t4,U,U,U,t1,t2,t3,t5,t6,v7,t7,t7,t8,t9,t10,t11,t12,t13,t13,t14,t15,t16,t17,t18,t19,t20,t21,t22,t23])))) (
  K (.bool true)):=by kernel_rfl
abbrev yyr:QD:=za7 Tryz.prog Tryz.f188.results.toList K E
abbrev yyd (p:List Nat):QD -> Env -> Hp -> Prop:=den Tryz.prog (sel (za3 Tryz.f188) p)
theorem yyi:yyd [] (yyr K E) #[x0,U,U,U,U,U,U] =
 nw 143 (Value.cells x0).toList λt1=>
 pv (faV 1 t1) λt2=>
 ld false 1 t2 λt3=>
 pv (zac t3) λt4=>
 pv (za1 .none .gtr t4 (.int .i64 200)) λt5=>
 K t5:=by kernel_rfl
abbrev yxn:QD:=za7 Tryz.prog Tryz.f189.results.toList K E
abbrev yxb (p:List Nat):QD -> Env -> Hp -> Prop:=den Tryz.prog (sel (za3 Tryz.f189) p)
theorem yx2:yxb [] (yxn K E) #[x0,x1,U,U,U,U,U,U,U] =
 cF 249 #[x0,x1] (λt1=>
 pv (za1 .none .geq t1 (.int .i64 0)) λt2=>
 K t2) E:=by kernel_rfl
end
section
variable {K:zae} {E:zb2} {k1:Env -> Hp -> Prop} {σ:Type} {x0 x1 x2 x3 x4 x5 x6 x7 x8 x9 x10 x11 x12 x13 x14 x15 x16 x17 x18 x19 x20 x21 x22 v3 v7 v8 v12 v23:Value} {h:Hp} {j:Nat -> Value}
theorem zk5 (f8:σ -> Value) (I:σ -> Hp -> Prop) (μ:σ -> Nat) (s0:σ) (e8:v8=f8 s0) (h0:h.wf -> ∃ h',h.wk h'∧I s0 h')
 (round:∀ (k1:Env -> Hp -> Prop) (s:σ) (j:Nat -> Value) (h:Hp),I s h -> h.wf -> (∀ s' j' h',μ s'<μ s -> (h'.wf -> ∃ h'',h'.wk h''∧I s' h'') -> k1 (zf8 x0 x1 x2 x3 x6 x7 (f8 s') j') h') -> zwu [1,0,1,0,0] (zvr K E k1) (zf8 x0 x1 x2 x3 x6 x7 (f8 s) j) h) :
 lp (λk1=>zwu [1,0,1,0,0] (zvr K E k1)) (zf8 x0 x1 x2 x3 x6 x7 v8 j) h:=by
 subst e8;exact zaw _ I μ round s0 j h0
theorem zq0 (f3 f23:σ -> Value) (I:σ -> Hp -> Prop) (μ:σ -> Nat) (s0:σ) (e3:v3=f3 s0) (e23:v23=f23 s0) (h0:h.wf -> ∃ h',h.wk h'∧I s0 h')
 (round:∀ (k1:Env -> Hp -> Prop) (s:σ) (j:Nat -> Value) (h:Hp),I s h -> h.wf -> (∀ s' j' h',μ s'<μ s -> (h'.wf -> ∃ h'',h'.wk h''∧I s' h'') -> k1 (zd9 x0 x1 x4 x6 x7 x8 x9 x10 x11 x12 x13 x14 x15 x16 x17 x18 x19 x20 x21 x22 (f3 s') (f23 s') j') h') -> zxv [1,1,1,0,1,0,0] (zvg K E k1) (zd9 x0 x1 x4 x6 x7 x8 x9 x10 x11 x12 x13 x14 x15 x16 x17 x18 x19 x20 x21 x22 (f3 s) (f23 s) j) h) :
 lp (λk1=>zxv [1,1,1,0,1,0,0] (zvg K E k1)) (zd9 x0 x1 x4 x6 x7 x8 x9 x10 x11 x12 x13 x14 x15 x16 x17 x18 x19 x20 x21 x22 v3 v23 j) h:=by
 subst e3;subst e23;exact zaw _ I μ round s0 j h0
theorem zsr (f7 f12:σ -> Value) (I:σ -> Hp -> Prop) (μ:σ -> Nat) (s0:σ) (e7:v7=f7 s0) (e12:v12=f12 s0) (h0:h.wf -> ∃ h',h.wk h'∧I s0 h')
 (round:∀ (k1:Env -> Hp -> Prop) (s:σ) (j:Nat -> Value) (h:Hp),I s h -> h.wf -> (∀ s' j' h',μ s'<μ s -> (h'.wf -> ∃ h'',h'.wk h''∧I s' h'') -> k1 (zdz x0 x1 x2 x3 x4 x5 x8 x10 x11 (f7 s') (f12 s') j') h') -> zwy [1,1,0,1,0,0] (zu3 K E k1) (zdz x0 x1 x2 x3 x4 x5 x8 x10 x11 (f7 s) (f12 s) j) h) :
 lp (λk1=>zwy [1,1,0,1,0,0] (zu3 K E k1)) (zdz x0 x1 x2 x3 x4 x5 x8 x10 x11 v7 v12 j) h:=by
 subst e7;subst e12;exact zaw _ I μ round s0 j h0
end
section
variable (K:zae) (E:zb2) (k1:Env -> Hp -> Prop) (x0 x1 x2 x3 x4 x5 x6 x7 x8 x10 x11 x12 x13 x14 x15 x16 x35 x36 x37 x38 x39 x40 x41 x42 x43 x44 x45 x46 x47 x48 v9 v10 v17:Value) (j:Nat -> Value)
abbrev ym0:QD:=za7 Tryz.prog Tryz.f201.results.toList K E
abbrev zxr (p:List Nat):QD -> Env -> Hp -> Prop:=den Tryz.prog (sel (za3 Tryz.f201) p)
abbrev zvu:=za8 k1 (blk 0 (za8 (zxr [1,1,1] (ym0 K E)) (ym0 K E)))
def ze8 (j:Nat -> Value):Env:=#[x0,x1,x2,x3,x4,x5,(j 6),(j 7),(j 8),(j 9),x10,x11,x12,x13,x14,x15,x16,v17,(j 18),(j 19),(j 20),(j 21),(j 22),(j 23),(j 24),(j 25),(j 26),(j 27),(j 28),(j 29),(j 30),(j 31)]
theorem ywg:zxr [] (ym0 K E) #[x0,x1,x2,U,U,U,U,U,U,U,U,U,U,U,U,U,U,U,U,U,U,U,U,U,U,U,U,U,U,U,U,U] =
 pv (zac x0) λt1=>
 pv (zac x1) λt2=>
 pv (za1 .none .neq t1 t2) λt3=>
 cnd t3 (
  K (.bool false)) (
  pv (zac x0) λt4=>
  lp (λk1=>zxr [1,1,0,1,0,0] (zvu K E k1)) (ze8 x0 x1 x2 U U U x0 t1 x1 t2 t3 x0 t4 (.int .i64 0) (jf #[U,U,U,U,U,U,(.bool false)]))):=by kernel_rfl
theorem zth:zxr [1,1,0,1,0,0] (zvu K E k1) (ze8 x0 x1 x2 x3 x4 x5 x10 x11 x12 x13 x14 x15 x16 v17 j) =
 pv (za1 .none .lss v17 x16) λt1=>
 cnd t1 (
  pv (iaV none 2 x15 v17) λt2=>
  ld true 2 t2 λt3=>
  nw 108 [(.int .i64 0),(.slice none 0 0)] λt4=>
  st 2 t4 t3 λ_=>
  pv (iaV none 1 x1 v17) λt5=>
  ld false 1 t5 λt6=>
  ld true 2 t4 λt7=>
  zbq Tryz.prog x2 #[t7,t6] (λt8=>
  pv (unV .not t8) λt9=>
  cnd t9 (
  K (.bool false)) (
  pv (za1 .none .add v17 (.int .i64 1)) λt10=>
  k1 (ze8 x0 x1 x2 x3 x4 x5 x10 x11 x12 x13 x14 x15 x16 t10 (jf #[U,U,U,U,U,U,(j 6),v17,t4,t6,U,U,U,U,U,U,U,U,t1,v17,t2,t3,x1,v17,t5,t6,x2,t7,t6,t8,t9,t10])))) E) (
  K (.bool true)):=by kernel_rfl
abbrev yvk:QD:=za7 Tryz.prog Tryz.f202.results.toList K E
abbrev yvr (p:List Nat):QD -> Env -> Hp -> Prop:=den Tryz.prog (sel (za3 Tryz.f202) p)
theorem ytl:yvr [] (yvk K E) #[x0,x1,U,U,U,U,U,U,U,U,U,U,U] =
 nw 108 (Value.cells x0).toList λt1=>
 pv (za1 .none .geq x1 (.int .i64 0)) λt2=>
 gdK t2 true (λk=>k x1) λt3=>
 gdK t2 true (λk=>pv (faV 0 t1) k) λt4=>
 gdK t2 true (λk=>ld false 1 t4 k) λt5=>
 gdK t2 true (λk=>pv (za1 .none .lss t3 t5) k) λt6=>
 pv (zad t2 t6 (.bool false)) λt7=>
 K t7:=by kernel_rfl
abbrev ylv:QD:=za7 Tryz.prog Tryz.f218.results.toList K E
abbrev zx5 (p:List Nat):QD -> Env -> Hp -> Prop:=den Tryz.prog (sel (za3 Tryz.f218) p)
abbrev ztw:=za8 k1 (blk 0 (za8 (zx5 [1,1,1,1] (ylv K E)) (ylv K E)))
def zd8 (j:Nat -> Value):Env:=#[x0,x1,x2,x3,x4,x5,x6,x7,x8,v9,v10,(j 11),x12,x13,x14,(j 15),(j 16),(j 17),(j 18),(j 19),(j 20),(j 21),(j 22),(j 23),(j 24),(j 25),(j 26),(j 27),(j 28),(j 29),(j 30),(j 31),(j 32),(j 33),(j 34),x35,x36,x37,x38,x39,x40,x41,x42,x43,x44,x45,x46,x47,x48]
theorem yxl:zx5 [] (ylv K E) #[x0,x1,x2,U,U,U,U,U,U,U,U,U,U,U,U,U,U,U,U,U,U,U,U,U,U,U,U,U,U,U,U,U,U,U,U,U,U,U,U,U,U,U,U,U,U,U,U,U,U] =
 pv (zac x0) λt1=>
 lp (λk1=>zx5 [1,1,1,0,0,0] (ztw K E k1)) (zd8 x0 x1 x2 U U U (.int .i64 0) (.bool false) t1 x0 t1 t1 U U U U U U U U U U U U U U (.int .i64 0) t1 (jf #[])):=by kernel_rfl
theorem ztf:zx5 [1,1,1,0,0,0] (ztw K E k1) (zd8 x0 x1 x2 x3 x4 x5 x6 x7 x8 x12 x13 x14 x35 x36 x37 x38 x39 x40 x41 x42 x43 x44 x45 x46 x47 x48 v9 v10 j) =
 pv (za1 .none .lss v9 v10) λt1=>
 cnd t1 (
  pv (za1 .none .add v9 v10) λt2=>
  pv (cvV .u64 t2) λt3=>
  pv (za1 .none .shr t3 (.int .u64 1)) λt4=>
  pv (cvV .i64 t4) λt5=>
  pv (iaV none 2 x0 t5) λt6=>
  ld true 2 t6 λt7=>
  zbq Tryz.prog x2 #[t7,x1] (λt8=>
  pv (za1 .none .lss t8 (.int .i64 0)) λt9=>
  cnd t9 (
  pv (za1 .none .add t5 (.int .i64 1)) λt10=>
  k1 (zd8 x0 x1 x2 x3 x4 x5 x6 x7 x8 x12 x13 x14 x35 x36 x37 x38 x39 x40 x41 x42 x43 x44 x45 x46 x47 x48 t10 v10 (jf #[U,U,U,U,U,U,U,U,U,U,U,t5,U,U,U,v9,v10,t1,v9,v10,t2,t3,t4,t5,x2,x0,t5,t6,t7,x1,t8,t9,t5,t10,(j 34)]))) (
  k1 (zd8 x0 x1 x2 x3 x4 x5 x6 x7 x8 x12 x13 x14 x35 x36 x37 x38 x39 x40 x41 x42 x43 x44 x45 x46 x47 x48 v9 t5 (jf #[U,U,U,U,U,U,U,U,U,U,U,t5,U,U,U,v9,v10,t1,v9,v10,t2,t3,t4,t5,x2,x0,t5,t6,t7,x1,t8,t9,(j 32),(j 33),t5])))) E) (
  pv (za1 .none .lss v9 x8) λt11=>
  gdK t11 true (λk=>k x2) λt12=>
  gdK t11 true (λk=>k x0) λt13=>
  gdK t11 true (λk=>k v9) λt14=>
  gdK t11 true (λk=>pv (iaV none 2 t13 t14) k) λt15=>
  gdK t11 true (λk=>ld true 2 t15 k) λt16=>
  gdK t11 true (λk=>k x1) λt17=>
  gdK t11 true (λk=>zbq Tryz.prog t12 #[t16,t17] k E) λt18=>
  gdK t11 true (λk=>pv (za1 .none .eql t18 (.int .i64 0)) k) λt19=>
  pv (zad t11 t19 (.bool false)) λt20=>
  K (.tuple #[v9,t20])):=by kernel_rfl
abbrev yw5:QD:=za7 Tryz.prog Tryz.f219.results.toList K E
abbrev ywq (p:List Nat):QD -> Env -> Hp -> Prop:=den Tryz.prog (sel (za3 Tryz.f219) p)
theorem yx9:ywq [] (yw5 K E) #[x0,x1,U,U,U,U,U,U,U] =
 nw 143 (Value.cells x0).toList λt1=>
 pv (faV 0 t1) λt2=>
 ld false 1 t2 λt3=>
 cF 220 #[t3,x1] (λt4=>
 K t4) E:=by kernel_rfl
abbrev yw4:QD:=za7 Tryz.prog Tryz.f220.results.toList K E
abbrev yy5 (p:List Nat):QD -> Env -> Hp -> Prop:=den Tryz.prog (sel (za3 Tryz.f220) p)
theorem ytz:yy5 [] (yw4 K E) #[x0,x1,U,U,U,U,U,U,U,U,U,U,U,U,U,U,U,U,U,U] =
 cF 271 #[x0] (λt1=>
 cF 271 #[x1] (λt2=>
 cnd t1 (
  cnd t2 (
  K (.int .i64 0)) (
  K (.int .i64 (-1)))) (
  cnd t2 (
  K (.int .i64 1)) (
  pv (za1 .none .lss x0 x1) λt3=>
  cnd t3 (
   K (.int .i64 (-1))) (
   pv (za1 .none .gtr x0 x1) λt4=>
   cnd t4 (
   K (.int .i64 1)) (
   K (.int .i64 0)))))) E) E:=by kernel_rfl
abbrev yzk:QD:=za7 Tryz.prog Tryz.f221.results.toList K E
abbrev qa6 (p:List Nat):QD -> Env -> Hp -> Prop:=den Tryz.prog (sel (za3 Tryz.f221) p)
abbrev qbf:QD:=za7 Tryz.prog Tryz.f222.results.toList K E
abbrev qbv (p:List Nat):QD -> Env -> Hp -> Prop:=den Tryz.prog (sel (za3 Tryz.f222) p)
abbrev qa7:QD:=za7 Tryz.prog Tryz.f223.results.toList K E
abbrev qd8 (p:List Nat):QD -> Env -> Hp -> Prop:=den Tryz.prog (sel (za3 Tryz.f223) p)
abbrev qcu:QD:=za7 Tryz.prog Tryz.f224.results.toList K E
abbrev qdk (p:List Nat):QD -> Env -> Hp -> Prop:=den Tryz.prog (sel (za3 Tryz.f224) p)
abbrev qbh:QD:=za7 Tryz.prog Tryz.f225.results.toList K E
abbrev qb8 (p:List Nat):QD -> Env -> Hp -> Prop:=den Tryz.prog (sel (za3 Tryz.f225) p)
abbrev qba:QD:=za7 Tryz.prog Tryz.f226.results.toList K E
abbrev qbq (p:List Nat):QD -> Env -> Hp -> Prop:=den Tryz.prog (sel (za3 Tryz.f226) p)
abbrev yzq:QD:=za7 Tryz.prog Tryz.f227.results.toList K E
abbrev qbk (p:List Nat):QD -> Env -> Hp -> Prop:=den Tryz.prog (sel (za3 Tryz.f227) p)
abbrev qb3:QD:=za7 Tryz.prog Tryz.f228.results.toList K E
abbrev qdi (p:List Nat):QD -> Env -> Hp -> Prop:=den Tryz.prog (sel (za3 Tryz.f228) p)
abbrev qbi:QD:=za7 Tryz.prog Tryz.f229.results.toList K E
abbrev qdp (p:List Nat):QD -> Env -> Hp -> Prop:=den Tryz.prog (sel (za3 Tryz.f229) p)
abbrev qa3:QD:=za7 Tryz.prog Tryz.f230.results.toList K E
abbrev qdh (p:List Nat):QD -> Env -> Hp -> Prop:=den Tryz.prog (sel (za3 Tryz.f230) p)
abbrev qca:QD:=za7 Tryz.prog Tryz.f231.results.toList K E
abbrev qdn (p:List Nat):QD -> Env -> Hp -> Prop:=den Tryz.prog (sel (za3 Tryz.f231) p)
end
section
variable {K:zae} {E:zb2} {k1:Env -> Hp -> Prop} {σ:Type} {x0 x1 x2 x3 x4 x5 x6 x7 x8 x10 x11 x12 x13 x14 x15 x16 x35 x36 x37 x38 x39 x40 x41 x42 x43 x44 x45 x46 x47 x48 v9 v10 v17:Value} {h:Hp} {j:Nat -> Value}
theorem zs5 (f17:σ -> Value) (I:σ -> Hp -> Prop) (μ:σ -> Nat) (s0:σ) (e17:v17=f17 s0) (h0:h.wf -> ∃ h',h.wk h'∧I s0 h')
 (round:∀ (k1:Env -> Hp -> Prop) (s:σ) (j:Nat -> Value) (h:Hp),I s h -> h.wf -> (∀ s' j' h',μ s'<μ s -> (h'.wf -> ∃ h'',h'.wk h''∧I s' h'') -> k1 (ze8 x0 x1 x2 x3 x4 x5 x10 x11 x12 x13 x14 x15 x16 (f17 s') j') h') -> zxr [1,1,0,1,0,0] (zvu K E k1) (ze8 x0 x1 x2 x3 x4 x5 x10 x11 x12 x13 x14 x15 x16 (f17 s) j) h) :
 lp (λk1=>zxr [1,1,0,1,0,0] (zvu K E k1)) (ze8 x0 x1 x2 x3 x4 x5 x10 x11 x12 x13 x14 x15 x16 v17 j) h:=by
 subst e17;exact zaw _ I μ round s0 j h0
theorem zsz (f9 f10:σ -> Value) (I:σ -> Hp -> Prop) (μ:σ -> Nat) (s0:σ) (e9:v9=f9 s0) (e10:v10=f10 s0) (h0:h.wf -> ∃ h',h.wk h'∧I s0 h')
 (round:∀ (k1:Env -> Hp -> Prop) (s:σ) (j:Nat -> Value) (h:Hp),I s h -> h.wf -> (∀ s' j' h',μ s'<μ s -> (h'.wf -> ∃ h'',h'.wk h''∧I s' h'') -> k1 (zd8 x0 x1 x2 x3 x4 x5 x6 x7 x8 x12 x13 x14 x35 x36 x37 x38 x39 x40 x41 x42 x43 x44 x45 x46 x47 x48 (f9 s') (f10 s') j') h') -> zx5 [1,1,1,0,0,0] (ztw K E k1) (zd8 x0 x1 x2 x3 x4 x5 x6 x7 x8 x12 x13 x14 x35 x36 x37 x38 x39 x40 x41 x42 x43 x44 x45 x46 x47 x48 (f9 s) (f10 s) j) h) :
 lp (λk1=>zx5 [1,1,1,0,0,0] (ztw K E k1)) (zd8 x0 x1 x2 x3 x4 x5 x6 x7 x8 x12 x13 x14 x35 x36 x37 x38 x39 x40 x41 x42 x43 x44 x45 x46 x47 x48 v9 v10 j) h:=by
 subst e9;subst e10;exact zaw _ I μ round s0 j h0
end
section
variable (K:zae) (E:zb2) (k1:Env -> Hp -> Prop) (x0 x1 x2 x3 x4 x5 x6 x7 x8 x9 x10 x11 x12 x13 x14 x15 x16 x17 x18 x19 x20 x21 x22 x23 x24 x25 x26 x27 x28 x29 x30 x31 x32 x33 x34 x35 v3 v6 v8 v11 v27:Value) (j:Nat -> Value)
abbrev qcc:QD:=za7 Tryz.prog Tryz.f232.results.toList K E
abbrev qcl (p:List Nat):QD -> Env -> Hp -> Prop:=den Tryz.prog (sel (za3 Tryz.f232) p)
abbrev qb5:QD:=za7 Tryz.prog Tryz.f233.results.toList K E
abbrev qa9 (p:List Nat):QD -> Env -> Hp -> Prop:=den Tryz.prog (sel (za3 Tryz.f233) p)
abbrev qdt:QD:=za7 Tryz.prog Tryz.f234.results.toList K E
abbrev qcd (p:List Nat):QD -> Env -> Hp -> Prop:=den Tryz.prog (sel (za3 Tryz.f234) p)
abbrev qcp:QD:=za7 Tryz.prog Tryz.f235.results.toList K E
abbrev qbr (p:List Nat):QD -> Env -> Hp -> Prop:=den Tryz.prog (sel (za3 Tryz.f235) p)
abbrev qdm:QD:=za7 Tryz.prog Tryz.f236.results.toList K E
abbrev qd1 (p:List Nat):QD -> Env -> Hp -> Prop:=den Tryz.prog (sel (za3 Tryz.f236) p)
abbrev qaj:QD:=za7 Tryz.prog Tryz.f239.results.toList K E
abbrev yz9 (p:List Nat):QD -> Env -> Hp -> Prop:=den Tryz.prog (sel (za3 Tryz.f239) p)
abbrev qa5:QD:=za7 Tryz.prog Tryz.f240.results.toList K E
abbrev qac (p:List Nat):QD -> Env -> Hp -> Prop:=den Tryz.prog (sel (za3 Tryz.f240) p)
abbrev yzj:QD:=za7 Tryz.prog Tryz.f241.results.toList K E
abbrev yzu (p:List Nat):QD -> Env -> Hp -> Prop:=den Tryz.prog (sel (za3 Tryz.f241) p)
abbrev qdc:QD:=za7 Tryz.prog Tryz.f242.results.toList K E
abbrev qas (p:List Nat):QD -> Env -> Hp -> Prop:=den Tryz.prog (sel (za3 Tryz.f242) p)
abbrev yki:QD:=za7 Tryz.prog Tryz.f243.results.toList K E
abbrev zxi (p:List Nat):QD -> Env -> Hp -> Prop:=den Tryz.prog (sel (za3 Tryz.f243) p)
abbrev zv0:=za8 k1 (blk 0 (za8 (zxi [1,1] (yki K E)) (yki K E)))
def zf9 (j:Nat -> Value):Env:=#[x0,x1,x2,x3,(j 4),(j 5),x6,x7,v8,(j 9),(j 10),(j 11),(j 12),(j 13),(j 14),(j 15),(j 16),(j 17),(j 18)]
theorem yu1:zxi [] (yki K E) #[x0,x1,U,U,U,U,U,U,U,U,U,U,U,U,U,U,U,U,U] =
 pv (zac x0) λt1=>
 lp (λk1=>zxi [1,0,1,0,0] (zv0 K E k1)) (zf9 x0 x1 U U x0 t1 (.int .i64 0) (jf #[U,U,U,U,(.int .i64 0)])):=by kernel_rfl
theorem zy8:zxi [1,0,1,0,0] (zv0 K E k1) (zf9 x0 x1 x2 x3 x6 x7 v8 j) =
 pv (za1 .none .lss v8 x7) λt1=>
 cnd t1 (
  pv (iaV none 2 x0 v8) λt2=>
  ld true 2 t2 λt3=>
  zbq Tryz.prog x1 #[t3] (λt4=>
  cnd t4 (
  K v8) (
  pv (za1 .none .add v8 (.int .i64 1)) λt5=>
  k1 (zf9 x0 x1 x2 x3 x6 x7 t5 (jf #[U,U,U,U,(j 4),v8,U,U,U,t1,v8,x1,x0,v8,t2,t3,t4,(j 17),t5])))) E) (
  K (.int .i64 (-1))):=by kernel_rfl
abbrev yap:QD:=za7 Tryz.prog Tryz.f247.results.toList K E
abbrev zj9 (p:List Nat):QD -> Env -> Hp -> Prop:=den Tryz.prog (sel (za3 Tryz.f247) p)
abbrev zub:=za8 k1 (blk 2 (za8 (zj9 [1,1,1,1,1] (yap K E)) (yap K E)))
abbrev zll:=za8 k1 (blk 0 (za8 (zj9 [1,1,1] (yap K E)) (yap K E)))
def ze2 (j:Nat -> Value):Env:=#[x0,x1,x2,v3,x4,(j 5),x6,x7,x8,x9,x10,v11,(j 12),(j 13),(j 14),(j 15),(j 16),(j 17),(j 18),(j 19),(j 20),(j 21),(j 22),x23,x24,x25,x26,x27,x28,x29,x30,x31,x32,x33,x34,x35]
def zcs (j:Nat -> Value):Env:=#[x0,x1,x2,x3,x4,x5,v6,x7,(j 8),x9,x10,x11,x12,x13,x14,x15,x16,x17,x18,x19,x20,x21,x22,x23,x24,x25,x26,v27,(j 28),(j 29),(j 30),(j 31),(j 32),(j 33),(j 34),x35]
theorem yyp:zj9 [] (yap K E) #[x0,U,U,U,U,U,U,U,U,U,U,U,U,U,U,U,U,U,U,U,U,U,U,U,U,U,U,U,U,U,U,U,U,U,U,U] =
 pv (zac x0) λt1=>
 lp (λk1=>zj9 [1,1,0,1,0,0] (zll K E k1)) (ze2 x0 U (.slice none 0 0) U U U U x0 t1 U U U U U U U U U U U U U (.int .i64 0) (.int .i64 0) (jf #[])):=by kernel_rfl
theorem zt3:zj9 [1,1,0,1,0,0] (zll K E k1) (ze2 x0 x1 x2 x4 x6 x7 x8 x9 x10 x23 x24 x25 x26 x27 x28 x29 x30 x31 x32 x33 x34 x35 v3 v11 j) =
 pv (za1 .none .lss v11 x10) λt1=>
 cnd t1 (
  pv (iaV none 1 x9 v11) λt2=>
  ld false 1 t2 λt3=>
  pv (zac t3) λt4=>
  pv (za1 .none .add v3 t4) λt5=>
  pv (za1 .none .lss t5 (.int .i64 0)) λt6=>
  cnd t6 (
  pv (zoa 9 (.string ⟨#[108,101,110,32,111,117,116,32,111,102,32,114,97,110,103,101]⟩)) λt7=>
  pnc t7 E λ_=>
  zj9 [1,1,0,1,0,0,1,1,1] (zll K E k1) #[x0,x1,x2,t5,x4,t3,x6,x7,x8,x9,x10,v11,t1,t2,t3,v3,t3,t4,t5,t5,t6,t7,(j 22),x23,x24,x25,x26,x27,x28,x29,x30,x31,x32,x33,x34,x35]) (
  zj9 [1,1,0,1,0,0,1,1,1] (zll K E k1) #[x0,x1,x2,t5,x4,t3,x6,x7,x8,x9,x10,v11,t1,t2,t3,v3,t3,t4,t5,t5,t6,(j 21),(j 22),x23,x24,x25,x26,x27,x28,x29,x30,x31,x32,x33,x34,x35])) (
  cF 296 #[(.slice none 0 0),v3] (λt8=>
  pv (zac x0) λt9=>
  lp (λk1=>zj9 [1,1,1,1,0,1,0,0] (zub K E k1)) (zcs x0 x1 x2 v3 x4 (j 5) x7 x9 x10 v11 t1 (j 13) (j 14) (j 15) (j 16) (j 17) (j 18) (j 19) (j 20) (j 21) (j 22) v3 t8 x0 t9 x35 t8 (.int .i64 0) (jf #[U,U,U,U,U,U,U,U,x8,U,U,U,U,U,U,U,U,U,U,U,U,U,U,U,U,U,U,U,x28,x29,x30,x31,x32,x33,x34]))) E):=by kernel_rfl
theorem zmr:zj9 [1,1,0,1,0,0,1,1,1] (zll K E k1) #[x0,x1,x2,x3,x4,x5,x6,x7,x8,x9,x10,x11,x12,x13,x14,x15,x16,x17,x18,x19,x20,x21,x22,x23,x24,x25,x26,x27,x28,x29,x30,x31,x32,x33,x34,x35] =
 pv (za1 .none .add x11 (.int .i64 1)) λt1=>
 k1 (ze2 x0 x1 x2 x4 x6 x7 x8 x9 x10 x23 x24 x25 x26 x27 x28 x29 x30 x31 x32 x33 x34 x35 x3 t1 (jf #[U,U,U,U,U,x5,U,U,U,U,U,U,x12,x13,x14,x15,x16,x17,x18,x19,x20,x21,t1])):=by kernel_rfl
theorem zp5:zj9 [1,1,1,1,0,1,0,0] (zub K E k1) (zcs x0 x1 x2 x3 x4 x5 x7 x9 x10 x11 x12 x13 x14 x15 x16 x17 x18 x19 x20 x21 x22 x23 x24 x25 x26 x35 v6 v27 j) =
 pv (za1 .none .lss v27 x26) λt1=>
 cnd t1 (
  pv (iaV none 1 x25 v27) λt2=>
  ld false 1 t2 λt3=>
  zek 110 2 32 v6 t3 λt4=>
  pv (za1 .none .add v27 (.int .i64 1)) λt5=>
  k1 (zcs x0 x1 x2 x3 x4 x5 x7 x9 x10 x11 x12 x13 x14 x15 x16 x17 x18 x19 x20 x21 x22 x23 x24 x25 x26 x35 t4 t5 (jf #[U,U,U,U,U,U,U,U,t3,U,U,U,U,U,U,U,U,U,U,U,U,U,U,U,U,U,U,U,t1,t2,t3,v6,t3,t4,t5]))) (
  K v6):=by kernel_rfl
abbrev yud:QD:=za7 Tryz.prog Tryz.f248.results.toList K E
abbrev yxe (p:List Nat):QD -> Env -> Hp -> Prop:=den Tryz.prog (sel (za3 Tryz.f248) p)
theorem yr1:yxe [] (yud K E) #[x0,x1,x2,U,U,U,U,U,U,U,U,U,U,U,U,U,U,U,U,U,U,U,U,U,U,U,U,U,U,U,U,U,U,U,U,U,U,U,U,U,U,U,U,U,U,U,U,U,U,U,U,U,U,U,U,U,U,U,U,U,U,U,U,U,U,U,U,U,U,U,U,U,U,U,U,U,U,U,U,U,U,U,U,U,U,U,U,U,U,U,U,U,U,U,U] =
 pv (slV 2 x0 (some x1) none none) λt1=>
 pv (zac x2) λt2=>
 pv (za1 .none .eql t2 (.int .i64 0)) λt3=>
 cnd t3 (
  K x0) (
  pv (zac x0) λt4=>
  pv (za1 .none .eql x1 t4) λt5=>
  cnd t5 (
  zek 143 2 32 x0 x2 λt6=>
  K t6) (
  pv (za1 .none .add t4 t2) λt7=>
  pv (zk1 x0) λt8=>
  pv (za1 .none .gtr t7 t8) λt9=>
  cnd t9 (
   pv (slV 2 x0 none (some x1) none) λt10=>
   pv (za1 .none .add t4 t2) λt11=>
   pv (za1 .none .sub t11 x1) λt12=>
   zq1 143 [(.int .u32 0),(.slice none 0 0)] 2 32 t10 t12 λt13=>
   pv (slV 2 t13 (some x1) none none) λt14=>
   cpy 2 t14 x2 λt15=>
   pv (za1 .none .add x1 t2) λt16=>
   pv (slV 2 t13 (some t16) none none) λt17=>
   pv (slV 2 x0 (some x1) none none) λt18=>
   cpy 2 t17 t18 λt19=>
   K t13) (
   pv (za1 .none .add t4 t2) λt20=>
   pv (slV 2 x0 none (some t20) none) λt21=>
   pv (za1 .none .add x1 t2) λt22=>
   pv (slV 2 t21 (some t22) none none) λt23=>
   cF 297 #[x2,t23] (λt24=>
   pv (unV .not t24) λt25=>
   cnd t25 (
   pv (za1 .none .add x1 t2) λt26=>
   pv (slV 2 t21 (some t26) none none) λt27=>
   pv (slV 2 t21 (some x1) none none) λt28=>
   cpy 2 t27 t28 λt29=>
   pv (slV 2 t21 (some x1) none none) λt30=>
   cpy 2 t30 x2 λt31=>
   K t21) (
   pv (slV 2 t21 (some t4) none none) λt32=>
   cpy 2 t32 x2 λt33=>
   pv (slV 2 t21 (some x1) none none) λt34=>
   cF 298 #[t34,t2] (λt35=>
   K t21) E)) E))):=by kernel_rfl
abbrev ymr:QD:=za7 Tryz.prog Tryz.f249.results.toList K E
abbrev zxm (p:List Nat):QD -> Env -> Hp -> Prop:=den Tryz.prog (sel (za3 Tryz.f249) p)
abbrev zw7:=za8 k1 (blk 0 (za8 (zxm [1,1] (ymr K E)) (ymr K E)))
def zfc (j:Nat -> Value):Env:=#[x0,x1,x2,x3,(j 4),(j 5),x6,x7,v8,(j 9),(j 10),(j 11),(j 12),(j 13),(j 14),(j 15),(j 16),(j 17),(j 18)]
theorem yyu:zxm [] (ymr K E) #[x0,x1,U,U,U,U,U,U,U,U,U,U,U,U,U,U,U,U,U] =
 pv (zac x0) λt1=>
 lp (λk1=>zxm [1,0,1,0,0] (zw7 K E k1)) (zfc x0 x1 U U x0 t1 (.int .i64 0) (jf #[U,U,U,U,(.int .i64 0)])):=by kernel_rfl
theorem zxk:zxm [1,0,1,0,0] (zw7 K E k1) (zfc x0 x1 x2 x3 x6 x7 v8 j) =
 pv (za1 .none .lss v8 x7) λt1=>
 cnd t1 (
  pv (iaV none 2 x0 v8) λt2=>
  ld true 2 t2 λt3=>
  zbq Tryz.prog x1 #[t3] (λt4=>
  cnd t4 (
  K v8) (
  pv (za1 .none .add v8 (.int .i64 1)) λt5=>
  k1 (zfc x0 x1 x2 x3 x6 x7 t5 (jf #[U,U,U,U,(j 4),v8,U,U,U,t1,v8,x1,x0,v8,t2,t3,t4,(j 17),t5])))) E) (
  K (.int .i64 (-1))):=by kernel_rfl
abbrev yxw:QD:=za7 Tryz.prog Tryz.f271.results.toList K E
abbrev ytm (p:List Nat):QD -> Env -> Hp -> Prop:=den Tryz.prog (sel (za3 Tryz.f271) p)
theorem yqw:ytm [] (yxw K E) #[x0,U,U,U,U,U] =
 pv (za1 .none .neq x0 x0) λt1=>
 K t1:=by kernel_rfl
abbrev qb6:QD:=za7 Tryz.prog Tryz.f274.results.toList K E
abbrev qae (p:List Nat):QD -> Env -> Hp -> Prop:=den Tryz.prog (sel (za3 Tryz.f274) p)
abbrev qa0:QD:=za7 Tryz.prog Tryz.f275.results.toList K E
abbrev qay (p:List Nat):QD -> Env -> Hp -> Prop:=den Tryz.prog (sel (za3 Tryz.f275) p)
end
section
variable {K:zae} {E:zb2} {k1:Env -> Hp -> Prop} {σ:Type} {x0 x1 x2 x3 x4 x5 x6 x7 x8 x9 x10 x11 x12 x13 x14 x15 x16 x17 x18 x19 x20 x21 x22 x23 x24 x25 x26 x27 x28 x29 x30 x31 x32 x33 x34 x35 v3 v6 v8 v11 v27:Value} {h:Hp} {j:Nat -> Value}
theorem zxl (f8:σ -> Value) (I:σ -> Hp -> Prop) (μ:σ -> Nat) (s0:σ) (e8:v8=f8 s0) (h0:h.wf -> ∃ h',h.wk h'∧I s0 h')
 (round:∀ (k1:Env -> Hp -> Prop) (s:σ) (j:Nat -> Value) (h:Hp),I s h -> h.wf -> (∀ s' j' h',μ s'<μ s -> (h'.wf -> ∃ h'',h'.wk h''∧I s' h'') -> k1 (zf9 x0 x1 x2 x3 x6 x7 (f8 s') j') h') -> zxi [1,0,1,0,0] (zv0 K E k1) (zf9 x0 x1 x2 x3 x6 x7 (f8 s) j) h) :
 lp (λk1=>zxi [1,0,1,0,0] (zv0 K E k1)) (zf9 x0 x1 x2 x3 x6 x7 v8 j) h:=by
 subst e8;exact zaw _ I μ round s0 j h0
theorem zt7 (f3 f11:σ -> Value) (I:σ -> Hp -> Prop) (μ:σ -> Nat) (s0:σ) (e3:v3=f3 s0) (e11:v11=f11 s0) (h0:h.wf -> ∃ h',h.wk h'∧I s0 h')
 (round:∀ (k1:Env -> Hp -> Prop) (s:σ) (j:Nat -> Value) (h:Hp),I s h -> h.wf -> (∀ s' j' h',μ s'<μ s -> (h'.wf -> ∃ h'',h'.wk h''∧I s' h'') -> k1 (ze2 x0 x1 x2 x4 x6 x7 x8 x9 x10 x23 x24 x25 x26 x27 x28 x29 x30 x31 x32 x33 x34 x35 (f3 s') (f11 s') j') h') -> zj9 [1,1,0,1,0,0] (zll K E k1) (ze2 x0 x1 x2 x4 x6 x7 x8 x9 x10 x23 x24 x25 x26 x27 x28 x29 x30 x31 x32 x33 x34 x35 (f3 s) (f11 s) j) h) :
 lp (λk1=>zj9 [1,1,0,1,0,0] (zll K E k1)) (ze2 x0 x1 x2 x4 x6 x7 x8 x9 x10 x23 x24 x25 x26 x27 x28 x29 x30 x31 x32 x33 x34 x35 v3 v11 j) h:=by
 subst e3;subst e11;exact zaw _ I μ round s0 j h0
theorem zo0 (f6 f27:σ -> Value) (I:σ -> Hp -> Prop) (μ:σ -> Nat) (s0:σ) (e6:v6=f6 s0) (e27:v27=f27 s0) (h0:h.wf -> ∃ h',h.wk h'∧I s0 h')
 (round:∀ (k1:Env -> Hp -> Prop) (s:σ) (j:Nat -> Value) (h:Hp),I s h -> h.wf -> (∀ s' j' h',μ s'<μ s -> (h'.wf -> ∃ h'',h'.wk h''∧I s' h'') -> k1 (zcs x0 x1 x2 x3 x4 x5 x7 x9 x10 x11 x12 x13 x14 x15 x16 x17 x18 x19 x20 x21 x22 x23 x24 x25 x26 x35 (f6 s') (f27 s') j') h') -> zj9 [1,1,1,1,0,1,0,0] (zub K E k1) (zcs x0 x1 x2 x3 x4 x5 x7 x9 x10 x11 x12 x13 x14 x15 x16 x17 x18 x19 x20 x21 x22 x23 x24 x25 x26 x35 (f6 s) (f27 s) j) h) :
 lp (λk1=>zj9 [1,1,1,1,0,1,0,0] (zub K E k1)) (zcs x0 x1 x2 x3 x4 x5 x7 x9 x10 x11 x12 x13 x14 x15 x16 x17 x18 x19 x20 x21 x22 x23 x24 x25 x26 x35 v6 v27 j) h:=by
 subst e6;subst e27;exact zaw _ I μ round s0 j h0
theorem zxt (f8:σ -> Value) (I:σ -> Hp -> Prop) (μ:σ -> Nat) (s0:σ) (e8:v8=f8 s0) (h0:h.wf -> ∃ h',h.wk h'∧I s0 h')
 (round:∀ (k1:Env -> Hp -> Prop) (s:σ) (j:Nat -> Value) (h:Hp),I s h -> h.wf -> (∀ s' j' h',μ s'<μ s -> (h'.wf -> ∃ h'',h'.wk h''∧I s' h'') -> k1 (zfc x0 x1 x2 x3 x6 x7 (f8 s') j') h') -> zxm [1,0,1,0,0] (zw7 K E k1) (zfc x0 x1 x2 x3 x6 x7 (f8 s) j) h) :
 lp (λk1=>zxm [1,0,1,0,0] (zw7 K E k1)) (zfc x0 x1 x2 x3 x6 x7 v8 j) h:=by
 subst e8;exact zaw _ I μ round s0 j h0
end
section
variable (K:zae) (E:zb2) (x0 x1:Value) (j:Nat -> Value)
abbrev qde:QD:=za7 Tryz.prog Tryz.f276.results.toList K E
abbrev qd5 (p:List Nat):QD -> Env -> Hp -> Prop:=den Tryz.prog (sel (za3 Tryz.f276) p)
abbrev qd3:QD:=za7 Tryz.prog Tryz.f277.results.toList K E
abbrev yzm (p:List Nat):QD -> Env -> Hp -> Prop:=den Tryz.prog (sel (za3 Tryz.f277) p)
abbrev ytf:QD:=za7 Tryz.prog Tryz.f278.results.toList K E
abbrev ywz (p:List Nat):QD -> Env -> Hp -> Prop:=den Tryz.prog (sel (za3 Tryz.f278) p)
theorem yxk:ywz [] (ytf K E) #[x0,x1,U,U,U,U,U,U,U,U] =
 nw 228 (Value.cells x0).toList λt1=>
 nw 228 (Value.cells x1).toList λt2=>
 pv (faV 0 t1) λt3=>
 ld false 1 t3 λt4=>
 pv (faV 0 t2) λt5=>
 ld false 1 t5 λt6=>
 cF 312 #[t4,t6] (λt7=>
 K t7) E:=by kernel_rfl
abbrev qbg:QD:=za7 Tryz.prog Tryz.f279.results.toList K E
abbrev qcq (p:List Nat):QD -> Env -> Hp -> Prop:=den Tryz.prog (sel (za3 Tryz.f279) p)
abbrev qa1:QD:=za7 Tryz.prog Tryz.f280.results.toList K E
abbrev qch (p:List Nat):QD -> Env -> Hp -> Prop:=den Tryz.prog (sel (za3 Tryz.f280) p)
abbrev qag:QD:=za7 Tryz.prog Tryz.f281.results.toList K E
abbrev qdo (p:List Nat):QD -> Env -> Hp -> Prop:=den Tryz.prog (sel (za3 Tryz.f281) p)
abbrev yzr:QD:=za7 Tryz.prog Tryz.f282.results.toList K E
abbrev yzc (p:List Nat):QD -> Env -> Hp -> Prop:=den Tryz.prog (sel (za3 Tryz.f282) p)
abbrev qap:QD:=za7 Tryz.prog Tryz.f283.results.toList K E
abbrev yza (p:List Nat):QD -> Env -> Hp -> Prop:=den Tryz.prog (sel (za3 Tryz.f283) p)
abbrev qbd:QD:=za7 Tryz.prog Tryz.f284.results.toList K E
abbrev qab (p:List Nat):QD -> Env -> Hp -> Prop:=den Tryz.prog (sel (za3 Tryz.f284) p)
abbrev qds:QD:=za7 Tryz.prog Tryz.f285.results.toList K E
abbrev qci (p:List Nat):QD -> Env -> Hp -> Prop:=den Tryz.prog (sel (za3 Tryz.f285) p)
abbrev qc1:QD:=za7 Tryz.prog Tryz.f287.results.toList K E
abbrev qbb (p:List Nat):QD -> Env -> Hp -> Prop:=den Tryz.prog (sel (za3 Tryz.f287) p)
abbrev qc4:QD:=za7 Tryz.prog Tryz.f288.results.toList K E
abbrev qb1 (p:List Nat):QD -> Env -> Hp -> Prop:=den Tryz.prog (sel (za3 Tryz.f288) p)
abbrev qck:QD:=za7 Tryz.prog Tryz.f289.results.toList K E
abbrev yzb (p:List Nat):QD -> Env -> Hp -> Prop:=den Tryz.prog (sel (za3 Tryz.f289) p)
abbrev qcb:QD:=za7 Tryz.prog Tryz.f290.results.toList K E
abbrev qaw (p:List Nat):QD -> Env -> Hp -> Prop:=den Tryz.prog (sel (za3 Tryz.f290) p)
abbrev qak:QD:=za7 Tryz.prog Tryz.f291.results.toList K E
abbrev qbo (p:List Nat):QD -> Env -> Hp -> Prop:=den Tryz.prog (sel (za3 Tryz.f291) p)
abbrev qai:QD:=za7 Tryz.prog Tryz.f292.results.toList K E
abbrev qb0 (p:List Nat):QD -> Env -> Hp -> Prop:=den Tryz.prog (sel (za3 Tryz.f292) p)
end
section
variable {K:zae} {E:zb2} {σ:Type} {h:Hp} {j:Nat -> Value}
end
section
variable (K:zae) (E:zb2) (k1:Env -> Hp -> Prop) (x0 x1 x2 x3 x4 x5 x6 x7 x8 x9 x10 x11 x12 x13 x14 x15 x16 x17 x18 x19 x20 x21 x22 x23 x24 x25 x26 v8:Value) (j:Nat -> Value)
abbrev qaq:QD:=za7 Tryz.prog Tryz.f293.results.toList K E
abbrev qd0 (p:List Nat):QD -> Env -> Hp -> Prop:=den Tryz.prog (sel (za3 Tryz.f293) p)
abbrev qc5:QD:=za7 Tryz.prog Tryz.f294.results.toList K E
abbrev qc3 (p:List Nat):QD -> Env -> Hp -> Prop:=den Tryz.prog (sel (za3 Tryz.f294) p)
abbrev qda:QD:=za7 Tryz.prog Tryz.f295.results.toList K E
abbrev qdr (p:List Nat):QD -> Env -> Hp -> Prop:=den Tryz.prog (sel (za3 Tryz.f295) p)
abbrev zt2:QD:=za7 Tryz.prog Tryz.f296.results.toList K E
abbrev zt5 (p:List Nat):QD -> Env -> Hp -> Prop:=den Tryz.prog (sel (za3 Tryz.f296) p)
theorem ywf:zt5 [] (zt2 K E) #[x0,x1,U,U,U,U,U,U,U,U,U,U,U,U,U,U,U,U,U,U,U,U,U,U,U,U,U] =
 pv (za1 .none .lss x1 (.int .i64 0)) λt1=>
 cnd t1 (
  pv (zoa 9 (.string ⟨#[99,97,110,110,111,116,32,98,101,32,110,101,103,97,116,105,118,101]⟩)) λt2=>
  pnc t2 E λ_=>
  zt5 [1,1] (zt2 K E) #[x0,x1,U,U,(.slice none 0 0),x1,t1,t2,U,U,U,U,U,U,U,U,U,U,U,U,U,U,U,U,U,U,U]) (
  zt5 [1,1] (zt2 K E) #[x0,x1,U,U,(.slice none 0 0),x1,t1,U,U,U,U,U,U,U,U,U,U,U,U,U,U,U,U,U,U,U,U]):=by kernel_rfl
theorem yjk:zt5 [1,1] (zt2 K E) #[x0,x1,x2,x3,x4,x5,x6,x7,x8,x9,x10,x11,x12,x13,x14,x15,x16,x17,x18,x19,x20,x21,x22,x23,x24,x25,x26] =
 pv (zk1 x0) λt1=>
 pv (zac x0) λt2=>
 pv (za1 .none .sub t1 t2) λt3=>
 pv (za1 .none .sub x1 t3) λt4=>
 pv (za1 .none .gtr t4 (.int .i64 0)) λt5=>
 cnd t5 (
  pv (zk1 x0) λt6=>
  pv (slV 2 x0 none (some t6) none) λt7=>
  zq1 110 [(.slice none 0 0),(.int .i64 0)] 2 32 t7 t4 λt8=>
  pv (zac x0) λt9=>
  pv (slV 2 t8 none (some t9) none) λt10=>
  zt5 [1,1,1] (zt2 K E) #[t10,t4,x2,x3,x4,x5,x6,x7,x1,x0,t1,x0,t2,t3,t4,t4,t5,x0,x0,t6,t7,t4,t8,x0,t9,t10,x26]) (
  zt5 [1,1,1] (zt2 K E) #[x0,t4,x2,x3,x4,x5,x6,x7,x1,x0,t1,x0,t2,t3,t4,t4,t5,x17,x18,x19,x20,x21,x22,x23,x24,x25,x26]):=by kernel_rfl
theorem zvt:zt5 [1,1,1] (zt2 K E) #[x0,x1,x2,x3,x4,x5,x6,x7,x8,x9,x10,x11,x12,x13,x14,x15,x16,x17,x18,x19,x20,x21,x22,x23,x24,x25,x26] =
 K x0:=by kernel_rfl
abbrev qcn:QD:=za7 Tryz.prog Tryz.f307.results.toList K E
abbrev qco (p:List Nat):QD -> Env -> Hp -> Prop:=den Tryz.prog (sel (za3 Tryz.f307) p)
abbrev qc6:QD:=za7 Tryz.prog Tryz.f308.results.toList K E
abbrev qa2 (p:List Nat):QD -> Env -> Hp -> Prop:=den Tryz.prog (sel (za3 Tryz.f308) p)
abbrev qcs:QD:=za7 Tryz.prog Tryz.f309.results.toList K E
abbrev qd2 (p:List Nat):QD -> Env -> Hp -> Prop:=den Tryz.prog (sel (za3 Tryz.f309) p)
abbrev yvl:QD:=za7 Tryz.prog Tryz.f310.results.toList K E
abbrev ywo (p:List Nat):QD -> Env -> Hp -> Prop:=den Tryz.prog (sel (za3 Tryz.f310) p)
theorem yxo:ywo [] (yvl K E) #[x0,x1,U,U,U,U,U,U,U] =
 cF 322 #[x0,x1] (λt1=>
 pv (za1 .none .geq t1 (.int .i64 0)) λt2=>
 K t2) E:=by kernel_rfl
abbrev yzo:QD:=za7 Tryz.prog Tryz.f311.results.toList K E
abbrev qcx (p:List Nat):QD -> Env -> Hp -> Prop:=den Tryz.prog (sel (za3 Tryz.f311) p)
abbrev yyj:QD:=za7 Tryz.prog Tryz.f312.results.toList K E
abbrev ytv (p:List Nat):QD -> Env -> Hp -> Prop:=den Tryz.prog (sel (za3 Tryz.f312) p)
theorem yxm:ytv [] (yyj K E) #[x0,x1,U,U,U,U,U,U] =
 cF 323 #[x0,x1] (λt1=>
 K t1) E:=by kernel_rfl
abbrev yzx:QD:=za7 Tryz.prog Tryz.f313.results.toList K E
abbrev yze (p:List Nat):QD -> Env -> Hp -> Prop:=den Tryz.prog (sel (za3 Tryz.f313) p)
abbrev qaa:QD:=za7 Tryz.prog Tryz.f314.results.toList K E
abbrev yzi (p:List Nat):QD -> Env -> Hp -> Prop:=den Tryz.prog (sel (za3 Tryz.f314) p)
abbrev qdu:QD:=za7 Tryz.prog Tryz.f315.results.toList K E
abbrev qcg (p:List Nat):QD -> Env -> Hp -> Prop:=den Tryz.prog (sel (za3 Tryz.f315) p)
abbrev qaz:QD:=za7 Tryz.prog Tryz.f316.results.toList K E
abbrev qct (p:List Nat):QD -> Env -> Hp -> Prop:=den Tryz.prog (sel (za3 Tryz.f316) p)
abbrev qc9:QD:=za7 Tryz.prog Tryz.f318.results.toList K E
abbrev qbt (p:List Nat):QD -> Env -> Hp -> Prop:=den Tryz.prog (sel (za3 Tryz.f318) p)
abbrev yjo:QD:=za7 Tryz.prog Tryz.f322.results.toList K E
abbrev zwp (p:List Nat):QD -> Env -> Hp -> Prop:=den Tryz.prog (sel (za3 Tryz.f322) p)
abbrev zu1:=za8 k1 (blk 0 (za8 (zwp [1,1] (yjo K E)) (yjo K E)))
def zfa (j:Nat -> Value):Env:=#[x0,x1,x2,x3,(j 4),(j 5),x6,x7,v8,(j 9),(j 10),(j 11),(j 12),(j 13),(j 14),(j 15),(j 16),(j 17),(j 18)]
theorem yxt:zwp [] (yjo K E) #[x0,x1,U,U,U,U,U,U,U,U,U,U,U,U,U,U,U,U,U] =
 pv (zac x0) λt1=>
 lp (λk1=>zwp [1,0,1,0,0] (zu1 K E k1)) (zfa x0 x1 U U x0 t1 (.int .i64 0) (jf #[U,U,U,U,(.int .i64 0)])):=by kernel_rfl
theorem zx7:zwp [1,0,1,0,0] (zu1 K E k1) (zfa x0 x1 x2 x3 x6 x7 v8 j) =
 pv (za1 .none .lss v8 x7) λt1=>
 cnd t1 (
  pv (iaV none 1 x0 v8) λt2=>
  ld false 1 t2 λt3=>
  zbq Tryz.prog x1 #[t3] (λt4=>
  cnd t4 (
  K v8) (
  pv (za1 .none .add v8 (.int .i64 1)) λt5=>
  k1 (zfa x0 x1 x2 x3 x6 x7 t5 (jf #[U,U,U,U,(j 4),v8,U,U,U,t1,v8,x1,x0,v8,t2,t3,t4,(j 17),t5])))) E) (
  K (.int .i64 (-1))):=by kernel_rfl
end
section
variable {K:zae} {E:zb2} {k1:Env -> Hp -> Prop} {σ:Type} {x0 x1 x2 x3 x6 x7 v8:Value} {h:Hp} {j:Nat -> Value}
theorem zx2 (f8:σ -> Value) (I:σ -> Hp -> Prop) (μ:σ -> Nat) (s0:σ) (e8:v8=f8 s0) (h0:h.wf -> ∃ h',h.wk h'∧I s0 h')
 (round:∀ (k1:Env -> Hp -> Prop) (s:σ) (j:Nat -> Value) (h:Hp),I s h -> h.wf -> (∀ s' j' h',μ s'<μ s -> (h'.wf -> ∃ h'',h'.wk h''∧I s' h'') -> k1 (zfa x0 x1 x2 x3 x6 x7 (f8 s') j') h') -> zwp [1,0,1,0,0] (zu1 K E k1) (zfa x0 x1 x2 x3 x6 x7 (f8 s) j) h) :
 lp (λk1=>zwp [1,0,1,0,0] (zu1 K E k1)) (zfa x0 x1 x2 x3 x6 x7 v8 j) h:=by
 subst e8;exact zaw _ I μ round s0 j h0
end
section
variable (K:zae) (E:zb2) (k1:Env -> Hp -> Prop) (x0 x1 x2 x3 x7 x8 x9 x10 x11 x28 x29 x30 x31 x32 v12:Value) (j:Nat -> Value)
abbrev ymm:QD:=za7 Tryz.prog Tryz.f323.results.toList K E
abbrev zwr (p:List Nat):QD -> Env -> Hp -> Prop:=den Tryz.prog (sel (za3 Tryz.f323) p)
abbrev zwc:=za8 k1 (blk 0 (za8 (zwr [1,1] (ymm K E)) (ymm K E)))
def zf6 (j:Nat -> Value):Env:=#[x0,x1,x2,x3,(j 4),(j 5),(j 6),x7,x8,x9,x10,x11,v12,(j 13),(j 14),(j 15),(j 16),(j 17),(j 18),(j 19),(j 20),(j 21),(j 22),(j 23),(j 24),(j 25),(j 26),(j 27),x28,x29,x30,x31,x32]
theorem yty:zwr [] (ymm K E) #[x0,x1,U,U,U,U,U,U,U,U,U,U,U,U,U,U,U,U,U,U,U,U,U,U,U,U,U,U,U,U,U,U,U] =
 pv (zac x0) λt1=>
 pv (zac x1) λt2=>
 pv (mm false t1 t2) λt3=>
 lp (λk1=>zwr [1,0,1,0,0] (zwc K E k1)) (zf6 x0 x1 U U x0 t1 x1 t2 t3 U U U U U (.int .i64 0) (jf #[U,U,U,U,(.int .i64 0)])):=by kernel_rfl
theorem zy1:zwr [1,0,1,0,0] (zwc K E k1) (zf6 x0 x1 x2 x3 x7 x8 x9 x10 x11 x28 x29 x30 x31 x32 v12 j) =
 pv (za1 .none .lss v12 x11) λt1=>
 cnd t1 (
  pv (iaV none 1 x0 v12) λt2=>
  ld false 1 t2 λt3=>
  pv (iaV none 1 x1 v12) λt4=>
  ld false 1 t4 λt5=>
  cF 335 #[t3,t5] (λt6=>
  pv (za1 .none .neq t6 (.int .i64 0)) λt7=>
  cnd t7 (
  K t6) (
  pv (za1 .none .add v12 (.int .i64 1)) λt8=>
  k1 (zf6 x0 x1 x2 x3 x7 x8 x9 x10 x11 x28 x29 x30 x31 x32 t8 (jf #[U,U,U,U,(j 4),v12,t6,U,U,U,U,U,U,t1,v12,x0,v12,t2,t3,x1,v12,t4,t5,t6,t6,t7,(j 26),t8])))) E) (
  pv (zac x0) λt9=>
  pv (zac x1) λt10=>
  cF 335 #[t9,t10] (λt11=>
  K t11) E):=by kernel_rfl
abbrev qcr:QD:=za7 Tryz.prog Tryz.f324.results.toList K E
abbrev qar (p:List Nat):QD -> Env -> Hp -> Prop:=den Tryz.prog (sel (za3 Tryz.f324) p)
abbrev yzv:QD:=za7 Tryz.prog Tryz.f325.results.toList K E
abbrev yzl (p:List Nat):QD -> Env -> Hp -> Prop:=den Tryz.prog (sel (za3 Tryz.f325) p)
abbrev yvo:QD:=za7 Tryz.prog Tryz.f335.results.toList K E
abbrev ytr (p:List Nat):QD -> Env -> Hp -> Prop:=den Tryz.prog (sel (za3 Tryz.f335) p)
theorem ytp:ytr [] (yvo K E) #[x0,x1,U,U,U,U,U,U,U,U,U,U,U,U,U,U,U,U,U,U] =
 cF 340 #[x0] (λt1=>
 cF 340 #[x1] (λt2=>
 cnd t1 (
  cnd t2 (
  K (.int .i64 0)) (
  K (.int .i64 (-1)))) (
  cnd t2 (
  K (.int .i64 1)) (
  pv (za1 .none .lss x0 x1) λt3=>
  cnd t3 (
   K (.int .i64 (-1))) (
   pv (za1 .none .gtr x0 x1) λt4=>
   cnd t4 (
   K (.int .i64 1)) (
   K (.int .i64 0)))))) E) E:=by kernel_rfl
abbrev qc7:QD:=za7 Tryz.prog Tryz.f336.results.toList K E
abbrev qbn (p:List Nat):QD -> Env -> Hp -> Prop:=den Tryz.prog (sel (za3 Tryz.f336) p)
abbrev ywp:QD:=za7 Tryz.prog Tryz.f340.results.toList K E
abbrev yvu (p:List Nat):QD -> Env -> Hp -> Prop:=den Tryz.prog (sel (za3 Tryz.f340) p)
theorem yv8:yvu [] (ywp K E) #[x0,U,U,U,U,U] =
 pv (za1 .none .neq x0 x0) λt1=>
 K t1:=by kernel_rfl
abbrev qb2:QD:=za7 Tryz.prog Tryz.f344.results.toList K E
abbrev qbm (p:List Nat):QD -> Env -> Hp -> Prop:=den Tryz.prog (sel (za3 Tryz.f344) p)
abbrev qby:QD:=za7 Tryz.prog Tryz.f348.results.toList K E
abbrev qdd (p:List Nat):QD -> Env -> Hp -> Prop:=den Tryz.prog (sel (za3 Tryz.f348) p)
end
section
variable {K:zae} {E:zb2} {k1:Env -> Hp -> Prop} {σ:Type} {x0 x1 x2 x3 x7 x8 x9 x10 x11 x28 x29 x30 x31 x32 v12:Value} {h:Hp} {j:Nat -> Value}
theorem zwt (f12:σ -> Value) (I:σ -> Hp -> Prop) (μ:σ -> Nat) (s0:σ) (e12:v12=f12 s0) (h0:h.wf -> ∃ h',h.wk h'∧I s0 h')
 (round:∀ (k1:Env -> Hp -> Prop) (s:σ) (j:Nat -> Value) (h:Hp),I s h -> h.wf -> (∀ s' j' h',μ s'<μ s -> (h'.wf -> ∃ h'',h'.wk h''∧I s' h'') -> k1 (zf6 x0 x1 x2 x3 x7 x8 x9 x10 x11 x28 x29 x30 x31 x32 (f12 s') j') h') -> zwr [1,0,1,0,0] (zwc K E k1) (zf6 x0 x1 x2 x3 x7 x8 x9 x10 x11 x28 x29 x30 x31 x32 (f12 s) j) h) :
 lp (λk1=>zwr [1,0,1,0,0] (zwc K E k1)) (zf6 x0 x1 x2 x3 x7 x8 x9 x10 x11 x28 x29 x30 x31 x32 v12 j) h:=by
 subst e12;exact zaw _ I μ round s0 j h0
end
theorem q0 (Q:QD) (x0 x1 x2:Value):den Tryz.prog (sel (za3 Tryz.f123) [0]) Q #[x0,x1,x2,undef,undef,undef,undef,undef,undef,undef,undef,undef,undef,undef,undef,undef,undef,undef,undef,undef,undef,undef,undef,undef,undef,undef,undef,undef,undef,undef,undef,undef,undef,undef,undef,undef,undef,undef,undef,undef,undef,undef,undef,undef,undef,undef,undef,undef,undef,undef,undef]=nw 93 (Value.cells x1).toList λt1=>Q .normal #[x0,x1,x2,undef,t1,undef,(.slice none 0 0),(.int .u16 0),undef,undef,undef,undef,undef,undef,undef,undef,undef,undef,undef,undef,undef,undef,undef,undef,undef,undef,undef,undef,undef,undef,undef,undef,undef,undef,undef,undef,undef,undef,undef,undef,undef,undef,undef,undef,undef,undef,undef,undef,undef,undef,undef]:=by kernel_rfl
theorem q1 (Q:QD) (x0 x1 x2 t1:Value):den Tryz.prog (sel (za3 Tryz.f123) [1,0]) Q #[x0,x1,x2,undef,t1,undef,(.slice none 0 0),(.int .u16 0),undef,undef,undef,undef,undef,undef,undef,undef,undef,undef,undef,undef,undef,undef,undef,undef,undef,undef,undef,undef,undef,undef,undef,undef,undef,undef,undef,undef,undef,undef,undef,undef,undef,undef,undef,undef,undef,undef,undef,undef,undef,undef,undef]=pv (zai x0) λt2=>pv (faV 0 t2) λt3=>ld false 1 t3 λt4=>cF 166 #[t4,x2] (λt5=>pv (exV 0 t5) λt6=>pv (exV 1 t5) λt7=>Q .normal #[x0,x1,x2,undef,t1,undef,(.slice none 0 0),(.int .u16 0),t6,t7,undef,undef,undef,t5,x0,t2,t3,t4,x2,t5,t6,t7,undef,undef,undef,undef,undef,undef,undef,undef,undef,undef,undef,undef,undef,undef,undef,undef,undef,undef,undef,undef,undef,undef,undef,undef,undef,undef,undef,undef,undef]) (λc=>Q (.panic c) #[x0,x1,x2,undef,t1,undef,(.slice none 0 0),(.int .u16 0),undef,undef,undef,undef,undef,undef,x0,t2,t3,t4,x2,undef,undef,undef,undef,undef,undef,undef,undef,undef,undef,undef,undef,undef,undef,undef,undef,undef,undef,undef,undef,undef,undef,undef,undef,undef,undef,undef,undef,undef,undef,undef,undef]):=by kernel_rfl
theorem q2 (Q:QD) (x0 x1 x2 t1 t2 t3 t4 t5 t6 t7:Value):den Tryz.prog (sel (za3 Tryz.f123) [1,1,0]) Q #[x0,x1,x2,undef,t1,undef,(.slice none 0 0),(.int .u16 0),t6,t7,undef,undef,undef,t5,x0,t2,t3,t4,x2,t5,t6,t7,undef,undef,undef,undef,undef,undef,undef,undef,undef,undef,undef,undef,undef,undef,undef,undef,undef,undef,undef,undef,undef,undef,undef,undef,undef,undef,undef,undef,undef]=cnd t7 (pv (za1 .none .add t6 (.int .i64 1)) λt8=>Q .normal #[x0,x1,x2,undef,t1,undef,(.slice none 0 0),(.int .u16 0),t8,t7,undef,undef,undef,t5,x0,t2,t3,t4,x2,t5,t6,t7,t7,t6,t8,undef,undef,undef,undef,undef,undef,undef,undef,undef,undef,undef,undef,undef,undef,undef,undef,undef,undef,undef,undef,undef,undef,undef,undef,undef,undef]) (Q .normal #[x0,x1,x2,undef,t1,undef,(.slice none 0 0),(.int .u16 0),t6,t7,undef,undef,undef,t5,x0,t2,t3,t4,x2,t5,t6,t7,t7,undef,undef,undef,undef,undef,undef,undef,undef,undef,undef,undef,undef,undef,undef,undef,undef,undef,undef,undef,undef,undef,undef,undef,undef,undef,undef,undef,undef]):=by kernel_rfl
section
variable (K:zae) (E:zb2) (k1:Env -> Hp -> Prop) (x0 x1 x2 x3 x4 x5 x6 x7 x8 x9 x10 x11 x12 x13 x14 x15 x16 x17 x18 x19 x20 x21 x22 x23 x24 x25 x26 x27 x28 x29 x30 x31 x32 x33 x34 x35 x36 x37 x38 x39 x40 x41 x42 x43 x44 x45 x46 x47 x48 x49 x50 x51 x52 x53 x54 x55 x56 x57 x58 x59 x60 x61 x62 x63 x64 x65 x66 x67 x68 x69 x70 x71 x72 x73 x74 x75 x76 x77 x78 x79 x80 x81 x82 x83 x84 x85 x86 x87 x88 x89 x90 x91 x92 x93 x94 x95 x96 x97 x98 x99 x100 x101 x102 x103 x104 x105 x106 x107 x108 x109 v3 v6 v11 v27:Value) (j:Nat -> Value)
abbrev q65:QD:=za7 Tryz.prog Tryz.f65.results.toList K E
abbrev d65 (p:List Nat):QD -> Env -> Hp -> Prop:=den Tryz.prog (sel (za3 Tryz.f65) p)
theorem t65:d65 [] (q65 K E) #[x0,U,U,U,U,U,U,U,U,U,U,U,U] =
 pv (zai x0) λt1=>
 pv (faV 0 t1) λt2=>
 ld false 1 t2 λt3=>
 pv (zac t3) λt4=>
 pv (zai x0) λt5=>
 pv (faV 1 t5) λt6=>
 ld false 1 t6 λt7=>
 pv (za1 .none .sub t4 t7) λt8=>
 K t8:=by kernel_rfl
abbrev q84:QD:=za7 Tryz.prog Tryz.f84.results.toList K E
abbrev d84 (p:List Nat):QD -> Env -> Hp -> Prop:=den Tryz.prog (sel (za3 Tryz.f84) p)
theorem t84:d84 [] (q84 K E) #[x0,U,U,U,U,U,U,U] =
 pv (za1 .slc .eql x0 (.slice none 0 0)) λt1=>
 cnd t1 (
  K (.slice none 0 0)) (
  nws 5 0 (bsC #[(.int .u8 0)] 1 0 #[]) λt2=>
  zek 5 1 1 t2 x0 λt3=>
  K t3):=by kernel_rfl
abbrev q85:QD:=za7 Tryz.prog Tryz.f85.results.toList K E
abbrev d85 (p:List Nat):QD -> Env -> Hp -> Prop:=den Tryz.prog (sel (za3 Tryz.f85) p)
theorem t85:d85 [] (q85 K E) #[x0,U,U,U,U,U,U,U,U,U,U,U] =
 pv (zai x0) λt1=>
 pv (faV 0 t1) λt2=>
 ld false 1 t2 λt3=>
 pv (zai x0) λt4=>
 pv (faV 1 t4) λt5=>
 ld false 1 t5 λt6=>
 pv (slV 1 t3 (some t6) none none) λt7=>
 K t7:=by kernel_rfl
abbrev q97:QD:=za7 Tryz.prog Tryz.f97.results.toList K E
abbrev d97 (p:List Nat):QD -> Env -> Hp -> Prop:=den Tryz.prog (sel (za3 Tryz.f97) p)
theorem t97:d97 [] (q97 K E) #[x0,x1,U,U,U,U,U,U,U,U] =
 bs x0 λt1=>
 bs x1 λt2=>
 pv (za1 .none .eql t1 t2) λt3=>
 K t3:=by kernel_rfl
abbrev yfc:QD:=za7 Tryz.prog Tryz.f116.results.toList K E
abbrev yfe (p:List Nat):QD -> Env -> Hp -> Prop:=den Tryz.prog (sel (za3 Tryz.f116) p)
theorem yya:yfe [] (yfc K E) #[x0,x1,U,U,U,U,U,U,U,U,U,U,U,U,U,U,U,U,U,U,U,U,U,U,U,U,U,U,U,U,U,U,U,U] =
 pv (za1 .none .eql x1 (.int .i64 0)) λt1=>
 cnd t1 (
  cF 162 #[x0] (λt2=>
  K (.tuple #[])) E) (
  pv (zai x0) λt3=>
  pv (faV 2 t3) λt4=>
  st 1 t4 (.int .i8 0) λ_=>
  pv (za1 .none .lss x1 (.int .i64 0)) λt5=>
  gdK t5 false (λk=>k x1) λt6=>
  gdK t5 false (λk=>k x0) λt7=>
  gdK t5 false (λk=>cF 65 #[t7] k E) λt8=>
  gdK t5 false (λk=>pv (za1 .none .gtr t6 t8) k) λt9=>
  pv (zad t5 (.bool true) t9) λt10=>
  cnd t10 (
  pv (zoa 9 (.string ⟨#[98,121,116,101,115,46,66,117,102,102,101,114,58,32,116,114,117,110,99,97,116,105,111,110,32,111,117,116,32,111,102,32,114,97,110,103,101]⟩)) λt11=>
  pnc t11 E λ_=>
  yfe [1,1,1] (yfc K E) #[x0,x1,U,U,x1,t1,U,U,x0,t3,t4,x1,t5,t5,t6,t7,t8,t9,t10,t11,U,U,U,U,U,U,U,U,U,U,U,U,U,U]) (
  yfe [1,1,1] (yfc K E) #[x0,x1,U,U,x1,t1,U,U,x0,t3,t4,x1,t5,t5,t6,t7,t8,t9,t10,U,U,U,U,U,U,U,U,U,U,U,U,U,U,U])):=by kernel_rfl
theorem ygd:yfe [1,1,1] (yfc K E) #[x0,x1,x2,x3,x4,x5,x6,x7,x8,x9,x10,x11,x12,x13,x14,x15,x16,x17,x18,x19,x20,x21,x22,x23,x24,x25,x26,x27,x28,x29,x30,x31,x32,x33] =
 pv (zai x0) λt1=>
 pv (faV 0 t1) λt2=>
 ld false 1 t2 λt3=>
 pv (zai x0) λt4=>
 pv (faV 1 t4) λt5=>
 ld false 1 t5 λt6=>
 pv (za1 .none .add t6 x1) λt7=>
 pv (slV 1 t3 none (some t7) none) λt8=>
 pv (zai x0) λt9=>
 pv (faV 0 t9) λt10=>
 st 1 t10 t8 λ_=>
 K (.tuple #[]):=by kernel_rfl
abbrev yus:QD:=za7 Tryz.prog Tryz.f162.results.toList K E
abbrev yxr (p:List Nat):QD -> Env -> Hp -> Prop:=den Tryz.prog (sel (za3 Tryz.f162) p)
theorem yyt:yxr [] (yus K E) #[x0,U,U,U,U,U,U,U,U,U,U,U,U,U,U,U] =
 pv (zai x0) λt1=>
 pv (faV 0 t1) λt2=>
 ld false 1 t2 λt3=>
 pv (slV 1 t3 none (some (.int .i64 0)) none) λt4=>
 pv (zai x0) λt5=>
 pv (faV 0 t5) λt6=>
 st 1 t6 t4 λ_=>
 pv (zai x0) λt7=>
 pv (faV 1 t7) λt8=>
 st 1 t8 (.int .i64 0) λ_=>
 pv (zai x0) λt9=>
 pv (faV 2 t9) λt10=>
 st 1 t10 (.int .i8 0) λ_=>
 K (.tuple #[]):=by kernel_rfl
abbrev zs6:QD:=za7 Tryz.prog Tryz.f200.results.toList K E
abbrev ztd (p:List Nat):QD -> Env -> Hp -> Prop:=den Tryz.prog (sel (za3 Tryz.f200) p)
theorem yx7:ztd [] (zs6 K E) #[x0,x1,U,U,U,U,U,U,U,U,U,U,U,U,U,U,U,U,U,U,U,U,U,U,U,U,U] =
 pv (za1 .none .lss x1 (.int .i64 0)) λt1=>
 cnd t1 (
  pv (zoa 9 (.string ⟨#[99,97,110,110,111,116,32,98,101,32,110,101,103,97,116,105,118,101]⟩)) λt2=>
  pnc t2 E λ_=>
  ztd [1,1] (zs6 K E) #[x0,x1,U,U,(.slice none 0 0),x1,t1,t2,U,U,U,U,U,U,U,U,U,U,U,U,U,U,U,U,U,U,U]) (
  ztd [1,1] (zs6 K E) #[x0,x1,U,U,(.slice none 0 0),x1,t1,U,U,U,U,U,U,U,U,U,U,U,U,U,U,U,U,U,U,U,U]):=by kernel_rfl
theorem ym2:ztd [1,1] (zs6 K E) #[x0,x1,x2,x3,x4,x5,x6,x7,x8,x9,x10,x11,x12,x13,x14,x15,x16,x17,x18,x19,x20,x21,x22,x23,x24,x25,x26] =
 pv (zk1 x0) λt1=>
 pv (zac x0) λt2=>
 pv (za1 .none .sub t1 t2) λt3=>
 pv (za1 .none .sub x1 t3) λt4=>
 pv (za1 .none .gtr t4 (.int .i64 0)) λt5=>
 cnd t5 (
  pv (zk1 x0) λt6=>
  pv (slV 1 x0 none (some t6) none) λt7=>
  zq1 5 [(.int .u8 0)] 1 1 t7 t4 λt8=>
  pv (zac x0) λt9=>
  pv (slV 1 t8 none (some t9) none) λt10=>
  ztd [1,1,1] (zs6 K E) #[t10,t4,x2,x3,x4,x5,x6,x7,x1,x0,t1,x0,t2,t3,t4,t4,t5,x0,x0,t6,t7,t4,t8,x0,t9,t10,x26]) (
  ztd [1,1,1] (zs6 K E) #[x0,t4,x2,x3,x4,x5,x6,x7,x1,x0,t1,x0,t2,t3,t4,t4,t5,x17,x18,x19,x20,x21,x22,x23,x24,x25,x26]):=by kernel_rfl
theorem zuy:ztd [1,1,1] (zs6 K E) #[x0,x1,x2,x3,x4,x5,x6,x7,x8,x9,x10,x11,x12,x13,x14,x15,x16,x17,x18,x19,x20,x21,x22,x23,x24,x25,x26] =
 K x0:=by kernel_rfl
abbrev yg7:QD:=za7 Tryz.prog Tryz.f204.results.toList K E
abbrev yf4 (p:List Nat):QD -> Env -> Hp -> Prop:=den Tryz.prog (sel (za3 Tryz.f204) p)
theorem yxv:yf4 [] (yg7 K E) #[x0,x1,U,U,U,U,U,U,U,U,U,U,U,U,U,U,U,U,U,U,U,U,U,U,U,U,U,U,U,U,U,U] =
 pv (zai x0) λt1=>
 pv (faV 2 t1) λt2=>
 st 1 t2 (.int .i8 0) λ_=>
 pv (zac x1) λt3=>
 cF 264 #[x0,t3] (λt4=>
 pv (exV 0 t4) λt5=>
 pv (exV 1 t4) λt6=>
 pv (unV .not t6) λt7=>
 cnd t7 (
  pv (zac x1) λt8=>
  cF 265 #[x0,t8] (λt9=>
  yf4 [1,1,1,1] (yg7 K E) #[x0,x1,U,U,(.int .i64 0),.nilIface,t9,t6,x0,t1,t2,t4,x0,x1,t3,t4,t5,t6,t6,t7,x0,x1,t8,t9,U,U,U,U,U,U,U,U]) E) (
  yf4 [1,1,1,1] (yg7 K E) #[x0,x1,U,U,(.int .i64 0),.nilIface,t5,t6,x0,t1,t2,t4,x0,x1,t3,t4,t5,t6,t6,t7,U,U,U,U,U,U,U,U,U,U,U,U])) E:=by kernel_rfl
theorem zph:yf4 [1,1,1,1] (yg7 K E) #[x0,x1,x2,x3,x4,x5,x6,x7,x8,x9,x10,x11,x12,x13,x14,x15,x16,x17,x18,x19,x20,x21,x22,x23,x24,x25,x26,x27,x28,x29,x30,x31] =
 pv (zai x0) λt1=>
 pv (faV 0 t1) λt2=>
 ld false 1 t2 λt3=>
 pv (slV 1 t3 (some x6) none none) λt4=>
 cpy 1 t4 x1 λt5=>
 K (.tuple #[t5,.nilIface]):=by kernel_rfl
abbrev ytd:QD:=za7 Tryz.prog Tryz.f245.results.toList K E
abbrev yte (p:List Nat):QD -> Env -> Hp -> Prop:=den Tryz.prog (sel (za3 Tryz.f245) p)
theorem yws:yte [] (ytd K E) #[x0,U,U,U,U,U,U,U] =
 pv (za1 .slc .eql x0 (.slice none 0 0)) λt1=>
 cnd t1 (
  K (.slice none 0 0)) (
  nws 5 0 (bsC #[(.int .u8 0)] 1 0 #[]) λt2=>
  zek 5 1 1 t2 x0 λt3=>
  K t3):=by kernel_rfl
abbrev yer:QD:=za7 Tryz.prog Tryz.f262.results.toList K E
abbrev yfm (p:List Nat):QD -> Env -> Hp -> Prop:=den Tryz.prog (sel (za3 Tryz.f262) p)
theorem yur:yfm [] (yer K E) #[x0,x1,U,U,U,U,U,U,U,U,U,U,U,U,U,U,U,U,U,U,U,U,U,U,U,U] =
 pv (zai x0) λt1=>
 pv (faV 2 t1) λt2=>
 st 1 t2 (.int .i8 0) λ_=>
 cF 264 #[x0,(.int .i64 1)] (λt3=>
 pv (exV 0 t3) λt4=>
 pv (exV 1 t3) λt5=>
 pv (unV .not t5) λt6=>
 cnd t6 (
  cF 265 #[x0,(.int .i64 1)] (λt7=>
  yfm [1,1,1,1] (yer K E) #[x0,x1,U,U,.nilIface,t7,t5,x0,t1,t2,t3,x0,t3,t4,t5,t5,t6,x0,t7,U,U,U,U,U,U,U]) E) (
  yfm [1,1,1,1] (yer K E) #[x0,x1,U,U,.nilIface,t4,t5,x0,t1,t2,t3,x0,t3,t4,t5,t5,t6,U,U,U,U,U,U,U,U,U])) E:=by kernel_rfl
theorem zq5:yfm [1,1,1,1] (yer K E) #[x0,x1,x2,x3,x4,x5,x6,x7,x8,x9,x10,x11,x12,x13,x14,x15,x16,x17,x18,x19,x20,x21,x22,x23,x24,x25] =
 pv (zai x0) λt1=>
 pv (faV 0 t1) λt2=>
 ld false 1 t2 λt3=>
 pv (iaV none 1 t3 x5) λt4=>
 st 1 t4 x1 λ_=>
 K .nilIface:=by kernel_rfl
abbrev ywc:QD:=za7 Tryz.prog Tryz.f264.results.toList K E
abbrev yuu (p:List Nat):QD -> Env -> Hp -> Prop:=den Tryz.prog (sel (za3 Tryz.f264) p)
theorem yqx:yuu [] (ywc K E) #[x0,x1,U,U,U,U,U,U,U,U,U,U,U,U,U,U,U,U,U,U,U,U,U,U,U,U,U,U,U,U,U,U,U] =
 pv (zai x0) λt1=>
 pv (faV 0 t1) λt2=>
 ld false 1 t2 λt3=>
 pv (zac t3) λt4=>
 pv (zai x0) λt5=>
 pv (faV 0 t5) λt6=>
 ld false 1 t6 λt7=>
 pv (zk1 t7) λt8=>
 pv (za1 .none .sub t8 t4) λt9=>
 pv (za1 .none .leq x1 t9) λt10=>
 cnd t10 (
  pv (zai x0) λt11=>
  pv (faV 0 t11) λt12=>
  ld false 1 t12 λt13=>
  pv (za1 .none .add t4 x1) λt14=>
  pv (slV 1 t13 none (some t14) none) λt15=>
  pv (zai x0) λt16=>
  pv (faV 0 t16) λt17=>
  st 1 t17 t15 λ_=>
  K (.tuple #[t4,(.bool true)])) (
  K (.tuple #[(.int .i64 0),(.bool false)])):=by kernel_rfl
abbrev zqa:QD:=za7 Tryz.prog Tryz.f265.results.toList K E
abbrev zpi (p:List Nat):QD -> Env -> Hp -> Prop:=den Tryz.prog (sel (za3 Tryz.f265) p)
theorem yys:zpi [] (zqa K E) #[x0,x1,U,U,U,U,U,U,U,U,U,U,U,U,U,U,U,U,U,U,U,U,U,U,U,U,U,U,U,U,U,U,U,U,U,U,U,U,U,U,U,U,U,U,U,U,U,U,U,U,U,U,U,U,U,U,U,U,U,U,U,U,U,U,U,U,U,U,U,U,U,U,U,U,U,U,U,U,U,U,U,U,U,U,U,U,U,U,U,U,U,U,U,U,U,U,U,U,U,U,U,U,U,U,U,U,U,U,U,U] =
 cF 65 #[x0] (λt1=>
 pv (za1 .none .eql t1 (.int .i64 0)) λt2=>
 gdK t2 true (λk=>k x0) λt3=>
 gdK t2 true (λk=>pv (zai t3) k) λt4=>
 gdK t2 true (λk=>pv (faV 1 t4) k) λt5=>
 gdK t2 true (λk=>ld false 1 t5 k) λt6=>
 gdK t2 true (λk=>pv (za1 .none .neq t6 (.int .i64 0)) k) λt7=>
 pv (zad t2 t7 (.bool false)) λt8=>
 cnd t8 (
  cF 162 #[x0] (λt9=>
  zpi [1,1,1] (zqa K E) #[x0,x1,U,U,(.int .i64 0),t1,U,U,U,x0,t1,t1,t2,t2,t3,t4,t5,t6,t7,t8,x0,t9,U,U,U,U,U,U,U,U,U,U,U,U,U,U,U,U,U,U,U,U,U,U,U,U,U,U,U,U,U,U,U,U,U,U,U,U,U,U,U,U,U,U,U,U,U,U,U,U,U,U,U,U,U,U,U,U,U,U,U,U,U,U,U,U,U,U,U,U,U,U,U,U,U,U,U,U,U,U,U,U,U,U,U,U,U,U,U,U]) E) (
  zpi [1,1,1] (zqa K E) #[x0,x1,U,U,(.int .i64 0),t1,U,U,U,x0,t1,t1,t2,t2,t3,t4,t5,t6,t7,t8,U,U,U,U,U,U,U,U,U,U,U,U,U,U,U,U,U,U,U,U,U,U,U,U,U,U,U,U,U,U,U,U,U,U,U,U,U,U,U,U,U,U,U,U,U,U,U,U,U,U,U,U,U,U,U,U,U,U,U,U,U,U,U,U,U,U,U,U,U,U,U,U,U,U,U,U,U,U,U,U,U,U,U,U,U,U,U,U,U,U])) E:=by kernel_rfl
theorem yfu:zpi [1,1,1] (zqa K E) #[x0,x1,x2,x3,x4,x5,x6,x7,x8,x9,x10,x11,x12,x13,x14,x15,x16,x17,x18,x19,x20,x21,x22,x23,x24,x25,x26,x27,x28,x29,x30,x31,x32,x33,x34,x35,x36,x37,x38,x39,x40,x41,x42,x43,x44,x45,x46,x47,x48,x49,x50,x51,x52,x53,x54,x55,x56,x57,x58,x59,x60,x61,x62,x63,x64,x65,x66,x67,x68,x69,x70,x71,x72,x73,x74,x75,x76,x77,x78,x79,x80,x81,x82,x83,x84,x85,x86,x87,x88,x89,x90,x91,x92,x93,x94,x95,x96,x97,x98,x99,x100,x101,x102,x103,x104,x105,x106,x107,x108,x109] =
 cF 264 #[x0,x1] (λt1=>
 pv (exV 0 t1) λt2=>
 pv (exV 1 t1) λt3=>
 cnd t3 (
  K t2) (
  pv (zai x0) λt4=>
  pv (faV 0 t4) λt5=>
  ld false 1 t5 λt6=>
  pv (za1 .slc .eql t6 (.slice none 0 0)) λt7=>
  gdK t7 true (λk=>k x1) λt8=>
  gdK t7 true (λk=>pv (za1 .none .leq t8 (.int .i64 64)) k) λt9=>
  pv (zad t7 t9 (.bool false)) λt10=>
  cnd t10 (
  mks 5 [(.int .u8 0)] 1 1 x1 (.int .i64 64) λt11=>
  pv (zai x0) λt12=>
  pv (faV 0 t12) λt13=>
  st 1 t13 t11 λ_=>
  K (.int .i64 0)) (
  pv (zai x0) λt14=>
  pv (faV 0 t14) λt15=>
  ld false 1 t15 λt16=>
  pv (zk1 t16) λt17=>
  pv (za1 .none .quo t17 (.int .i64 2)) λt18=>
  pv (za1 .none .sub t18 x5) λt19=>
  pv (za1 .none .leq x1 t19) λt20=>
  cnd t20 (
   pv (zai x0) λt21=>
   pv (faV 0 t21) λt22=>
   ld false 1 t22 λt23=>
   pv (zai x0) λt24=>
   pv (faV 0 t24) λt25=>
   ld false 1 t25 λt26=>
   pv (zai x0) λt27=>
   pv (faV 1 t27) λt28=>
   ld false 1 t28 λt29=>
   pv (slV 1 t26 (some t29) none none) λt30=>
   cpy 1 t23 t30 λt31=>
   zpi [1,1,1,1,1,1,1] (zqa K E) #[x0,x1,x2,x3,x4,x5,t2,t3,t17,x9,x10,x11,x12,x13,x14,x15,x16,x17,x18,x19,x20,x21,t1,x0,x1,t1,t2,t3,t3,x29,x0,t4,t5,t6,t7,t7,t8,t9,t10,x39,x40,x41,x42,x43,x0,t14,t15,t16,t17,x1,t17,t18,x5,t19,t20,x0,t21,t22,t23,x0,t24,t25,t26,x0,t27,t28,t29,t30,t31,x69,x70,x71,x72,x73,x74,x75,x76,x77,x78,x79,x80,x81,x82,x83,x84,x85,x86,x87,x88,x89,x90,x91,x92,x93,x94,x95,x96,x97,x98,x99,x100,x101,x102,x103,x104,x105,x106,x107,x108,x109]) (
   pv (za1 .none .sub (.int .i64 9223372036854775807) t17) λt32=>
   pv (za1 .none .sub t32 x1) λt33=>
   pv (za1 .none .gtr t17 t33) λt34=>
   cnd t34 (
   ld false 1 (.pointer (some ⟨0,0,none⟩)) λt35=>
   pnc t35 E λ_=>
   zpi [1,1,1,1,1,1,1] (zqa K E) #[x0,x1,x2,x3,x4,x5,t2,t3,t17,x9,x10,x11,x12,x13,x14,x15,x16,x17,x18,x19,x20,x21,t1,x0,x1,t1,t2,t3,t3,x29,x0,t4,t5,t6,t7,t7,t8,t9,t10,x39,x40,x41,x42,x43,x0,t14,t15,t16,t17,x1,t17,t18,x5,t19,t20,x55,x56,x57,x58,x59,x60,x61,x62,x63,x64,x65,x66,x67,x68,t17,t17,t32,x1,t33,t34,t35,x76,x77,x78,x79,x80,x81,x82,x83,x84,x85,x86,x87,x88,x89,x90,x91,x92,x93,x94,x95,x96,x97,x98,x99,x100,x101,x102,x103,x104,x105,x106,x107,x108,x109]) (
   pv (zai x0) λt36=>
   pv (faV 0 t36) λt37=>
   ld false 1 t37 λt38=>
   pv (zai x0) λt39=>
   pv (faV 1 t39) λt40=>
   ld false 1 t40 λt41=>
   pv (slV 1 t38 (some t41) none none) λt42=>
   pv (zai x0) λt43=>
   pv (faV 1 t43) λt44=>
   ld false 1 t44 λt45=>
   pv (za1 .none .add t45 x1) λt46=>
   cF 303 #[t42,t46] (λt47=>
   pv (zai x0) λt48=>
   pv (faV 0 t48) λt49=>
   st 1 t49 t47 λ_=>
   zpi [1,1,1,1,1,1,1] (zqa K E) #[x0,x1,x2,x3,x4,x5,t2,t3,t17,x9,x10,x11,x12,x13,x14,x15,x16,x17,x18,x19,x20,x21,t1,x0,x1,t1,t2,t3,t3,x29,x0,t4,t5,t6,t7,t7,t8,t9,t10,x39,x40,x41,x42,x43,x0,t14,t15,t16,t17,x1,t17,t18,x5,t19,t20,x55,x56,x57,x58,x59,x60,x61,x62,x63,x64,x65,x66,x67,x68,t17,t17,t32,x1,t33,t34,x75,x0,x0,t36,t37,t38,x0,t39,t40,t41,t42,x0,t43,t44,t45,x1,t46,t47,t48,t49,x95,x96,x97,x98,x99,x100,x101,x102,x103,x104,x105,x106,x107,x108,x109]) E))))) E:=by kernel_rfl
theorem zpx:zpi [1,1,1,1,1,1,1] (zqa K E) #[x0,x1,x2,x3,x4,x5,x6,x7,x8,x9,x10,x11,x12,x13,x14,x15,x16,x17,x18,x19,x20,x21,x22,x23,x24,x25,x26,x27,x28,x29,x30,x31,x32,x33,x34,x35,x36,x37,x38,x39,x40,x41,x42,x43,x44,x45,x46,x47,x48,x49,x50,x51,x52,x53,x54,x55,x56,x57,x58,x59,x60,x61,x62,x63,x64,x65,x66,x67,x68,x69,x70,x71,x72,x73,x74,x75,x76,x77,x78,x79,x80,x81,x82,x83,x84,x85,x86,x87,x88,x89,x90,x91,x92,x93,x94,x95,x96,x97,x98,x99,x100,x101,x102,x103,x104,x105,x106,x107,x108,x109] =
 pv (zai x0) λt1=>
 pv (faV 1 t1) λt2=>
 st 1 t2 (.int .i64 0) λ_=>
 pv (zai x0) λt3=>
 pv (faV 0 t3) λt4=>
 ld false 1 t4 λt5=>
 pv (za1 .none .add x5 x1) λt6=>
 pv (slV 1 t5 none (some t6) none) λt7=>
 pv (zai x0) λt8=>
 pv (faV 0 t8) λt9=>
 st 1 t9 t7 λ_=>
 K x5:=by kernel_rfl
abbrev yae:QD:=za7 Tryz.prog Tryz.f141.results.toList K E
abbrev zjb (p:List Nat):QD -> Env -> Hp -> Prop:=den Tryz.prog (sel (za3 Tryz.f141) p)
abbrev zw9:=za8 k1 (blk 2 (za8 (zjb [1,1,1,1,1] (yae K E)) (yae K E)))
abbrev zlc:=za8 k1 (blk 0 (za8 (zjb [1,1,1] (yae K E)) (yae K E)))
def zdy (j:Nat -> Value):Env:=#[x0,x1,x2,v3,x4,(j 5),x6,x7,x8,x9,x10,v11,(j 12),(j 13),(j 14),(j 15),(j 16),(j 17),(j 18),(j 19),(j 20),(j 21),(j 22),x23,x24,x25,x26,x27,x28,x29,x30,x31,x32,x33,x34,x35]
def zcw (j:Nat -> Value):Env:=#[x0,x1,x2,x3,x4,x5,v6,x7,(j 8),x9,x10,x11,x12,x13,x14,x15,x16,x17,x18,x19,x20,x21,x22,x23,x24,x25,x26,v27,(j 28),(j 29),(j 30),(j 31),(j 32),(j 33),(j 34),x35]
theorem yua:zjb [] (yae K E) #[x0,U,U,U,U,U,U,U,U,U,U,U,U,U,U,U,U,U,U,U,U,U,U,U,U,U,U,U,U,U,U,U,U,U,U,U] =
 pv (zac x0) λt1=>
 lp (λk1=>zjb [1,1,0,1,0,0] (zlc K E k1)) (zdy x0 U (.slice none 0 0) U U U U x0 t1 U U U U U U U U U U U U U (.int .i64 0) (.int .i64 0) (jf #[])):=by kernel_rfl
theorem zt4:zjb [1,1,0,1,0,0] (zlc K E k1) (zdy x0 x1 x2 x4 x6 x7 x8 x9 x10 x23 x24 x25 x26 x27 x28 x29 x30 x31 x32 x33 x34 x35 v3 v11 j) =
 pv (za1 .none .lss v11 x10) λt1=>
 cnd t1 (
  pv (iaV none 1 x9 v11) λt2=>
  ld false 1 t2 λt3=>
  pv (zac t3) λt4=>
  pv (za1 .none .add v3 t4) λt5=>
  pv (za1 .none .lss t5 (.int .i64 0)) λt6=>
  cnd t6 (
  pv (zoa 9 (.string ⟨#[108,101,110,32,111,117,116,32,111,102,32,114,97,110,103,101]⟩)) λt7=>
  pnc t7 E λ_=>
  zjb [1,1,0,1,0,0,1,1,1] (zlc K E k1) #[x0,x1,x2,t5,x4,t3,x6,x7,x8,x9,x10,v11,t1,t2,t3,v3,t3,t4,t5,t5,t6,t7,(j 22),x23,x24,x25,x26,x27,x28,x29,x30,x31,x32,x33,x34,x35]) (
  zjb [1,1,0,1,0,0,1,1,1] (zlc K E k1) #[x0,x1,x2,t5,x4,t3,x6,x7,x8,x9,x10,v11,t1,t2,t3,v3,t3,t4,t5,t5,t6,(j 21),(j 22),x23,x24,x25,x26,x27,x28,x29,x30,x31,x32,x33,x34,x35])) (
  cF 200 #[(.slice none 0 0),v3] (λt8=>
  pv (zac x0) λt9=>
  lp (λk1=>zjb [1,1,1,1,0,1,0,0] (zw9 K E k1)) (zcw x0 x1 x2 v3 x4 (j 5) x7 x9 x10 v11 t1 (j 13) (j 14) (j 15) (j 16) (j 17) (j 18) (j 19) (j 20) (j 21) (j 22) v3 t8 x0 t9 x35 t8 (.int .i64 0) (jf #[U,U,U,U,U,U,U,U,x8,U,U,U,U,U,U,U,U,U,U,U,U,U,U,U,U,U,U,U,x28,x29,x30,x31,x32,x33,x34]))) E):=by kernel_rfl
theorem zmt:zjb [1,1,0,1,0,0,1,1,1] (zlc K E k1) #[x0,x1,x2,x3,x4,x5,x6,x7,x8,x9,x10,x11,x12,x13,x14,x15,x16,x17,x18,x19,x20,x21,x22,x23,x24,x25,x26,x27,x28,x29,x30,x31,x32,x33,x34,x35] =
 pv (za1 .none .add x11 (.int .i64 1)) λt1=>
 k1 (zdy x0 x1 x2 x4 x6 x7 x8 x9 x10 x23 x24 x25 x26 x27 x28 x29 x30 x31 x32 x33 x34 x35 x3 t1 (jf #[U,U,U,U,U,x5,U,U,U,U,U,U,x12,x13,x14,x15,x16,x17,x18,x19,x20,x21,t1])):=by kernel_rfl
theorem zoz:zjb [1,1,1,1,0,1,0,0] (zw9 K E k1) (zcw x0 x1 x2 x3 x4 x5 x7 x9 x10 x11 x12 x13 x14 x15 x16 x17 x18 x19 x20 x21 x22 x23 x24 x25 x26 x35 v6 v27 j) =
 pv (za1 .none .lss v27 x26) λt1=>
 cnd t1 (
  pv (iaV none 1 x25 v27) λt2=>
  ld false 1 t2 λt3=>
  zek 5 1 1 v6 t3 λt4=>
  pv (za1 .none .add v27 (.int .i64 1)) λt5=>
  k1 (zcw x0 x1 x2 x3 x4 x5 x7 x9 x10 x11 x12 x13 x14 x15 x16 x17 x18 x19 x20 x21 x22 x23 x24 x25 x26 x35 t4 t5 (jf #[U,U,U,U,U,U,U,U,t3,U,U,U,U,U,U,U,U,U,U,U,U,U,U,U,U,U,U,U,t1,t2,t3,v6,t3,t4,t5]))) (
  K v6):=by kernel_rfl
end
section
variable {K:zae} {E:zb2} {k1:Env -> Hp -> Prop} {σ:Type} {x0 x1 x2 x3 x4 x5 x6 x7 x8 x9 x10 x11 x12 x13 x14 x15 x16 x17 x18 x19 x20 x21 x22 x23 x24 x25 x26 x27 x28 x29 x30 x31 x32 x33 x34 x35 v3 v6 v11 v27:Value} {h:Hp} {j:Nat -> Value}
theorem ztb (f3 f11:σ -> Value) (I:σ -> Hp -> Prop) (μ:σ -> Nat) (s0:σ) (e3:v3=f3 s0) (e11:v11=f11 s0) (h0:h.wf -> ∃ h',h.wk h'∧I s0 h')
 (round:∀ (k1:Env -> Hp -> Prop) (s:σ) (j:Nat -> Value) (h:Hp),I s h -> h.wf -> (∀ s' j' h',μ s'<μ s -> (h'.wf -> ∃ h'',h'.wk h''∧I s' h'') -> k1 (zdy x0 x1 x2 x4 x6 x7 x8 x9 x10 x23 x24 x25 x26 x27 x28 x29 x30 x31 x32 x33 x34 x35 (f3 s') (f11 s') j') h') -> zjb [1,1,0,1,0,0] (zlc K E k1) (zdy x0 x1 x2 x4 x6 x7 x8 x9 x10 x23 x24 x25 x26 x27 x28 x29 x30 x31 x32 x33 x34 x35 (f3 s) (f11 s) j) h) :
 lp (λk1=>zjb [1,1,0,1,0,0] (zlc K E k1)) (zdy x0 x1 x2 x4 x6 x7 x8 x9 x10 x23 x24 x25 x26 x27 x28 x29 x30 x31 x32 x33 x34 x35 v3 v11 j) h:=by
 subst e3;subst e11;exact zaw _ I μ round s0 j h0
theorem zot (f6 f27:σ -> Value) (I:σ -> Hp -> Prop) (μ:σ -> Nat) (s0:σ) (e6:v6=f6 s0) (e27:v27=f27 s0) (h0:h.wf -> ∃ h',h.wk h'∧I s0 h')
 (round:∀ (k1:Env -> Hp -> Prop) (s:σ) (j:Nat -> Value) (h:Hp),I s h -> h.wf -> (∀ s' j' h',μ s'<μ s -> (h'.wf -> ∃ h'',h'.wk h''∧I s' h'') -> k1 (zcw x0 x1 x2 x3 x4 x5 x7 x9 x10 x11 x12 x13 x14 x15 x16 x17 x18 x19 x20 x21 x22 x23 x24 x25 x26 x35 (f6 s') (f27 s') j') h') -> zjb [1,1,1,1,0,1,0,0] (zw9 K E k1) (zcw x0 x1 x2 x3 x4 x5 x7 x9 x10 x11 x12 x13 x14 x15 x16 x17 x18 x19 x20 x21 x22 x23 x24 x25 x26 x35 (f6 s) (f27 s) j) h) :
 lp (λk1=>zjb [1,1,1,1,0,1,0,0] (zw9 K E k1)) (zcw x0 x1 x2 x3 x4 x5 x7 x9 x10 x11 x12 x13 x14 x15 x16 x17 x18 x19 x20 x21 x22 x23 x24 x25 x26 x35 v6 v27 j) h:=by
 subst e6;subst e27;exact zaw _ I μ round s0 j h0
end
theorem yrv (Q:QD) (x0 x1 x2 x3 x4 x5 x6 x7 x8 x9 x10 x11 x12 x13 x14 x15 x16 x17 x18 x19 x20 x21 x22 x23 x24 x25 x26 x27:Value):den Tryz.prog (sel (za3 Tryz.f303) [0]) Q #[x0,x1,x2,x3,x4,x5,x6,x7,x8,x9,x10,x11,x12,x13,x14,x15,x16,x17,x18,x19,x20,x21,x22,x23,x24,x25,x26,x27] =
 Q .normal #[x0,x1,x2,x3,(.slice none 0 0),x5,x6,x7,x8,x9,x10,x11,x12,x13,x14,x15,x16,x17,x18,x19,x20,x21,x22,x23,x24,x25,x26,x27]:=by kernel_rfl
theorem ykz (R:FuncId -> Array Value -> Array Value -> Env -> Hp -> Prop) (E:Env -> zb2) (x0 x1 x2 x3 x4 x5 x6 x7 x8 x9 x10 x11 x12 x13 x14 x15 x16 x17 x18 x19 x20 x21 x22 x23 x24 x25 x26 x27:Value):zj2 Tryz.prog (zgr (sel (za3 Tryz.f303) [1,0])) R E (zgr (sel (za3 Tryz.f303) [1,0])).toList #[x0,x1,x2,x3,x4,x5,x6,x7,x8,x9,x10,x11,x12,x13,x14,x15,x16,x17,x18,x19,x20,x21,x22,x23,x24,x25,x26,x27] =
 dfr (.func (.func 321) #[] #[]) (λg f c=>R g f c #[x0,x1,x2,x3,x4,x5,x6,x7,x8,x9,x10,x11,x12,x13,x14,x15,x16,x17,x18,x19,x20,x21,x22,x23,x24,x25,x26,x27]):=by kernel_rfl
theorem yjv (Q:QD) (x0 x1 x2 x3 x4 x5 x6 x7 x8 x9 x10 x11 x12 x13 x14 x15 x16 x17 x18 x19 x20 x21 x22 x23 x24 x25 x26 x27:Value):den Tryz.prog (sel (za3 Tryz.f303) [1,1]) Q #[x0,x1,x2,x3,x4,x5,x6,x7,x8,x9,x10,x11,x12,x13,x14,x15,x16,x17,x18,x19,x20,x21,x22,x23,x24,x25,x26,x27] =
 pv (zac x0) λt1=>
 pv (za1 .none .add t1 x1) λt2=>
 pv (zk1 x0) λt3=>
 pv (za1 .none .mul (.int .i64 2) t3) λt4=>
 pv (za1 .none .lss t2 t4) λt5=>
 cnd t5 (
  pv (zk1 x0) λt6=>
  pv (za1 .none .mul (.int .i64 2) t6) λt7=>
  zq1 5 [(.int .u8 0)] 1 1 (.slice none 0 0) t7 λt8=>
  cpy 1 t8 x0 λt9=>
  pv (slV 1 t8 none (some t9) none) λt10=>
  Q .ret #[x0,x1,x2,x3,t10,t7,t8,t9,x0,t1,x1,t2,t2,x0,t3,t4,t5,x0,t6,t7,t7,t8,t8,x0,t9,t8,t9,t10]) (
  zq1 5 [(.int .u8 0)] 1 1 (.slice none 0 0) t2 λt11=>
  cpy 1 t11 x0 λt12=>
  pv (slV 1 t11 none (some t12) none) λt13=>
  Q .ret #[x0,x1,x2,x3,t13,t2,t11,t12,x0,t1,x1,t2,t2,x0,t3,t4,t5,x17,x18,x19,t2,t11,t11,x0,t12,t11,t12,t13]):=by kernel_rfl
theorem yre (Q:QD) (x0 x1 x2 x3 x4 x5 x6 x7 x8 x9 x10:Value):den Tryz.prog (sel (za3 Tryz.f137) [0]) Q #[x0,x1,x2,x3,x4,x5,x6,x7,x8,x9,x10] =
 nw 77 [(.int .u8 0),(.int .u32 0),(.int .u32 0),(.slice none 0 0),(.slice none 0 0),(.int .u32 0),(.slice none 0 0),(.int .i64 0),(.int .i64 0),(.slice none 0 0)] λt1=>
 nw 4 [(.bool false)] λt2=>
 Q .normal #[x0,x1,t1,t2,x4,x5,x6,x7,x8,x9,x10]:=by kernel_rfl
theorem yjh (R:FuncId -> Array Value -> Array Value -> Env -> Hp -> Prop) (E:Env -> zb2) (x0 x1 x2 x3 x4 x5 x6 x7 x8 x9 x10:Value):zj2 Tryz.prog (zgr (sel (za3 Tryz.f137) [1,0])) R E (zgr (sel (za3 Tryz.f137) [1,0])).toList #[x0,x1,x2,x3,x4,x5,x6,x7,x8,x9,x10] =
 dfr (.func (.func 190) #[] #[x2,x3]) (λg f c=>R g f c #[x0,x1,x2,x3,x4,(.func (.func 190) #[] #[x2,x3]),x6,x7,x8,x9,x10]):=by kernel_rfl
theorem ykx (Q:QD) (x0 x1 x2 x3 x4 x5 x6 x7 x8 x9 x10:Value):den Tryz.prog (sel (za3 Tryz.f137) [1,1]) Q #[x0,x1,x2,x3,x4,x5,x6,x7,x8,x9,x10] =
 pv (bdC #[(.slice none 0 0)] [(0,1)] #[(0,x0)]) λt1=>
 nw 289 (Value.cells t1).toList λt2=>
 cF 191 #[t2] (λt3=>
 st 10 x2 t3 λ_=>
 st 1 x3 (.bool true) λ_=>
 Q .ret #[x0,x1,x2,x3,t2,x5,x0,t1,t2,t2,t3]) (λc=>Q (.panic c) #[x0,x1,x2,x3,t2,x5,x0,t1,t2,t2,x10]):=by kernel_rfl
section
variable (K:zae) (E:zb2) (k1 k2:Env -> Hp -> Prop) (x0 x1 x2 x3 x4 x5 x6 x7 x8 x9 x10 x11 x12 x13 x14 x15 x16 x17 x18 x19 x20 x21 x22 x23 x24 x25 x26 x27 x28 x29 x30 x31 x32 x33 x34 x35 x36 x37 x38 x39 x40 x41 x42 x43 x44 x45 x46 x47 x48 x49 x50 x51 x52 x53 x54 x55 x56 x57 x58 x59 x60 x61 x62 x63 x64 x65 x66 x67 x68 x69 x70 x71 x72 x73 x74 x75 x76 x77 x78 x79 x80 x81 x82 x83 x84 x85 x86 x87 x88 x89 x90 v3 v5 v7 v8 v10 v11 v12 v14 v24 v26 v27 v59:Value) (j:Nat -> Value)
abbrev q95:QD:=za7 Tryz.prog Tryz.f95.results.toList K E
abbrev d95 (p:List Nat):QD -> Env -> Hp -> Prop:=den Tryz.prog (sel (za3 Tryz.f95) p)
theorem t95:d95 [] (q95 K E) #[x0,U,U,U,U,U,U,U,U,U,U,U,U,U,U,U,U,U,U,U,U,U,U,U,U,U,U,U,U,U,U,U,U,U,U] =
 nw 77 [(.int .u8 0),(.int .u32 0),(.int .u32 0),(.slice none 0 0),(.slice none 0 0),(.int .u32 0),(.slice none 0 0),(.int .i64 0),(.int .i64 0),(.slice none 0 0)] λt1=>
 pv (zac x0) λt2=>
 pv (za1 .none .gtr t2 (.int .i64 60000)) λt3=>
 cnd t3 (
  pv (bdC #[(.int .u8 0),(.int .u32 0),(.int .u32 0),(.slice none 0 0),(.slice none 0 0),(.int .u32 0),(.slice none 0 0),(.int .i64 0),(.int .i64 0),(.slice none 0 0)] [(0,1),(1,1),(2,1),(3,1),(4,1),(5,2),(7,1),(8,1),(9,1)] #[]) λt4=>
  st 10 t1 t4 λ_=>
  ld true 10 t1 λt5=>
  K (.tuple #[t5,(.int .u16 3)])) (
  cF 137 #[x0] (λt6=>
  pv (exV 0 t6) λt7=>
  pv (exV 1 t6) λt8=>
  nw 77 [(.int .u8 0),(.int .u32 0),(.int .u32 0),(.slice none 0 0),(.slice none 0 0),(.int .u32 0),(.slice none 0 0),(.int .i64 0),(.int .i64 0),(.slice none 0 0)] λt9=>
  st 10 t9 t7 λ_=>
  pv (unV .not t8) λt10=>
  cnd t10 (
  pv (bdC #[(.int .u8 0),(.int .u32 0),(.int .u32 0),(.slice none 0 0),(.slice none 0 0),(.int .u32 0),(.slice none 0 0),(.int .i64 0),(.int .i64 0),(.slice none 0 0)] [(0,1),(1,1),(2,1),(3,1),(4,1),(5,2),(7,1),(8,1),(9,1)] #[]) λt11=>
  st 10 t1 t11 λ_=>
  ld true 10 t1 λt12=>
  K (.tuple #[t12,(.int .u16 70)])) (
  ld true 10 t9 λt13=>
  cF 138 #[t13] (λt14=>
  pv (exV 0 t14) λt15=>
  pv (exV 1 t14) λt16=>
  pv (za1 .none .neq t16 (.int .u16 0)) λt17=>
  gdK t17 false (λk=>k t15) λt18=>
  gdK t17 false (λk=>k x0) λt19=>
  gdK t17 false (λk=>cF 97 #[t18,t19] k E) λt20=>
  gdK t17 false (λk=>pv (unV .not t20) k) λt21=>
  pv (zad t17 (.bool true) t21) λt22=>
  cnd t22 (
   pv (bdC #[(.int .u8 0),(.int .u32 0),(.int .u32 0),(.slice none 0 0),(.slice none 0 0),(.int .u32 0),(.slice none 0 0),(.int .i64 0),(.int .i64 0),(.slice none 0 0)] [(0,1),(1,1),(2,1),(3,1),(4,1),(5,2),(7,1),(8,1),(9,1)] #[]) λt23=>
   st 10 t1 t23 λ_=>
   ld true 10 t1 λt24=>
   K (.tuple #[t24,(.int .u16 70)])) (
   ld true 10 t9 λt25=>
   st 10 t1 t25 λ_=>
   ld true 10 t1 λt26=>
   K (.tuple #[t26,(.int .u16 0)]))) E)) E):=by kernel_rfl
abbrev zog:QD:=za7 Tryz.prog Tryz.f138.results.toList K E
abbrev zks (p:List Nat):QD -> Env -> Hp -> Prop:=den Tryz.prog (sel (za3 Tryz.f138) p)
abbrev zwd:=za8 k1 (blk 1 (blk 0 (za8 (zks [1,1,1,1,1,1] (zog K E)) (zog K E))))
def zb5 (j:Nat -> Value):Env:=#[x0,x1,x2,x3,x4,x5,(j 6),x7,x8,x9,x10,x11,x12,x13,x14,x15,x16,x17,x18,x19,x20,x21,x22,x23,x24,x25,x26,x27,x28,x29,x30,x31,x32,x33,x34,x35,x36,x37,x38,x39,x40,x41,x42,x43,x44,x45,x46,x47,x48,x49,x50,x51,x52,x53,x54,x55,x56,x57,x58,v59,(j 60),(j 61),(j 62),(j 63),(j 64),(j 65),(j 66),(j 67),(j 68),(j 69),(j 70),(j 71),x72,x73,x74,x75,x76,x77,x78,x79,x80,x81,x82,x83,x84,x85,x86,x87,x88,x89,x90]
theorem yv6:zks [] (zog K E) #[x0,U,U,U,U,U,U,U,U,U,U,U,U,U,U,U,U,U,U,U,U,U,U,U,U,U,U,U,U,U,U,U,U,U,U,U,U,U,U,U,U,U,U,U,U,U,U,U,U,U,U,U,U,U,U,U,U,U,U,U,U,U,U,U,U,U,U,U,U,U,U,U,U,U,U,U,U,U,U,U,U,U,U,U,U,U,U,U,U,U,U] =
 nw 77 (Value.cells x0).toList λt1=>
 ld true 10 t1 λt2=>
 cF 192 #[t2] (λt3=>
 pv (unV .not t3) λt4=>
 cnd t4 (
  K (.tuple #[(.slice none 0 0),(.int .u16 1)])) (
  pv (bdC #[(.slice none 0 0),(.int .i64 0),(.int .i8 0)] [(0,1),(1,1),(2,1)] #[]) λt5=>
  nw 116 (Value.cells t5).toList λt6=>
  pv (faV 0 t1) λt7=>
  ld false 1 t7 λt8=>
  cF 193 #[t6,t8,(.int .i64 1)] (λt9=>
  pv (faV 1 t1) λt10=>
  ld false 1 t10 λt11=>
  cF 194 #[t6,t11,(.int .i64 4)] (λt12=>
  pv (faV 0 t1) λt13=>
  ld false 1 t13 λt14=>
  pv (za1 .none .eql t14 (.int .u8 1)) λt15=>
  cnd t15 (
  pv (faV 3 t1) λt16=>
  ld false 1 t16 λt17=>
  cF 195 #[t6,t17] (λt18=>
  pv (faV 4 t1) λt19=>
  ld false 1 t19 λt20=>
  cF 196 #[t6,t20] (λt21=>
  zks [1,1,1,1,1,1] (zog K E) #[x0,t1,(.slice none 0 0),(.int .u16 0),t6,U,U,t2,t3,t4,t5,t6,t6,t7,t8,t9,t6,t10,t11,t12,t13,t14,t15,t15,t6,t16,t17,t18,t6,t19,t20,t21,U,U,U,U,U,U,U,U,U,U,U,U,U,U,U,U,U,U,U,U,U,U,U,U,U,U,U,U,U,U,U,U,U,U,U,U,U,U,U,U,U,U,U,U,U,U,U,U,U,U,U,U,U,U,U,U,U,U,U]) E) E) (
  pv (za1 .none .eql t14 (.int .u8 2)) λt22=>
  cnd t22 (
   pv (faV 2 t1) λt23=>
   ld false 1 t23 λt24=>
   cF 194 #[t6,t24,(.int .i64 4)] (λt25=>
   pv (faV 3 t1) λt26=>
   ld false 1 t26 λt27=>
   cF 195 #[t6,t27] (λt28=>
   zks [1,1,1,1,1,1] (zog K E) #[x0,t1,(.slice none 0 0),(.int .u16 0),t6,U,U,t2,t3,t4,t5,t6,t6,t7,t8,t9,t6,t10,t11,t12,t13,t14,t15,t15,U,U,U,U,U,U,U,U,t22,t22,t6,t23,t24,t25,t6,t26,t27,t28,U,U,U,U,U,U,U,U,U,U,U,U,U,U,U,U,U,U,U,U,U,U,U,U,U,U,U,U,U,U,U,U,U,U,U,U,U,U,U,U,U,U,U,U,U,U,U,U,U]) E) E) (
   pv (za1 .none .eql t14 (.int .u8 6)) λt29=>
   cnd t29 (
   pv (faV 5 t1) λt30=>
   pv (faV 0 t30) λt31=>
   ld false 1 t31 λt32=>
   cF 194 #[t6,t32,(.int .i64 4)] (λt33=>
   pv (faV 5 t1) λt34=>
   pv (faV 1 t34) λt35=>
   ld false 1 t35 λt36=>
   pv (zac t36) λt37=>
   cF 197 #[t6,t37,(.int .i64 1)] (λt38=>
   pv (faV 5 t1) λt39=>
   pv (faV 1 t39) λt40=>
   ld false 1 t40 λt41=>
   pv (zac t41) λt42=>
   lp (λk1=>zks [1,1,1,1,1,0,1,0,1,1,1,1,1,0,1,1,1,0,0] (zwd K E k1)) (zb5 x0 t1 (.slice none 0 0) (.int .u16 0) t6 U t2 t3 t4 t5 t6 t6 t7 t8 t9 t6 t10 t11 t12 t13 t14 t15 t15 U U U U U U U U t22 t22 U U U U U U U U t29 t29 t6 t30 t31 t32 t33 t6 t34 t35 t36 t37 t38 t39 t40 t41 t42 U U U U U U U U U U U U U U U U U U U (.int .i64 0) (jf #[]))) E) E) (
   pv (za1 .none .eql t14 (.int .u8 7)) λt43=>
   cnd t43 (
    pv (faV 7 t1) λt44=>
    ld false 1 t44 λt45=>
    cF 197 #[t6,t45,(.int .i64 4)] (λt46=>
    pv (faV 8 t1) λt47=>
    ld false 1 t47 λt48=>
    cF 197 #[t6,t48,(.int .i64 4)] (λt49=>
    pv (faV 9 t1) λt50=>
    ld false 1 t50 λt51=>
    cF 198 #[t6,t51] (λt52=>
    zks [1,1,1,1,1,1] (zog K E) #[x0,t1,(.slice none 0 0),(.int .u16 0),t6,U,U,t2,t3,t4,t5,t6,t6,t7,t8,t9,t6,t10,t11,t12,t13,t14,t15,t15,U,U,U,U,U,U,U,U,t22,t22,U,U,U,U,U,U,U,U,t29,t29,U,U,U,U,U,U,U,U,U,U,U,U,U,U,U,U,U,U,U,U,U,U,U,U,U,U,U,U,t43,t43,t6,t44,t45,t46,t6,t47,t48,t49,t6,t50,t51,t52,U,U,U,U,U]) E) E) E) (
    zks [1,1,1,1,1,1] (zog K E) #[x0,t1,(.slice none 0 0),(.int .u16 0),t6,U,U,t2,t3,t4,t5,t6,t6,t7,t8,t9,t6,t10,t11,t12,t13,t14,t15,t15,U,U,U,U,U,U,U,U,t22,t22,U,U,U,U,U,U,U,U,t29,t29,U,U,U,U,U,U,U,U,U,U,U,U,U,U,U,U,U,U,U,U,U,U,U,U,U,U,U,U,t43,t43,U,U,U,U,U,U,U,U,U,U,U,U,U,U,U,U,U]))))) E) E)) E:=by kernel_rfl
theorem zgp:zks [1,1,1,1,1,1] (zog K E) #[x0,x1,x2,x3,x4,x5,x6,x7,x8,x9,x10,x11,x12,x13,x14,x15,x16,x17,x18,x19,x20,x21,x22,x23,x24,x25,x26,x27,x28,x29,x30,x31,x32,x33,x34,x35,x36,x37,x38,x39,x40,x41,x42,x43,x44,x45,x46,x47,x48,x49,x50,x51,x52,x53,x54,x55,x56,x57,x58,x59,x60,x61,x62,x63,x64,x65,x66,x67,x68,x69,x70,x71,x72,x73,x74,x75,x76,x77,x78,x79,x80,x81,x82,x83,x84,x85,x86,x87,x88,x89,x90] =
 cF 65 #[x4] (λt1=>
 pv (za1 .none .gtr t1 (.int .i64 60000)) λt2=>
 cnd t2 (
  K (.tuple #[(.slice none 0 0),(.int .u16 3)])) (
  cF 85 #[x4] (λt3=>
  K (.tuple #[t3,(.int .u16 0)])) E)) E:=by kernel_rfl
theorem zno:zks [1,1,1,1,1,0,1,0,1,1,1,1,1,0,1,1,1,0,0] (zwd K E k1) (zb5 x0 x1 x2 x3 x4 x5 x7 x8 x9 x10 x11 x12 x13 x14 x15 x16 x17 x18 x19 x20 x21 x22 x23 x24 x25 x26 x27 x28 x29 x30 x31 x32 x33 x34 x35 x36 x37 x38 x39 x40 x41 x42 x43 x44 x45 x46 x47 x48 x49 x50 x51 x52 x53 x54 x55 x56 x57 x58 x72 x73 x74 x75 x76 x77 x78 x79 x80 x81 x82 x83 x84 x85 x86 x87 x88 x89 x90 v59 j) =
 pv (za1 .none .lss v59 x58) λt1=>
 cnd t1 (
  pv (iaV none 2 x57 v59) λt2=>
  ld true 2 t2 λt3=>
  nw 211 [(.int .i64 0),(.int .i64 0)] λt4=>
  st 2 t4 t3 λ_=>
  pv (faV 0 t4) λt5=>
  ld false 1 t5 λt6=>
  cF 197 #[x4,t6,(.int .i64 4)] (λt7=>
  pv (faV 1 t4) λt8=>
  ld false 1 t8 λt9=>
  cF 197 #[x4,t9,(.int .i64 1)] (λt10=>
  pv (za1 .none .add v59 (.int .i64 1)) λt11=>
  k1 (zb5 x0 x1 x2 x3 x4 x5 x7 x8 x9 x10 x11 x12 x13 x14 x15 x16 x17 x18 x19 x20 x21 x22 x23 x24 x25 x26 x27 x28 x29 x30 x31 x32 x33 x34 x35 x36 x37 x38 x39 x40 x41 x42 x43 x44 x45 x46 x47 x48 x49 x50 x51 x52 x53 x54 x55 x56 x57 x58 x72 x73 x74 x75 x76 x77 x78 x79 x80 x81 x82 x83 x84 x85 x86 x87 x88 x89 x90 t11 (jf #[U,U,U,U,U,U,t4,U,U,U,U,U,U,U,U,U,U,U,U,U,U,U,U,U,U,U,U,U,U,U,U,U,U,U,U,U,U,U,U,U,U,U,U,U,U,U,U,U,U,U,U,U,U,U,U,U,U,U,U,U,t1,t2,t3,x4,t5,t6,t7,x4,t8,t9,t10,t11]))) E) E) (
  zks [1,1,1,1,1,1] (zog K E) #[x0,x1,x2,x3,x4,x5,(j 6),x7,x8,x9,x10,x11,x12,x13,x14,x15,x16,x17,x18,x19,x20,x21,x22,x23,x24,x25,x26,x27,x28,x29,x30,x31,x32,x33,x34,x35,x36,x37,x38,x39,x40,x41,x42,x43,x44,x45,x46,x47,x48,x49,x50,x51,x52,x53,x54,x55,x56,x57,x58,v59,t1,(j 61),(j 62),(j 63),(j 64),(j 65),(j 66),(j 67),(j 68),(j 69),(j 70),(j 71),x72,x73,x74,x75,x76,x77,x78,x79,x80,x81,x82,x83,x84,x85,x86,x87,x88,x89,x90]):=by kernel_rfl
abbrev zsl:QD:=za7 Tryz.prog Tryz.f191.results.toList K E
abbrev zts (p:List Nat):QD -> Env -> Hp -> Prop:=den Tryz.prog (sel (za3 Tryz.f191) p)
theorem yu4:zts [] (zsl K E) #[x0,U,U,U,U,U,U,U,U,U,U,U,U,U,U,U,U,U,U,U,U,U,U,U,U,U,U,U,U,U,U,U,U,U,U,U,U,U,U,U,U,U,U,U,U,U,U,U,U,U,U,U,U,U,U] =
 nw 77 [(.int .u8 0),(.int .u32 0),(.int .u32 0),(.slice none 0 0),(.slice none 0 0),(.int .u32 0),(.slice none 0 0),(.int .i64 0),(.int .i64 0),(.slice none 0 0)] λt1=>
 cF 250 #[x0,(.int .i64 1)] (λt2=>
 pv (cvV .u8 t2) λt3=>
 cF 250 #[x0,(.int .i64 4)] (λt4=>
 pv (cvV .u32 t4) λt5=>
 pv (bdC #[(.int .u8 0),(.int .u32 0),(.int .u32 0),(.slice none 0 0),(.slice none 0 0),(.int .u32 0),(.slice none 0 0),(.int .i64 0),(.int .i64 0),(.slice none 0 0)] [(0,1),(1,1),(2,1),(3,1),(4,1),(5,2),(7,1),(8,1),(9,1)] #[(0,t3),(1,t5)]) λt6=>
 nw 77 [(.int .u8 0),(.int .u32 0),(.int .u32 0),(.slice none 0 0),(.slice none 0 0),(.int .u32 0),(.slice none 0 0),(.int .i64 0),(.int .i64 0),(.slice none 0 0)] λt7=>
 st 10 t7 t6 λ_=>
 pv (faV 0 t7) λt8=>
 ld false 1 t8 λt9=>
 pv (za1 .none .eql t9 (.int .u8 1)) λt10=>
 cnd t10 (
  cF 251 #[x0] (λt11=>
  pv (faV 3 t7) λt12=>
  st 1 t12 t11 λ_=>
  cF 252 #[x0] (λt13=>
  pv (faV 4 t7) λt14=>
  st 1 t14 t13 λ_=>
  zts [1,1,1] (zsl K E) #[x0,U,t1,t7,x0,t2,t3,x0,t4,t5,t6,t8,t9,t10,t10,x0,t11,t12,x0,t13,t14,U,U,U,U,U,U,U,U,U,U,U,U,U,U,U,U,U,U,U,U,U,U,U,U,U,U,U,U,U,U,U,U,U,U]) E) E) (
  pv (za1 .none .eql t9 (.int .u8 2)) λt15=>
  cnd t15 (
  cF 250 #[x0,(.int .i64 4)] (λt16=>
  pv (cvV .u32 t16) λt17=>
  pv (faV 2 t7) λt18=>
  st 1 t18 t17 λ_=>
  cF 251 #[x0] (λt19=>
  pv (faV 3 t7) λt20=>
  st 1 t20 t19 λ_=>
  zts [1,1,1] (zsl K E) #[x0,U,t1,t7,x0,t2,t3,x0,t4,t5,t6,t8,t9,t10,t10,U,U,U,U,U,U,t15,t15,x0,t16,t17,t18,x0,t19,t20,U,U,U,U,U,U,U,U,U,U,U,U,U,U,U,U,U,U,U,U,U,U,U,U,U]) E) E) (
  pv (za1 .none .eql t9 (.int .u8 6)) λt21=>
  cnd t21 (
   cF 250 #[x0,(.int .i64 4)] (λt22=>
   pv (cvV .u32 t22) λt23=>
   pv (faV 5 t7) λt24=>
   pv (faV 0 t24) λt25=>
   st 1 t25 t23 λ_=>
   cF 253 #[x0] (λt26=>
   pv (faV 5 t7) λt27=>
   pv (faV 1 t27) λt28=>
   st 1 t28 t26 λ_=>
   zts [1,1,1] (zsl K E) #[x0,U,t1,t7,x0,t2,t3,x0,t4,t5,t6,t8,t9,t10,t10,U,U,U,U,U,U,t15,t15,U,U,U,U,U,U,U,t21,t21,x0,t22,t23,t24,t25,x0,t26,t27,t28,U,U,U,U,U,U,U,U,U,U,U,U,U,U]) E) E) (
   pv (za1 .none .eql t9 (.int .u8 7)) λt29=>
   cnd t29 (
   cF 250 #[x0,(.int .i64 4)] (λt30=>
   pv (cvV .i64 t30) λt31=>
   pv (faV 7 t7) λt32=>
   st 1 t32 t31 λ_=>
   cF 250 #[x0,(.int .i64 4)] (λt33=>
   pv (cvV .i64 t33) λt34=>
   pv (faV 8 t7) λt35=>
   st 1 t35 t34 λ_=>
   cF 254 #[x0] (λt36=>
   pv (faV 9 t7) λt37=>
   st 1 t37 t36 λ_=>
   zts [1,1,1] (zsl K E) #[x0,U,t1,t7,x0,t2,t3,x0,t4,t5,t6,t8,t9,t10,t10,U,U,U,U,U,U,t15,t15,U,U,U,U,U,U,U,t21,t21,U,U,U,U,U,U,U,U,U,t29,t29,x0,t30,t31,t32,x0,t33,t34,t35,x0,t36,t37,U]) E) E) E) (
   zts [1,1,1] (zsl K E) #[x0,U,t1,t7,x0,t2,t3,x0,t4,t5,t6,t8,t9,t10,t10,U,U,U,U,U,U,t15,t15,U,U,U,U,U,U,U,t21,t21,U,U,U,U,U,U,U,U,U,t29,t29,U,U,U,U,U,U,U,U,U,U,U,U]))))) E) E:=by kernel_rfl
theorem zl1:zts [1,1,1] (zsl K E) #[x0,x1,x2,x3,x4,x5,x6,x7,x8,x9,x10,x11,x12,x13,x14,x15,x16,x17,x18,x19,x20,x21,x22,x23,x24,x25,x26,x27,x28,x29,x30,x31,x32,x33,x34,x35,x36,x37,x38,x39,x40,x41,x42,x43,x44,x45,x46,x47,x48,x49,x50,x51,x52,x53,x54] =
 ld true 10 x3 λt1=>
 st 10 x2 t1 λ_=>
 ld true 10 x2 λt2=>
 K t2:=by kernel_rfl
abbrev zik:QD:=za7 Tryz.prog Tryz.f192.results.toList K E
abbrev zii (p:List Nat):QD -> Env -> Hp -> Prop:=den Tryz.prog (sel (za3 Tryz.f192) p)
theorem yue:zii [] (zik K E) #[x0,U,U,U,U,U,U,U,U,U,U,U,U,U,U,U,U,U,U,U,U,U,U,U,U,U,U,U,U,U,U,U,U,U,U,U,U,U,U,U,U,U,U,U,U,U,U,U,U,U,U,U,U,U,U,U,U,U,U,U,U,U,U,U,U,U,U,U,U,U,U,U,U,U,U,U,U,U,U,U,U,U,U,U,U] =
 nw 77 (Value.cells x0).toList λt1=>
 pv (faV 0 t1) λt2=>
 ld false 1 t2 λt3=>
 pv (za1 .none .eql t3 (.int .u8 1)) λt4=>
 cnd t4 (
  pv (faV 3 t1) λt5=>
  ld false 1 t5 λt6=>
  cF 255 #[t6] (λt7=>
  gdK t7 true (λk=>pv (faV 4 t1) k) λt8=>
  gdK t7 true (λk=>ld false 1 t8 k) λt9=>
  gdK t7 true (λk=>cF 256 #[t9] k E) λt10=>
  pv (zad t7 t10 (.bool false)) λt11=>
  pv (faV 3 t1) λt12=>
  st 1 t12 (.slice none 0 0) λ_=>
  pv (faV 4 t1) λt13=>
  st 1 t13 (.slice none 0 0) λ_=>
  zii [1,1,1] (zik K E) #[x0,t1,(.bool false),t11,t2,t3,t4,t4,t5,t6,t7,t7,t8,t9,t10,t11,t12,t13,U,U,U,U,U,U,U,U,U,U,U,U,U,U,U,U,U,U,U,U,U,U,U,U,U,U,U,U,U,U,U,U,U,U,U,U,U,U,U,U,U,U,U,U,U,U,U,U,U,U,U,U,U,U,U,U,U,U,U,U,U,U,U,U,U,U,U]) E) (
  pv (za1 .none .eql t3 (.int .u8 2)) λt14=>
  cnd t14 (
  pv (faV 3 t1) λt15=>
  ld false 1 t15 λt16=>
  cF 255 #[t16] (λt17=>
  pv (faV 2 t1) λt18=>
  st 1 t18 (.int .u32 0) λ_=>
  pv (faV 3 t1) λt19=>
  st 1 t19 (.slice none 0 0) λ_=>
  zii [1,1,1] (zik K E) #[x0,t1,(.bool false),t17,t2,t3,t4,t4,U,U,U,U,U,U,U,U,U,U,t14,t14,t15,t16,t17,t18,t19,U,U,U,U,U,U,U,U,U,U,U,U,U,U,U,U,U,U,U,U,U,U,U,U,U,U,U,U,U,U,U,U,U,U,U,U,U,U,U,U,U,U,U,U,U,U,U,U,U,U,U,U,U,U,U,U,U,U,U,U]) E) (
  pv (za1 .none .eql t3 (.int .u8 3)) λt20=>
  cnd t20 (
   zii [1,1,0,1,0,1,1,1,1,1] (blk 0 (za8 (zii [1,1,1] (zik K E)) (zik K E))) #[x0,t1,(.bool false),(.bool true),t2,t3,t4,t4,U,U,U,U,U,U,U,U,U,U,t14,t14,U,U,U,U,U,t20,t20,U,U,U,U,U,U,U,U,U,U,U,U,U,U,U,U,U,U,U,U,U,U,U,U,U,U,U,U,U,U,U,U,U,U,U,U,U,U,U,U,U,U,U,U,U,U,U,U,U,U,U,U,U,U,U,U,U,U]) (
   pv (za1 .none .eql t3 (.int .u8 4)) λt21=>
   cnd t21 (
   zii [1,1,0,1,0,1,1,1,1,1] (blk 0 (za8 (zii [1,1,1] (zik K E)) (zik K E))) #[x0,t1,(.bool false),(.bool true),t2,t3,t4,t4,U,U,U,U,U,U,U,U,U,U,t14,t14,U,U,U,U,U,t21,t20,t21,U,U,U,U,U,U,U,U,U,U,U,U,U,U,U,U,U,U,U,U,U,U,U,U,U,U,U,U,U,U,U,U,U,U,U,U,U,U,U,U,U,U,U,U,U,U,U,U,U,U,U,U,U,U,U,U,U]) (
   pv (za1 .none .eql t3 (.int .u8 5)) λt22=>
   zii [1,1,0,1,0,1,1,1,1,1] (blk 0 (za8 (zii [1,1,1] (zik K E)) (zik K E))) #[x0,t1,(.bool false),(.bool true),t2,t3,t4,t4,U,U,U,U,U,U,U,U,U,U,t14,t14,U,U,U,U,U,t22,t20,t21,t22,U,U,U,U,U,U,U,U,U,U,U,U,U,U,U,U,U,U,U,U,U,U,U,U,U,U,U,U,U,U,U,U,U,U,U,U,U,U,U,U,U,U,U,U,U,U,U,U,U,U,U,U,U,U,U,U])))):=by kernel_rfl
theorem zgm:zii [1,1,1] (zik K E) #[x0,x1,x2,x3,x4,x5,x6,x7,x8,x9,x10,x11,x12,x13,x14,x15,x16,x17,x18,x19,x20,x21,x22,x23,x24,x25,x26,x27,x28,x29,x30,x31,x32,x33,x34,x35,x36,x37,x38,x39,x40,x41,x42,x43,x44,x45,x46,x47,x48,x49,x50,x51,x52,x53,x54,x55,x56,x57,x58,x59,x60,x61,x62,x63,x64,x65,x66,x67,x68,x69,x70,x71,x72,x73,x74,x75,x76,x77,x78,x79,x80,x81,x82,x83,x84] =
 pv (faV 0 x1) λt1=>
 st 1 t1 (.int .u8 0) λ_=>
 pv (faV 1 x1) λt2=>
 st 1 t2 (.int .u32 0) λ_=>
 gdK x3 true (λk=>ld true 10 x1 k) λt3=>
 gdK x3 true (λk=>cF 261 #[t3] k E) λt4=>
 pv (zad x3 t4 (.bool false)) λt5=>
 K t5:=by kernel_rfl
theorem zdo:zii [1,1,0,1,0,1,1,1,1,1] (blk 0 (za8 (zii [1,1,1] (zik K E)) (zik K E))) #[x0,x1,x2,x3,x4,x5,x6,x7,x8,x9,x10,x11,x12,x13,x14,x15,x16,x17,x18,x19,x20,x21,x22,x23,x24,x25,x26,x27,x28,x29,x30,x31,x32,x33,x34,x35,x36,x37,x38,x39,x40,x41,x42,x43,x44,x45,x46,x47,x48,x49,x50,x51,x52,x53,x54,x55,x56,x57,x58,x59,x60,x61,x62,x63,x64,x65,x66,x67,x68,x69,x70,x71,x72,x73,x74,x75,x76,x77,x78,x79,x80,x81,x82,x83,x84] =
 cnd x25 (
  zii [1,1,1] (zik K E) #[x0,x1,x2,x3,x4,x5,x6,x7,x8,x9,x10,x11,x12,x13,x14,x15,x16,x17,x18,x19,x20,x21,x22,x23,x24,x25,x26,x27,x28,x29,x30,x31,x32,x33,x34,x35,x36,x37,x38,x39,x40,x41,x42,x43,x44,x45,x46,x47,x48,x49,x50,x51,x52,x53,x54,x55,x56,x57,x58,x59,x60,x61,x62,x63,x64,x65,x66,x67,x68,x69,x70,x71,x72,x73,x74,x75,x76,x77,x78,x79,x80,x81,x82,x83,x84]) (
  pv (za1 .none .eql x5 (.int .u8 6)) λt1=>
  cnd t1 (
  pv (faV 1 x1) λt2=>
  ld false 1 t2 λt3=>
  pv (za1 .none .eql t3 (.int .u32 0)) λt4=>
  gdK t4 true (λk=>pv (faV 5 x1) k) λt5=>
  gdK t4 true (λk=>pv (faV 1 t5) k) λt6=>
  gdK t4 true (λk=>ld false 1 t6 k) λt7=>
  gdK t4 true (λk=>pv (zac t7) k) λt8=>
  gdK t4 true (λk=>pv (za1 .none .leq t8 (.int .i64 40)) k) λt9=>
  pv (zad t4 t9 (.bool false)) λt10=>
  gdK t10 true (λk=>pv (faV 5 x1) k) λt11=>
  gdK t10 true (λk=>pv (faV 1 t11) k) λt12=>
  gdK t10 true (λk=>ld false 1 t12 k) λt13=>
  gdK t10 true (λk=>cF 257 #[t13,(.func (.func 258) #[] #[])] k E) λt14=>
  gdK t10 true (λk=>pv (unV .not t14) k) λt15=>
  pv (zad t10 t15 (.bool false)) λt16=>
  pv (bdC #[(.int .u32 0),(.slice none 0 0)] [(0,1),(1,1)] #[]) λt17=>
  pv (faV 5 x1) λt18=>
  st 2 t18 t17 λ_=>
  zii [1,1,1] (zik K E) #[x0,x1,x2,t16,x4,x5,x6,x7,x8,x9,x10,x11,x12,x13,x14,x15,x16,x17,x18,x19,x20,x21,x22,x23,x24,x25,x26,x27,x28,t1,t1,t2,t3,t4,t4,t5,t6,t7,t8,t9,t10,t10,t11,t12,t13,t14,t15,t16,t17,t18,x50,x51,x52,x53,x54,x55,x56,x57,x58,x59,x60,x61,x62,x63,x64,x65,x66,x67,x68,x69,x70,x71,x72,x73,x74,x75,x76,x77,x78,x79,x80,x81,x82,x83,x84]) (
  pv (za1 .none .eql x5 (.int .u8 7)) λt19=>
  cnd t19 (
   pv (faV 9 x1) λt20=>
   ld false 1 t20 λt21=>
   cF 260 #[t21] (λt22=>
   gdK t22 true (λk=>pv (faV 7 x1) k) λt23=>
   gdK t22 true (λk=>ld false 1 t23 k) λt24=>
   gdK t22 true (λk=>pv (za1 .none .geq t24 (.int .i64 0)) k) λt25=>
   pv (zad t22 t25 (.bool false)) λt26=>
   gdK t26 true (λk=>pv (faV 7 x1) k) λt27=>
   gdK t26 true (λk=>ld false 1 t27 k) λt28=>
   gdK t26 true (λk=>pv (za1 .none .leq t28 (.int .i64 10000)) k) λt29=>
   pv (zad t26 t29 (.bool false)) λt30=>
   gdK t30 true (λk=>pv (faV 8 x1) k) λt31=>
   gdK t30 true (λk=>ld false 1 t31 k) λt32=>
   gdK t30 true (λk=>pv (za1 .none .geq t32 (.int .i64 0)) k) λt33=>
   pv (zad t30 t33 (.bool false)) λt34=>
   gdK t34 true (λk=>pv (faV 8 x1) k) λt35=>
   gdK t34 true (λk=>ld false 1 t35 k) λt36=>
   gdK t34 true (λk=>pv (za1 .none .leq t36 (.int .i64 10000)) k) λt37=>
   pv (zad t34 t37 (.bool false)) λt38=>
   pv (faV 7 x1) λt39=>
   st 1 t39 (.int .i64 0) λ_=>
   pv (faV 8 x1) λt40=>
   st 1 t40 (.int .i64 0) λ_=>
   pv (faV 9 x1) λt41=>
   st 1 t41 (.slice none 0 0) λ_=>
   zii [1,1,1] (zik K E) #[x0,x1,x2,t38,x4,x5,x6,x7,x8,x9,x10,x11,x12,x13,x14,x15,x16,x17,x18,x19,x20,x21,x22,x23,x24,x25,x26,x27,x28,t1,t1,x31,x32,x33,x34,x35,x36,x37,x38,x39,x40,x41,x42,x43,x44,x45,x46,x47,x48,x49,t19,t19,t20,t21,t22,t22,t23,t24,t25,t26,t26,t27,t28,t29,t30,t30,t31,t32,t33,t34,t34,t35,t36,t37,t38,t39,t40,t41,x78,x79,x80,x81,x82,x83,x84]) E) (
   K (.bool false)))):=by kernel_rfl
abbrev yb8:QD:=za7 Tryz.prog Tryz.f193.results.toList K E
abbrev yaj (p:List Nat):QD -> Env -> Hp -> Prop:=den Tryz.prog (sel (za3 Tryz.f193) p)
def zhu (j:Nat -> Value):Env:=#[x0,x1,x2,x3,x4,x5,(j 6),x7,v8,(j 9),(j 10),(j 11),(j 12),(j 13),(j 14),(j 15),(j 16),(j 17),(j 18),(j 19),(j 20),(j 21),(j 22)]
theorem ywu:yaj [] (yb8 K E) #[x0,x1,x2,U,U,U,U,U,U,U,U,U,U,U,U,U,U,U,U,U,U,U,U] =
 lp (λk1=>yaj [1,0,0] (za8 k1 (blk 0 (yb8 K E)))) (zhu x0 x1 x2 U U U x2 (.int .i64 0) (jf #[])):=by kernel_rfl
theorem yf9:yaj [1,0,0] (za8 k1 (blk 0 (yb8 K E))) (zhu x0 x1 x2 x3 x4 x5 x7 v8 j) =
 pv (za1 .none .lss v8 x7) λt1=>
 cnd t1 (
  pv (cvV .u64 x1) λt2=>
  pv (za1 .none .sub x2 (.int .i64 1)) λt3=>
  pv (za1 .none .sub t3 v8) λt4=>
  pv (za1 .none .mul (.int .i64 8) t4) λt5=>
  pv (za1 .none .shr t2 t5) λt6=>
  pv (cvV .u8 t6) λt7=>
  cF 262 #[x0,t7] (λt8=>
  pv (za1 .none .add v8 (.int .i64 1)) λt9=>
  k1 (zhu x0 x1 x2 x3 x4 x5 x7 t9 (jf #[U,U,U,U,U,U,v8,U,U,t1,v8,x0,x1,t2,x2,t3,v8,t4,t5,t6,t7,t8,t9]))) E) (
  K (.tuple #[])):=by kernel_rfl
abbrev ycl:QD:=za7 Tryz.prog Tryz.f194.results.toList K E
abbrev yag (p:List Nat):QD -> Env -> Hp -> Prop:=den Tryz.prog (sel (za3 Tryz.f194) p)
def zhr (j:Nat -> Value):Env:=#[x0,x1,x2,x3,x4,x5,(j 6),x7,v8,(j 9),(j 10),(j 11),(j 12),(j 13),(j 14),(j 15),(j 16),(j 17),(j 18),(j 19),(j 20),(j 21),(j 22)]
theorem yxj:yag [] (ycl K E) #[x0,x1,x2,U,U,U,U,U,U,U,U,U,U,U,U,U,U,U,U,U,U,U,U] =
 lp (λk1=>yag [1,0,0] (za8 k1 (blk 0 (ycl K E)))) (zhr x0 x1 x2 U U U x2 (.int .i64 0) (jf #[])):=by kernel_rfl
theorem yex:yag [1,0,0] (za8 k1 (blk 0 (ycl K E))) (zhr x0 x1 x2 x3 x4 x5 x7 v8 j) =
 pv (za1 .none .lss v8 x7) λt1=>
 cnd t1 (
  pv (cvV .u64 x1) λt2=>
  pv (za1 .none .sub x2 (.int .i64 1)) λt3=>
  pv (za1 .none .sub t3 v8) λt4=>
  pv (za1 .none .mul (.int .i64 8) t4) λt5=>
  pv (za1 .none .shr t2 t5) λt6=>
  pv (cvV .u8 t6) λt7=>
  cF 262 #[x0,t7] (λt8=>
  pv (za1 .none .add v8 (.int .i64 1)) λt9=>
  k1 (zhr x0 x1 x2 x3 x4 x5 x7 t9 (jf #[U,U,U,U,U,U,v8,U,U,t1,v8,x0,x1,t2,x2,t3,v8,t4,t5,t6,t7,t8,t9]))) E) (
  K (.tuple #[])):=by kernel_rfl
abbrev yc2:QD:=za7 Tryz.prog Tryz.f195.results.toList K E
abbrev yao (p:List Nat):QD -> Env -> Hp -> Prop:=den Tryz.prog (sel (za3 Tryz.f195) p)
def zgl (j:Nat -> Value):Env:=#[x0,x1,x2,x3,x4,(j 5),x6,x7,x8,x9,x10,x11,v12,(j 13),(j 14),(j 15),(j 16),(j 17),(j 18),(j 19)]
theorem ywt:yao [] (yc2 K E) #[x0,x1,U,U,U,U,U,U,U,U,U,U,U,U,U,U,U,U,U,U] =
 pv (zac x1) λt1=>
 cF 197 #[x0,t1,(.int .i64 1)] (λt2=>
 pv (zac x1) λt3=>
 lp (λk1=>yao [1,1,0,0] (za8 k1 (blk 0 (yc2 K E)))) (zgl x0 x1 U U U x0 x1 t1 t2 x1 t3 (.int .i64 0) (jf #[]))) E:=by kernel_rfl
theorem yb9:yao [1,1,0,0] (za8 k1 (blk 0 (yc2 K E))) (zgl x0 x1 x2 x3 x4 x6 x7 x8 x9 x10 x11 v12 j) =
 pv (za1 .none .lss v12 x11) λt1=>
 cnd t1 (
  pv (iaV none 1 x10 v12) λt2=>
  ld false 1 t2 λt3=>
  cF 197 #[x0,t3,(.int .i64 1)] (λt4=>
  pv (za1 .none .add v12 (.int .i64 1)) λt5=>
  k1 (zgl x0 x1 x2 x3 x4 x6 x7 x8 x9 x10 x11 t5 (jf #[U,U,U,U,U,t3,U,U,U,U,U,U,U,t1,t2,t3,x0,t3,t4,t5]))) E) (
  K (.tuple #[])):=by kernel_rfl
abbrev zo7:QD:=za7 Tryz.prog Tryz.f196.results.toList K E
abbrev zkw (p:List Nat):QD -> Env -> Hp -> Prop:=den Tryz.prog (sel (za3 Tryz.f196) p)
abbrev zui:=za8 k2 (blk 2 (za8 (zkw [1,1,0,0,1,1,0,0,1,1,1] (blk 1 (za8 (zkw [1,1,0,0,1,1,1] (za8 k1 (blk 0 (zo7 K E)))) (za8 k1 (blk 0 (zo7 K E)))))) (blk 1 (za8 (zkw [1,1,0,0,1,1,1] (za8 k1 (blk 0 (zo7 K E)))) (za8 k1 (blk 0 (zo7 K E)))))))
def zgc (j:Nat -> Value):Env:=#[x0,x1,x2,x3,x4,(j 5),x6,(j 7),x8,x9,x10,x11,x12,x13,v14,(j 15),(j 16),(j 17),(j 18),(j 19),(j 20),(j 21),(j 22),(j 23),(j 24),(j 25),(j 26),(j 27),(j 28),(j 29),(j 30),(j 31),(j 32),(j 33),(j 34),(j 35),(j 36),(j 37),(j 38)]
def zbt (j:Nat -> Value):Env:=#[x0,x1,x2,x3,x4,x5,x6,(j 7),x8,x9,x10,x11,x12,x13,x14,x15,x16,x17,x18,x19,x20,x21,x22,x23,x24,x25,v26,(j 27),(j 28),(j 29),(j 30),(j 31),(j 32),(j 33),x34,x35,x36,x37,x38]
theorem yvy:zkw [] (zo7 K E) #[x0,x1,U,U,U,U,U,U,U,U,U,U,U,U,U,U,U,U,U,U,U,U,U,U,U,U,U,U,U,U,U,U,U,U,U,U,U,U,U] =
 pv (zac x1) λt1=>
 cF 197 #[x0,t1,(.int .i64 4)] (λt2=>
 pv (zac x1) λt3=>
 lp (λk1=>zkw [1,1,0,0] (za8 k1 (blk 0 (zo7 K E)))) (zgc x0 x1 U U U U x0 x1 t1 t2 x1 t3 (.int .i64 0) (jf #[]))) E:=by kernel_rfl
theorem yb0:zkw [1,1,0,0] (za8 k1 (blk 0 (zo7 K E))) (zgc x0 x1 x2 x3 x4 x6 x8 x9 x10 x11 x12 x13 v14 j) =
 pv (za1 .none .lss v14 x13) λt1=>
 cnd t1 (
  pv (iaV none 2 x12 v14) λt2=>
  ld true 2 t2 λt3=>
  nw 110 [(.slice none 0 0),(.int .i64 0)] λt4=>
  st 2 t4 t3 λ_=>
  pv (faV 0 t4) λt5=>
  ld false 1 t5 λt6=>
  pv (zac t6) λt7=>
  cF 197 #[x0,t7,(.int .i64 1)] (λt8=>
  pv (faV 0 t4) λt9=>
  ld false 1 t9 λt10=>
  pv (zac t10) λt11=>
  lp (λk2=>zkw [1,1,0,0,1,1,0,0,1,1,0,1,0,0] (zui K E k1 k2)) (zbt x0 x1 x2 x3 x4 t4 x6 x8 x9 x10 x11 x12 x13 v14 t1 t2 t3 x0 t5 t6 t7 t8 t9 t10 t11 (j 34) (j 35) (j 36) (j 37) (j 38) (.int .i64 0) (jf #[U,U,U,U,U,U,U,(j 7),U,U,U,U,U,U,U,U,U,U,U,U,U,U,U,U,U,U,U,(j 27),(j 28),(j 29),(j 30),(j 31),(j 32),(j 33)]))) E) (
  K (.tuple #[])):=by kernel_rfl
theorem zih:zkw [1,1,0,0,1,1,0,0,1,1,0,1,0,0] (zui K E k1 k2) (zbt x0 x1 x2 x3 x4 x5 x6 x8 x9 x10 x11 x12 x13 x14 x15 x16 x17 x18 x19 x20 x21 x22 x23 x24 x25 x34 x35 x36 x37 x38 v26 j) =
 pv (za1 .none .lss v26 x25) λt1=>
 cnd t1 (
  pv (iaV none 1 x24 v26) λt2=>
  ld false 1 t2 λt3=>
  cF 197 #[x0,t3,(.int .i64 4)] (λt4=>
  pv (za1 .none .add v26 (.int .i64 1)) λt5=>
  k2 (zbt x0 x1 x2 x3 x4 x5 x6 x8 x9 x10 x11 x12 x13 x14 x15 x16 x17 x18 x19 x20 x21 x22 x23 x24 x25 x34 x35 x36 x37 x38 t5 (jf #[U,U,U,U,U,U,U,t3,U,U,U,U,U,U,U,U,U,U,U,U,U,U,U,U,U,U,U,t1,t2,t3,x0,t3,t4,t5]))) E) (
  pv (faV 1 x5) λt6=>
  ld false 1 t6 λt7=>
  cF 263 #[x0,t7,(.int .i64 8)] (λt8=>
  pv (za1 .none .add x14 (.int .i64 1)) λt9=>
  k1 (zgc x0 x1 x2 x3 x4 x6 x8 x9 x10 x11 x12 x13 t9 (jf #[U,U,U,U,U,x5,U,(j 7),U,U,U,U,U,U,U,x15,x16,x17,x18,x19,x20,x21,x22,x23,x24,x25,v26,t1,(j 28),(j 29),(j 30),(j 31),(j 32),(j 33),x0,t6,t7,t8,t9]))) E):=by kernel_rfl
abbrev ycc:QD:=za7 Tryz.prog Tryz.f197.results.toList K E
abbrev yct (p:List Nat):QD -> Env -> Hp -> Prop:=den Tryz.prog (sel (za3 Tryz.f197) p)
def zhv (j:Nat -> Value):Env:=#[x0,x1,x2,x3,x4,x5,(j 6),x7,v8,(j 9),(j 10),(j 11),(j 12),(j 13),(j 14),(j 15),(j 16),(j 17),(j 18),(j 19),(j 20),(j 21),(j 22)]
theorem yvg:yct [] (ycc K E) #[x0,x1,x2,U,U,U,U,U,U,U,U,U,U,U,U,U,U,U,U,U,U,U,U] =
 lp (λk1=>yct [1,0,0] (za8 k1 (blk 0 (ycc K E)))) (zhv x0 x1 x2 U U U x2 (.int .i64 0) (jf #[])):=by kernel_rfl
theorem yey:yct [1,0,0] (za8 k1 (blk 0 (ycc K E))) (zhv x0 x1 x2 x3 x4 x5 x7 v8 j) =
 pv (za1 .none .lss v8 x7) λt1=>
 cnd t1 (
  pv (cvV .u64 x1) λt2=>
  pv (za1 .none .sub x2 (.int .i64 1)) λt3=>
  pv (za1 .none .sub t3 v8) λt4=>
  pv (za1 .none .mul (.int .i64 8) t4) λt5=>
  pv (za1 .none .shr t2 t5) λt6=>
  pv (cvV .u8 t6) λt7=>
  cF 262 #[x0,t7] (λt8=>
  pv (za1 .none .add v8 (.int .i64 1)) λt9=>
  k1 (zhv x0 x1 x2 x3 x4 x5 x7 t9 (jf #[U,U,U,U,U,U,v8,U,U,t1,v8,x0,x1,t2,x2,t3,v8,t4,t5,t6,t7,t8,t9]))) E) (
  K (.tuple #[])):=by kernel_rfl
abbrev yc1:QD:=za7 Tryz.prog Tryz.f198.results.toList K E
abbrev ybb (p:List Nat):QD -> Env -> Hp -> Prop:=den Tryz.prog (sel (za3 Tryz.f198) p)
def zg9 (j:Nat -> Value):Env:=#[x0,x1,x2,x3,x4,(j 5),x6,x7,x8,x9,x10,x11,v12,(j 13),(j 14),(j 15),(j 16),(j 17),(j 18),(j 19),(j 20),(j 21),(j 22),(j 23),(j 24)]
theorem yv2:ybb [] (yc1 K E) #[x0,x1,U,U,U,U,U,U,U,U,U,U,U,U,U,U,U,U,U,U,U,U,U,U,U] =
 pv (zac x1) λt1=>
 cF 197 #[x0,t1,(.int .i64 4)] (λt2=>
 pv (zac x1) λt3=>
 lp (λk1=>ybb [1,1,0,0] (za8 k1 (blk 0 (yc1 K E)))) (zg9 x0 x1 U U U x0 x1 t1 t2 x1 t3 (.int .i64 0) (jf #[]))) E:=by kernel_rfl
theorem ycd:ybb [1,1,0,0] (za8 k1 (blk 0 (yc1 K E))) (zg9 x0 x1 x2 x3 x4 x6 x7 x8 x9 x10 x11 v12 j) =
 pv (za1 .none .lss v12 x11) λt1=>
 cnd t1 (
  pv (iaV none 2 x10 v12) λt2=>
  ld true 2 t2 λt3=>
  nw 143 [(.int .u32 0),(.slice none 0 0)] λt4=>
  st 2 t4 t3 λ_=>
  pv (faV 0 t4) λt5=>
  ld false 1 t5 λt6=>
  cF 194 #[x0,t6,(.int .i64 4)] (λt7=>
  pv (faV 1 t4) λt8=>
  ld false 1 t8 λt9=>
  cF 196 #[x0,t9] (λt10=>
  pv (za1 .none .add v12 (.int .i64 1)) λt11=>
  k1 (zg9 x0 x1 x2 x3 x4 x6 x7 x8 x9 x10 x11 t11 (jf #[U,U,U,U,U,t4,U,U,U,U,U,U,U,t1,t2,t3,x0,t5,t6,t7,x0,t8,t9,t10,t11]))) E) E) (
  K (.tuple #[])):=by kernel_rfl
abbrev zxb:QD:=za7 Tryz.prog Tryz.f250.results.toList K E
abbrev zob (p:List Nat):QD -> Env -> Hp -> Prop:=den Tryz.prog (sel (za3 Tryz.f250) p)
abbrev zve:=za8 k1 (blk 0 (za8 (zob [1,1,1,1] (zxb K E)) (zxb K E)))
def zdb (j:Nat -> Value):Env:=#[x0,x1,x2,x3,x4,v5,x6,(j 7),x8,x9,x10,x11,x12,x13,x14,x15,x16,x17,x18,x19,x20,x21,x22,x23,v24,(j 25),(j 26),(j 27),(j 28),(j 29),(j 30),(j 31),(j 32),(j 33),x34,x35,x36,x37,x38,x39,x40,x41,x42,x43]
theorem yv0:zob [] (zxb K E) #[x0,x1,U,U,U,U,U,U,U,U,U,U,U,U,U,U,U,U,U,U,U,U,U,U,U,U,U,U,U,U,U,U,U,U,U,U,U,U,U,U,U,U,U,U] =
 pv (zai x0) λt1=>
 pv (faV 0 t1) λt2=>
 ld false 1 t2 λt3=>
 pv (zac t3) λt4=>
 pv (za1 .none .lss t4 x1) λt5=>
 cnd t5 (
  pv (bdC #[] [] #[]) λt6=>
  pv (zoa 286 t6) λt7=>
  pnc t7 E λ_=>
  zob [1,1] (zxb K E) #[x0,x1,U,U,(.int .u64 0),U,U,U,x0,t1,t2,t3,t4,x1,t5,t6,t7,U,U,U,U,U,U,U,U,U,U,U,U,U,U,U,U,U,U,U,U,U,U,U,U,U,U,U]) (
  zob [1,1] (zxb K E) #[x0,x1,U,U,(.int .u64 0),U,U,U,x0,t1,t2,t3,t4,x1,t5,U,U,U,U,U,U,U,U,U,U,U,U,U,U,U,U,U,U,U,U,U,U,U,U,U,U,U,U,U]):=by kernel_rfl
theorem ym9:zob [1,1] (zxb K E) #[x0,x1,x2,x3,x4,x5,x6,x7,x8,x9,x10,x11,x12,x13,x14,x15,x16,x17,x18,x19,x20,x21,x22,x23,x24,x25,x26,x27,x28,x29,x30,x31,x32,x33,x34,x35,x36,x37,x38,x39,x40,x41,x42,x43] =
 pv (zai x0) λt1=>
 pv (faV 0 t1) λt2=>
 ld false 1 t2 λt3=>
 pv (slV 1 t3 none (some x1) none) λt4=>
 pv (zac t4) λt5=>
 lp (λk1=>zob [1,1,1,0,1,0,0] (zve K E k1)) (zdb x0 x1 x2 x3 x4 x6 x8 x9 x10 x11 x12 x13 x14 x15 x16 x0 t1 t2 t3 x1 t4 t5 x34 x35 x36 x37 x38 x39 x40 x41 x42 x43 (.int .u64 0) (.int .i64 0) (jf #[U,U,U,U,U,U,U,x7,U,U,U,U,U,U,U,U,U,U,U,U,U,U,U,U,U,x25,x26,x27,x28,x29,x30,x31,x32,x33])):=by kernel_rfl
theorem zpt:zob [1,1,1,0,1,0,0] (zve K E k1) (zdb x0 x1 x2 x3 x4 x6 x8 x9 x10 x11 x12 x13 x14 x15 x16 x17 x18 x19 x20 x21 x22 x23 x34 x35 x36 x37 x38 x39 x40 x41 x42 x43 v5 v24 j) =
 pv (za1 .none .lss v24 x23) λt1=>
 cnd t1 (
  pv (iaV none 1 x22 v24) λt2=>
  ld false 1 t2 λt3=>
  pv (za1 .none .shl v5 (.int .u64 8)) λt4=>
  pv (cvV .u64 t3) λt5=>
  pv (za1 .none .or t4 t5) λt6=>
  pv (za1 .none .add v24 (.int .i64 1)) λt7=>
  k1 (zdb x0 x1 x2 x3 x4 x6 x8 x9 x10 x11 x12 x13 x14 x15 x16 x17 x18 x19 x20 x21 x22 x23 x34 x35 x36 x37 x38 x39 x40 x41 x42 x43 t6 t7 (jf #[U,U,U,U,U,U,U,t3,U,U,U,U,U,U,U,U,U,U,U,U,U,U,U,U,U,t1,t2,t3,v5,t4,t3,t5,t6,t7]))) (
  pv (zai x0) λt8=>
  pv (faV 0 t8) λt9=>
  ld false 1 t9 λt10=>
  pv (slV 1 t10 (some x1) none none) λt11=>
  pv (zai x0) λt12=>
  pv (faV 0 t12) λt13=>
  st 1 t13 t11 λ_=>
  K v5):=by kernel_rfl
abbrev yjl:QD:=za7 Tryz.prog Tryz.f251.results.toList K E
abbrev zy3 (p:List Nat):QD -> Env -> Hp -> Prop:=den Tryz.prog (sel (za3 Tryz.f251) p)
abbrev zus:=za8 k1 (blk 0 (za8 (zy3 [1,1,1] (yjl K E)) (yjl K E)))
def ze7 (j:Nat -> Value):Env:=#[x0,x1,x2,x3,(j 4),x5,x6,x7,x8,x9,v10,(j 11),(j 12),(j 13),(j 14),(j 15),(j 16),(j 17),(j 18),(j 19),x20]
theorem yxz:zy3 [] (yjl K E) #[x0,U,U,U,U,U,U,U,U,U,U,U,U,U,U,U,U,U,U,U,U] =
 cF 299 #[x0,(.int .i64 1),(.int .i64 1)] (λt1=>
 mks 3 [(.int .i64 0)] 1 8 t1 t1 λt2=>
 pv (zac t2) λt3=>
 lp (λk1=>zy3 [1,1,0,1,0,0] (zus K E k1)) (ze7 x0 U (.slice none 0 0) t2 x0 t1 t2 t2 t3 U (.int .i64 0) (jf #[]))) E:=by kernel_rfl
theorem zsx:zy3 [1,1,0,1,0,0] (zus K E k1) (ze7 x0 x1 x2 x3 x5 x6 x7 x8 x9 x20 v10 j) =
 pv (za1 .none .lss v10 x9) λt1=>
 cnd t1 (
  cF 250 #[x0,(.int .i64 1)] (λt2=>
  pv (cvV .i64 t2) λt3=>
  pv (iaV none 1 x3 v10) λt4=>
  st 1 t4 t3 λ_=>
  pv (za1 .none .add v10 (.int .i64 1)) λt5=>
  k1 (ze7 x0 x1 x2 x3 x5 x6 x7 x8 x9 x20 t5 (jf #[U,U,U,U,v10,U,U,U,U,U,U,t1,v10,x3,v10,x0,t2,t3,t4,t5]))) E) (
  K x3):=by kernel_rfl
abbrev zmc:QD:=za7 Tryz.prog Tryz.f252.results.toList K E
abbrev zhc (p:List Nat):QD -> Env -> Hp -> Prop:=den Tryz.prog (sel (za3 Tryz.f252) p)
abbrev zvo:=za8 k2 (blk 2 (za8 (zhc [1,1,0,1,0,0,1,1,0,0,1,1,1] (blk 1 (za8 (zhc [1,1,0,1,0,0,1,1,1] (za8 k1 (blk 0 (za8 (zhc [1,1,1] (zmc K E)) (zmc K E))))) (za8 k1 (blk 0 (za8 (zhc [1,1,1] (zmc K E)) (zmc K E))))))) (blk 1 (za8 (zhc [1,1,0,1,0,0,1,1,1] (za8 k1 (blk 0 (za8 (zhc [1,1,1] (zmc K E)) (zmc K E))))) (za8 k1 (blk 0 (za8 (zhc [1,1,1] (zmc K E)) (zmc K E))))))))
abbrev ztx:=za8 k1 (blk 0 (za8 (zhc [1,1,1] (zmc K E)) (zmc K E)))
def ze3 (j:Nat -> Value):Env:=#[x0,x1,x2,x3,(j 4),(j 5),x6,x7,x8,x9,x10,v11,(j 12),(j 13),(j 14),(j 15),(j 16),(j 17),(j 18),(j 19),(j 20),(j 21),(j 22),(j 23),(j 24),(j 25),(j 26),(j 27),(j 28),(j 29),(j 30),(j 31),(j 32),(j 33),(j 34),(j 35),(j 36),(j 37),(j 38),(j 39),(j 40),(j 41),(j 42),(j 43),(j 44),(j 45),(j 46),(j 47),(j 48),x49]
def zbh (j:Nat -> Value):Env:=#[x0,x1,x2,x3,x4,(j 5),x6,x7,x8,x9,x10,x11,x12,x13,x14,x15,x16,x17,x18,x19,x20,x21,x22,x23,x24,x25,x26,v27,(j 28),(j 29),(j 30),(j 31),(j 32),(j 33),(j 34),(j 35),(j 36),(j 37),(j 38),(j 39),(j 40),x41,x42,x43,x44,x45,x46,x47,x48,x49]
theorem yve:zhc [] (zmc K E) #[x0,U,U,U,U,U,U,U,U,U,U,U,U,U,U,U,U,U,U,U,U,U,U,U,U,U,U,U,U,U,U,U,U,U,U,U,U,U,U,U,U,U,U,U,U,U,U,U,U,U] =
 cF 299 #[x0,(.int .i64 4),(.int .i64 9)] (λt1=>
 mks 110 [(.slice none 0 0),(.int .i64 0)] 2 32 t1 t1 λt2=>
 pv (zac t2) λt3=>
 lp (λk1=>zhc [1,1,0,1,0,0] (ztx K E k1)) (ze3 x0 U (.slice none 0 0) t2 x0 t1 t2 t2 t3 U (.int .i64 0) (jf #[]))) E:=by kernel_rfl
theorem zsf:zhc [1,1,0,1,0,0] (ztx K E k1) (ze3 x0 x1 x2 x3 x6 x7 x8 x9 x10 x49 v11 j) =
 pv (za1 .none .lss v11 x10) λt1=>
 cnd t1 (
  cF 299 #[x0,(.int .i64 1),(.int .i64 4)] (λt2=>
  mks 3 [(.int .i64 0)] 1 8 t2 t2 λt3=>
  pv (iaV none 2 x3 v11) λt4=>
  pv (faV 0 t4) λt5=>
  st 1 t5 t3 λ_=>
  pv (iaV none 2 x3 v11) λt6=>
  pv (faV 0 t6) λt7=>
  ld false 1 t7 λt8=>
  pv (zac t8) λt9=>
  lp (λk2=>zhc [1,1,0,1,0,0,1,1,0,0,1,1,0,1,0,0] (zvo K E k1 k2)) (zbh x0 x1 x2 x3 v11 x6 x7 x8 x9 x10 v11 t1 v11 x3 v11 x0 t2 t3 t4 t5 x3 v11 t6 t7 t8 t9 (j 41) (j 42) (j 43) (j 44) (j 45) (j 46) (j 47) (j 48) x49 (.int .i64 0) (jf #[U,U,U,U,U,(j 5),U,U,U,U,U,U,U,U,U,U,U,U,U,U,U,U,U,U,U,U,U,U,(j 28),(j 29),(j 30),(j 31),(j 32),(j 33),(j 34),(j 35),(j 36),(j 37),(j 38),(j 39),(j 40)]))) E) (
  K x3):=by kernel_rfl
theorem zhf:zhc [1,1,0,1,0,0,1,1,0,0,1,1,0,1,0,0] (zvo K E k1 k2) (zbh x0 x1 x2 x3 x4 x6 x7 x8 x9 x10 x11 x12 x13 x14 x15 x16 x17 x18 x19 x20 x21 x22 x23 x24 x25 x26 x41 x42 x43 x44 x45 x46 x47 x48 x49 v27 j) =
 pv (za1 .none .lss v27 x26) λt1=>
 cnd t1 (
  pv (iaV none 2 x3 x4) λt2=>
  pv (faV 0 t2) λt3=>
  ld false 1 t3 λt4=>
  cF 250 #[x0,(.int .i64 4)] (λt5 h6=>(ldV h6 false 1 t3 t4)∧(
  pv (cvV .i64 t5) λt7=>
  pv (iaV none 1 t4 v27) λt8=>
  st 1 t8 t7 λ_=>
  pv (za1 .none .add v27 (.int .i64 1)) λt9=>
  k2 (zbh x0 x1 x2 x3 x4 x6 x7 x8 x9 x10 x11 x12 x13 x14 x15 x16 x17 x18 x19 x20 x21 x22 x23 x24 x25 x26 x41 x42 x43 x44 x45 x46 x47 x48 x49 t9 (jf #[U,U,U,U,U,v27,U,U,U,U,U,U,U,U,U,U,U,U,U,U,U,U,U,U,U,U,U,U,t1,v27,x3,x4,t2,t3,t4,v27,x0,t5,t7,t8,t9]))) h6) E) (
  cF 250 #[x0,(.int .i64 8)] (λt10=>
  pv (cvV .i64 t10) λt11=>
  pv (iaV none 2 x3 x4) λt12=>
  pv (faV 1 t12) λt13=>
  st 1 t13 t11 λ_=>
  pv (za1 .none .add x11 (.int .i64 1)) λt14=>
  k1 (ze3 x0 x1 x2 x3 x6 x7 x8 x9 x10 x49 t14 (jf #[U,U,U,U,x4,(j 5),U,U,U,U,U,U,x12,x13,x14,x15,x16,x17,x18,x19,x20,x21,x22,x23,x24,x25,x26,v27,t1,(j 29),(j 30),(j 31),(j 32),(j 33),(j 34),(j 35),(j 36),(j 37),(j 38),(j 39),(j 40),x3,x4,x0,t10,t11,t12,t13,t14]))) E):=by kernel_rfl
abbrev qah:QD:=za7 Tryz.prog Tryz.f253.results.toList K E
abbrev yzy (p:List Nat):QD -> Env -> Hp -> Prop:=den Tryz.prog (sel (za3 Tryz.f253) p)
abbrev ymn:QD:=za7 Tryz.prog Tryz.f254.results.toList K E
abbrev zwl (p:List Nat):QD -> Env -> Hp -> Prop:=den Tryz.prog (sel (za3 Tryz.f254) p)
abbrev zuw:=za8 k1 (blk 0 (za8 (zwl [1,1,1] (ymn K E)) (ymn K E)))
def ze4 (j:Nat -> Value):Env:=#[x0,x1,x2,x3,(j 4),x5,x6,x7,x8,x9,v10,(j 11),(j 12),(j 13),(j 14),(j 15),(j 16),(j 17),(j 18),(j 19),(j 20),(j 21),(j 22),(j 23),(j 24),(j 25),(j 26),x27]
theorem yym:zwl [] (ymn K E) #[x0,U,U,U,U,U,U,U,U,U,U,U,U,U,U,U,U,U,U,U,U,U,U,U,U,U,U,U] =
 cF 299 #[x0,(.int .i64 4),(.int .i64 8)] (λt1=>
 mks 143 [(.int .u32 0),(.slice none 0 0)] 2 32 t1 t1 λt2=>
 pv (zac t2) λt3=>
 lp (λk1=>zwl [1,1,0,1,0,0] (zuw K E k1)) (ze4 x0 U (.slice none 0 0) t2 x0 t1 t2 t2 t3 U (.int .i64 0) (jf #[]))) E:=by kernel_rfl
theorem ztj:zwl [1,1,0,1,0,0] (zuw K E k1) (ze4 x0 x1 x2 x3 x5 x6 x7 x8 x9 x27 v10 j) =
 pv (za1 .none .lss v10 x9) λt1=>
 cnd t1 (
  cF 250 #[x0,(.int .i64 4)] (λt2=>
  pv (cvV .u32 t2) λt3=>
  pv (iaV none 2 x3 v10) λt4=>
  pv (faV 0 t4) λt5=>
  st 1 t5 t3 λ_=>
  cF 252 #[x0] (λt6=>
  pv (iaV none 2 x3 v10) λt7=>
  pv (faV 1 t7) λt8=>
  st 1 t8 t6 λ_=>
  pv (za1 .none .add v10 (.int .i64 1)) λt9=>
  k1 (ze4 x0 x1 x2 x3 x5 x6 x7 x8 x9 x27 t9 (jf #[U,U,U,U,v10,U,U,U,U,U,U,t1,v10,x3,v10,x0,t2,t3,t4,t5,x3,v10,x0,t6,t7,t8,t9]))) E) E) (
  K x3):=by kernel_rfl
abbrev ymc:QD:=za7 Tryz.prog Tryz.f255.results.toList K E
abbrev zx4 (p:List Nat):QD -> Env -> Hp -> Prop:=den Tryz.prog (sel (za3 Tryz.f255) p)
abbrev zv9:=za8 k1 (blk 0 (za8 (zx4 [1,1,1] (ymc K E)) (ymc K E)))
def ze1 (j:Nat -> Value):Env:=#[x0,x1,(j 2),v3,x4,(j 5),x6,x7,v8,(j 9),(j 10),(j 11),(j 12),(j 13),(j 14),(j 15),(j 16),(j 17),(j 18),(j 19),(j 20)]
theorem yxs:zx4 [] (ymc K E) #[x0,U,U,U,U,U,U,U,U,U,U,U,U,U,U,U,U,U,U,U,U] =
 pv (zac x0) λt1=>
 lp (λk1=>zx4 [1,1,0,1,0,0] (zv9 K E k1)) (ze1 x0 U U x0 t1 (.int .i64 (-1)) (.int .i64 0) (jf #[U,U,(.bool false)])):=by kernel_rfl
theorem zt9:zx4 [1,1,0,1,0,0] (zv9 K E k1) (ze1 x0 x1 x4 x6 x7 v3 v8 j) =
 pv (za1 .none .lss v8 x7) λt1=>
 cnd t1 (
  pv (iaV none 1 x6 v8) λt2=>
  ld false 1 t2 λt3=>
  pv (za1 .none .leq t3 v3) λt4=>
  gdK t4 false (λk=>k t3) λt5=>
  gdK t4 false (λk=>pv (za1 .none .geq t5 (.int .i64 6)) k) λt6=>
  pv (zad t4 (.bool true) t6) λt7=>
  cnd t7 (
  K (.bool false)) (
  pv (za1 .none .add v8 (.int .i64 1)) λt8=>
  k1 (ze1 x0 x1 x4 x6 x7 t3 t8 (jf #[U,U,(j 2),U,U,t3,U,U,U,t1,t2,t3,t3,v3,t4,t4,t5,t6,t7,t3,t8])))) (
  K (.bool true)):=by kernel_rfl
abbrev yts:QD:=za7 Tryz.prog Tryz.f256.results.toList K E
abbrev yvh (p:List Nat):QD -> Env -> Hp -> Prop:=den Tryz.prog (sel (za3 Tryz.f256) p)
theorem yvt:yvh [] (yts K E) #[x0,U,U,U,U,U,U,U,U,U,U] =
 pv (zac x0) λt1=>
 pv (za1 .none .leq t1 (.int .i64 200)) λt2=>
 gdK t2 true (λk=>k x0) λt3=>
 gdK t2 true (λk=>cF 142 #[t3,(.func (.func 300) #[] #[])] k E) λt4=>
 gdK t2 true (λk=>pv (unV .not t4) k) λt5=>
 pv (zad t2 t5 (.bool false)) λt6=>
 K t6:=by kernel_rfl
abbrev yzg:QD:=za7 Tryz.prog Tryz.f257.results.toList K E
abbrev qam (p:List Nat):QD -> Env -> Hp -> Prop:=den Tryz.prog (sel (za3 Tryz.f257) p)
abbrev qd9:QD:=za7 Tryz.prog Tryz.f258.results.toList K E
abbrev qd4 (p:List Nat):QD -> Env -> Hp -> Prop:=den Tryz.prog (sel (za3 Tryz.f258) p)
abbrev qcj:QD:=za7 Tryz.prog Tryz.f259.results.toList K E
abbrev yzp (p:List Nat):QD -> Env -> Hp -> Prop:=den Tryz.prog (sel (za3 Tryz.f259) p)
abbrev ym6:QD:=za7 Tryz.prog Tryz.f260.results.toList K E
abbrev zyd (p:List Nat):QD -> Env -> Hp -> Prop:=den Tryz.prog (sel (za3 Tryz.f260) p)
abbrev zvb:=za8 k1 (blk 0 (za8 (zyd [1,1] (ym6 K E)) (ym6 K E)))
def zf5 (j:Nat -> Value):Env:=#[x0,x1,(j 2),(j 3),(j 4),x5,x6,v7,(j 8),(j 9),(j 10),(j 11),(j 12),(j 13),(j 14),(j 15),(j 16),(j 17),(j 18),(j 19),(j 20),(j 21),(j 22),(j 23),(j 24),(j 25),(j 26),(j 27),(j 28),(j 29),(j 30),(j 31),x32,x33,x34]
theorem ywr:zyd [] (ym6 K E) #[x0,U,U,U,U,U,U,U,U,U,U,U,U,U,U,U,U,U,U,U,U,U,U,U,U,U,U,U,U,U,U,U,U,U,U] =
 pv (zac x0) λt1=>
 lp (λk1=>zyd [1,0,1,0,0] (zvb K E k1)) (zf5 x0 U x0 t1 U U U (.int .i64 0) (jf #[U,U,(.bool false)])):=by kernel_rfl
theorem zxg:zyd [1,0,1,0,0] (zvb K E k1) (zf5 x0 x1 x5 x6 x32 x33 x34 v7 j) =
 pv (za1 .none .lss v7 x6) λt1=>
 cnd t1 (
  pv (iaV none 2 x5 v7) λt2=>
  ld true 2 t2 λt3=>
  nw 143 [(.int .u32 0),(.slice none 0 0)] λt4=>
  st 2 t4 t3 λ_=>
  pv (faV 1 t4) λt5=>
  ld false 1 t5 λt6=>
  cF 256 #[t6] (λt7=>
  pv (unV .not t7) λt8=>
  gdK t8 false (λk=>k v7) λt9=>
  gdK t8 false (λk=>pv (za1 .none .gtr t9 (.int .i64 0)) k) λt10=>
  gdK t8 false (λk=>k t10) λt11=>
  gdK t11 true (λk=>pv (faV 0 t4) k) λt12=>
  gdK t11 true (λk=>ld false 1 t12 k) λt13=>
  gdK t11 true (λk=>k x0) λt14=>
  gdK t11 true (λk=>k v7) λt15=>
  gdK t11 true (λk=>pv (za1 .none .sub t15 (.int .i64 1)) k) λt16=>
  gdK t11 true (λk=>pv (iaV none 2 t14 t16) k) λt17=>
  gdK t11 true (λk=>pv (faV 0 t17) k) λt18=>
  gdK t11 true (λk=>ld false 1 t18 k) λt19=>
  gdK t11 true (λk=>pv (za1 .none .leq t13 t19) k) λt20=>
  gdK t8 false (λk=>pv (zad t11 t20 (.bool false)) k) λt21=>
  pv (zad t8 (.bool true) t21) λt22=>
  cnd t22 (
  K (.bool false)) (
  pv (za1 .none .add v7 (.int .i64 1)) λt23=>
  k1 (zf5 x0 x1 x5 x6 x32 x33 x34 t23 (jf #[U,U,(j 2),v7,t4,U,U,U,t1,v7,t2,t3,t5,t6,t7,t8,t8,t9,t10,t11,t12,t13,t14,t15,t16,t17,t18,t19,t20,t21,t22,t23])))) E) (
  pv (zac x0) λt24=>
  pv (za1 .none .leq t24 (.int .i64 5000)) λt25=>
  K t25):=by kernel_rfl
abbrev yxg:QD:=za7 Tryz.prog Tryz.f261.results.toList K E
abbrev yx3 (p:List Nat):QD -> Env -> Hp -> Prop:=den Tryz.prog (sel (za3 Tryz.f261) p)
theorem yyf:yx3 [] (yxg K E) #[x0,U,U,U,U,U,U,U,U,U,U,U,U,U,U,U,U,U,U,U,U,U,U,U,U,U,U,U,U,U,U,U,U,U,U,U,U,U,U,U,U,U,U,U,U,U,U,U,U,U,U,U,U,U,U,U,U] =
 nw 77 (Value.cells x0).toList λt1=>
 pv (faV 0 t1) λt2=>
 ld false 1 t2 λt3=>
 pv (za1 .none .eql t3 (.int .u8 0)) λt4=>
 gdK t4 true (λk=>pv (faV 1 t1) k) λt5=>
 gdK t4 true (λk=>ld false 1 t5 k) λt6=>
 gdK t4 true (λk=>pv (za1 .none .eql t6 (.int .u32 0)) k) λt7=>
 pv (zad t4 t7 (.bool false)) λt8=>
 gdK t8 true (λk=>pv (faV 2 t1) k) λt9=>
 gdK t8 true (λk=>ld false 1 t9 k) λt10=>
 gdK t8 true (λk=>pv (za1 .none .eql t10 (.int .u32 0)) k) λt11=>
 pv (zad t8 t11 (.bool false)) λt12=>
 gdK t12 true (λk=>pv (faV 3 t1) k) λt13=>
 gdK t12 true (λk=>ld false 1 t13 k) λt14=>
 gdK t12 true (λk=>pv (zac t14) k) λt15=>
 gdK t12 true (λk=>pv (za1 .none .eql t15 (.int .i64 0)) k) λt16=>
 pv (zad t12 t16 (.bool false)) λt17=>
 gdK t17 true (λk=>pv (faV 4 t1) k) λt18=>
 gdK t17 true (λk=>ld false 1 t18 k) λt19=>
 gdK t17 true (λk=>pv (zac t19) k) λt20=>
 gdK t17 true (λk=>pv (za1 .none .eql t20 (.int .i64 0)) k) λt21=>
 pv (zad t17 t21 (.bool false)) λt22=>
 gdK t22 true (λk=>pv (faV 5 t1) k) λt23=>
 gdK t22 true (λk=>pv (faV 0 t23) k) λt24=>
 gdK t22 true (λk=>ld false 1 t24 k) λt25=>
 gdK t22 true (λk=>pv (za1 .none .eql t25 (.int .u32 0)) k) λt26=>
 pv (zad t22 t26 (.bool false)) λt27=>
 gdK t27 true (λk=>pv (faV 5 t1) k) λt28=>
 gdK t27 true (λk=>pv (faV 1 t28) k) λt29=>
 gdK t27 true (λk=>ld false 1 t29 k) λt30=>
 gdK t27 true (λk=>pv (zac t30) k) λt31=>
 gdK t27 true (λk=>pv (za1 .none .eql t31 (.int .i64 0)) k) λt32=>
 pv (zad t27 t32 (.bool false)) λt33=>
 gdK t33 true (λk=>pv (faV 7 t1) k) λt34=>
 gdK t33 true (λk=>ld false 1 t34 k) λt35=>
 gdK t33 true (λk=>pv (za1 .none .eql t35 (.int .i64 0)) k) λt36=>
 pv (zad t33 t36 (.bool false)) λt37=>
 gdK t37 true (λk=>pv (faV 8 t1) k) λt38=>
 gdK t37 true (λk=>ld false 1 t38 k) λt39=>
 gdK t37 true (λk=>pv (za1 .none .eql t39 (.int .i64 0)) k) λt40=>
 pv (zad t37 t40 (.bool false)) λt41=>
 gdK t41 true (λk=>pv (faV 9 t1) k) λt42=>
 gdK t41 true (λk=>ld false 1 t42 k) λt43=>
 gdK t41 true (λk=>pv (zac t43) k) λt44=>
 gdK t41 true (λk=>pv (za1 .none .eql t44 (.int .i64 0)) k) λt45=>
 pv (zad t41 t45 (.bool false)) λt46=>
 K t46:=by kernel_rfl
abbrev yaz:QD:=za7 Tryz.prog Tryz.f263.results.toList K E
abbrev yat (p:List Nat):QD -> Env -> Hp -> Prop:=den Tryz.prog (sel (za3 Tryz.f263) p)
def zhp (j:Nat -> Value):Env:=#[x0,x1,x2,x3,x4,x5,(j 6),x7,v8,(j 9),(j 10),(j 11),(j 12),(j 13),(j 14),(j 15),(j 16),(j 17),(j 18),(j 19),(j 20),(j 21),(j 22)]
theorem yw6:yat [] (yaz K E) #[x0,x1,x2,U,U,U,U,U,U,U,U,U,U,U,U,U,U,U,U,U,U,U,U] =
 lp (λk1=>yat [1,0,0] (za8 k1 (blk 0 (yaz K E)))) (zhp x0 x1 x2 U U U x2 (.int .i64 0) (jf #[])):=by kernel_rfl
theorem yes:yat [1,0,0] (za8 k1 (blk 0 (yaz K E))) (zhp x0 x1 x2 x3 x4 x5 x7 v8 j) =
 pv (za1 .none .lss v8 x7) λt1=>
 cnd t1 (
  pv (cvV .u64 x1) λt2=>
  pv (za1 .none .sub x2 (.int .i64 1)) λt3=>
  pv (za1 .none .sub t3 v8) λt4=>
  pv (za1 .none .mul (.int .i64 8) t4) λt5=>
  pv (za1 .none .shr t2 t5) λt6=>
  pv (cvV .u8 t6) λt7=>
  cF 262 #[x0,t7] (λt8=>
  pv (za1 .none .add v8 (.int .i64 1)) λt9=>
  k1 (zhp x0 x1 x2 x3 x4 x5 x7 t9 (jf #[U,U,U,U,U,U,v8,U,U,t1,v8,x0,x1,t2,x2,t3,v8,t4,t5,t6,t7,t8,t9]))) E) (
  K (.tuple #[])):=by kernel_rfl
abbrev yfa:QD:=za7 Tryz.prog Tryz.f299.results.toList K E
abbrev yf8 (p:List Nat):QD -> Env -> Hp -> Prop:=den Tryz.prog (sel (za3 Tryz.f299) p)
theorem ywx:yf8 [] (yfa K E) #[x0,x1,x2,U,U,U,U,U,U,U,U,U,U,U,U,U,U,U,U,U,U,U,U,U,U] =
 cF 250 #[x0,x1] (λt1=>
 pv (zai x0) λt2=>
 pv (faV 0 t2) λt3=>
 ld false 1 t3 λt4=>
 pv (zac t4) λt5=>
 pv (za1 .none .quo t5 x2) λt6=>
 pv (cvV .u64 t6) λt7=>
 pv (za1 .none .gtr t1 t7) λt8=>
 cnd t8 (
  pv (bdC #[] [] #[]) λt9=>
  pv (zoa 286 t9) λt10=>
  pnc t10 E λ_=>
  yf8 [1,1,1] (yfa K E) #[x0,x1,x2,U,U,U,(.int .i64 0),t1,x0,x1,t1,t1,x0,t2,t3,t4,t5,x2,t6,t7,t8,t9,t10,U,U]) (
  yf8 [1,1,1] (yfa K E) #[x0,x1,x2,U,U,U,(.int .i64 0),t1,x0,x1,t1,t1,x0,t2,t3,t4,t5,x2,t6,t7,t8,U,U,U,U])) E:=by kernel_rfl
theorem yf1:yf8 [1,1,1] (yfa K E) #[x0,x1,x2,x3,x4,x5,x6,x7,x8,x9,x10,x11,x12,x13,x14,x15,x16,x17,x18,x19,x20,x21,x22,x23,x24] =
 pv (cvV .i64 x7) λt1=>
 K t1:=by kernel_rfl
abbrev yu6:QD:=za7 Tryz.prog Tryz.f300.results.toList K E
abbrev yub (p:List Nat):QD -> Env -> Hp -> Prop:=den Tryz.prog (sel (za3 Tryz.f300) p)
theorem yw1:yub [] (yu6 K E) #[x0,U,U,U,U,U] =
 nw 110 (Value.cells x0).toList λt1=>
 ld true 2 t1 λt2=>
 cF 301 #[t2] (λt3=>
 pv (unV .not t3) λt4=>
 K t4) E:=by kernel_rfl
abbrev yu7:QD:=za7 Tryz.prog Tryz.f301.results.toList K E
abbrev yuk (p:List Nat):QD -> Env -> Hp -> Prop:=den Tryz.prog (sel (za3 Tryz.f301) p)
theorem yu2:yuk [] (yu7 K E) #[x0,U,U,U,U,U,U,U,U,U,U,U,U] =
 nw 110 (Value.cells x0).toList λt1=>
 pv (faV 0 t1) λt2=>
 ld false 1 t2 λt3=>
 pv (zac t3) λt4=>
 pv (za1 .none .leq t4 (.int .i64 4)) λt5=>
 gdK t5 true (λk=>pv (faV 0 t1) k) λt6=>
 gdK t5 true (λk=>ld false 1 t6 k) λt7=>
 gdK t5 true (λk=>cF 310 #[t7,(.func (.func 320) #[] #[])] k E) λt8=>
 gdK t5 true (λk=>pv (unV .not t8) k) λt9=>
 pv (zad t5 t9 (.bool false)) λt10=>
 K t10:=by kernel_rfl
abbrev qb4:QD:=za7 Tryz.prog Tryz.f302.results.toList K E
abbrev qbc (p:List Nat):QD -> Env -> Hp -> Prop:=den Tryz.prog (sel (za3 Tryz.f302) p)
abbrev yvv:QD:=za7 Tryz.prog Tryz.f320.results.toList K E
abbrev yy3 (p:List Nat):QD -> Env -> Hp -> Prop:=den Tryz.prog (sel (za3 Tryz.f320) p)
theorem yvm:yy3 [] (yvv K E) #[x0,U,U,U,U,U,U,U,U] =
 pv (za1 .none .lss x0 (.int .i64 0)) λt1=>
 gdK t1 false (λk=>k x0) λt2=>
 gdK t1 false (λk=>pv (za1 .none .gtr t2 (.int .i64 9999)) k) λt3=>
 pv (zad t1 (.bool true) t3) λt4=>
 K t4:=by kernel_rfl
end
section
variable {K:zae} {E:zb2} {k1 k2:Env -> Hp -> Prop} {σ:Type} {x0 x1 x2 x3 x4 x5 x6 x7 x8 x9 x10 x11 x12 x13 x14 x15 x16 x17 x18 x19 x20 x21 x22 x23 x24 x25 x26 x27 x28 x29 x30 x31 x32 x33 x34 x35 x36 x37 x38 x39 x40 x41 x42 x43 x44 x45 x46 x47 x48 x49 x50 x51 x52 x53 x54 x55 x56 x57 x58 x72 x73 x74 x75 x76 x77 x78 x79 x80 x81 x82 x83 x84 x85 x86 x87 x88 x89 x90 v3 v5 v7 v8 v10 v11 v12 v14 v24 v26 v27 v59:Value} {h:Hp} {j:Nat -> Value}
theorem znv (f59:σ -> Value) (I:σ -> Hp -> Prop) (μ:σ -> Nat) (s0:σ) (e59:v59=f59 s0) (h0:h.wf -> ∃ h',h.wk h'∧I s0 h')
 (round:∀ (k1:Env -> Hp -> Prop) (s:σ) (j:Nat -> Value) (h:Hp),I s h -> h.wf -> (∀ s' j' h',μ s'<μ s -> (h'.wf -> ∃ h'',h'.wk h''∧I s' h'') -> k1 (zb5 x0 x1 x2 x3 x4 x5 x7 x8 x9 x10 x11 x12 x13 x14 x15 x16 x17 x18 x19 x20 x21 x22 x23 x24 x25 x26 x27 x28 x29 x30 x31 x32 x33 x34 x35 x36 x37 x38 x39 x40 x41 x42 x43 x44 x45 x46 x47 x48 x49 x50 x51 x52 x53 x54 x55 x56 x57 x58 x72 x73 x74 x75 x76 x77 x78 x79 x80 x81 x82 x83 x84 x85 x86 x87 x88 x89 x90 (f59 s') j') h') -> zks [1,1,1,1,1,0,1,0,1,1,1,1,1,0,1,1,1,0,0] (zwd K E k1) (zb5 x0 x1 x2 x3 x4 x5 x7 x8 x9 x10 x11 x12 x13 x14 x15 x16 x17 x18 x19 x20 x21 x22 x23 x24 x25 x26 x27 x28 x29 x30 x31 x32 x33 x34 x35 x36 x37 x38 x39 x40 x41 x42 x43 x44 x45 x46 x47 x48 x49 x50 x51 x52 x53 x54 x55 x56 x57 x58 x72 x73 x74 x75 x76 x77 x78 x79 x80 x81 x82 x83 x84 x85 x86 x87 x88 x89 x90 (f59 s) j) h) :
 lp (λk1=>zks [1,1,1,1,1,0,1,0,1,1,1,1,1,0,1,1,1,0,0] (zwd K E k1)) (zb5 x0 x1 x2 x3 x4 x5 x7 x8 x9 x10 x11 x12 x13 x14 x15 x16 x17 x18 x19 x20 x21 x22 x23 x24 x25 x26 x27 x28 x29 x30 x31 x32 x33 x34 x35 x36 x37 x38 x39 x40 x41 x42 x43 x44 x45 x46 x47 x48 x49 x50 x51 x52 x53 x54 x55 x56 x57 x58 x72 x73 x74 x75 x76 x77 x78 x79 x80 x81 x82 x83 x84 x85 x86 x87 x88 x89 x90 v59 j) h:=by
 subst e59;exact zaw _ I μ round s0 j h0
theorem yeq (f8:σ -> Value) (I:σ -> Hp -> Prop) (μ:σ -> Nat) (s0:σ) (e8:v8=f8 s0) (h0:h.wf -> ∃ h',h.wk h'∧I s0 h')
 (round:∀ (k1:Env -> Hp -> Prop) (s:σ) (j:Nat -> Value) (h:Hp),I s h -> h.wf -> (∀ s' j' h',μ s'<μ s -> (h'.wf -> ∃ h'',h'.wk h''∧I s' h'') -> k1 (zhu x0 x1 x2 x3 x4 x5 x7 (f8 s') j') h') -> yaj [1,0,0] (za8 k1 (blk 0 (yb8 K E))) (zhu x0 x1 x2 x3 x4 x5 x7 (f8 s) j) h) :
 lp (λk1=>yaj [1,0,0] (za8 k1 (blk 0 (yb8 K E)))) (zhu x0 x1 x2 x3 x4 x5 x7 v8 j) h:=by
 subst e8;exact zaw _ I μ round s0 j h0
theorem yg3 (f8:σ -> Value) (I:σ -> Hp -> Prop) (μ:σ -> Nat) (s0:σ) (e8:v8=f8 s0) (h0:h.wf -> ∃ h',h.wk h'∧I s0 h')
 (round:∀ (k1:Env -> Hp -> Prop) (s:σ) (j:Nat -> Value) (h:Hp),I s h -> h.wf -> (∀ s' j' h',μ s'<μ s -> (h'.wf -> ∃ h'',h'.wk h''∧I s' h'') -> k1 (zhr x0 x1 x2 x3 x4 x5 x7 (f8 s') j') h') -> yag [1,0,0] (za8 k1 (blk 0 (ycl K E))) (zhr x0 x1 x2 x3 x4 x5 x7 (f8 s) j) h) :
 lp (λk1=>yag [1,0,0] (za8 k1 (blk 0 (ycl K E)))) (zhr x0 x1 x2 x3 x4 x5 x7 v8 j) h:=by
 subst e8;exact zaw _ I μ round s0 j h0
theorem ybi (f12:σ -> Value) (I:σ -> Hp -> Prop) (μ:σ -> Nat) (s0:σ) (e12:v12=f12 s0) (h0:h.wf -> ∃ h',h.wk h'∧I s0 h')
 (round:∀ (k1:Env -> Hp -> Prop) (s:σ) (j:Nat -> Value) (h:Hp),I s h -> h.wf -> (∀ s' j' h',μ s'<μ s -> (h'.wf -> ∃ h'',h'.wk h''∧I s' h'') -> k1 (zgl x0 x1 x2 x3 x4 x6 x7 x8 x9 x10 x11 (f12 s') j') h') -> yao [1,1,0,0] (za8 k1 (blk 0 (yc2 K E))) (zgl x0 x1 x2 x3 x4 x6 x7 x8 x9 x10 x11 (f12 s) j) h) :
 lp (λk1=>yao [1,1,0,0] (za8 k1 (blk 0 (yc2 K E)))) (zgl x0 x1 x2 x3 x4 x6 x7 x8 x9 x10 x11 v12 j) h:=by
 subst e12;exact zaw _ I μ round s0 j h0
theorem yau (f14:σ -> Value) (I:σ -> Hp -> Prop) (μ:σ -> Nat) (s0:σ) (e14:v14=f14 s0) (h0:h.wf -> ∃ h',h.wk h'∧I s0 h')
 (round:∀ (k1:Env -> Hp -> Prop) (s:σ) (j:Nat -> Value) (h:Hp),I s h -> h.wf -> (∀ s' j' h',μ s'<μ s -> (h'.wf -> ∃ h'',h'.wk h''∧I s' h'') -> k1 (zgc x0 x1 x2 x3 x4 x6 x8 x9 x10 x11 x12 x13 (f14 s') j') h') -> zkw [1,1,0,0] (za8 k1 (blk 0 (zo7 K E))) (zgc x0 x1 x2 x3 x4 x6 x8 x9 x10 x11 x12 x13 (f14 s) j) h) :
 lp (λk1=>zkw [1,1,0,0] (za8 k1 (blk 0 (zo7 K E)))) (zgc x0 x1 x2 x3 x4 x6 x8 x9 x10 x11 x12 x13 v14 j) h:=by
 subst e14;exact zaw _ I μ round s0 j h0
theorem zio (f26:σ -> Value) (I:σ -> Hp -> Prop) (μ:σ -> Nat) (s0:σ) (e26:v26=f26 s0) (h0:h.wf -> ∃ h',h.wk h'∧I s0 h')
 (round:∀ (k2:Env -> Hp -> Prop) (s:σ) (j:Nat -> Value) (h:Hp),I s h -> h.wf -> (∀ s' j' h',μ s'<μ s -> (h'.wf -> ∃ h'',h'.wk h''∧I s' h'') -> k2 (zbt x0 x1 x2 x3 x4 x5 x6 x8 x9 x10 x11 x12 x13 x14 x15 x16 x17 x18 x19 x20 x21 x22 x23 x24 x25 x34 x35 x36 x37 x38 (f26 s') j') h') -> zkw [1,1,0,0,1,1,0,0,1,1,0,1,0,0] (zui K E k1 k2) (zbt x0 x1 x2 x3 x4 x5 x6 x8 x9 x10 x11 x12 x13 x14 x15 x16 x17 x18 x19 x20 x21 x22 x23 x24 x25 x34 x35 x36 x37 x38 (f26 s) j) h) :
 lp (λk2=>zkw [1,1,0,0,1,1,0,0,1,1,0,1,0,0] (zui K E k1 k2)) (zbt x0 x1 x2 x3 x4 x5 x6 x8 x9 x10 x11 x12 x13 x14 x15 x16 x17 x18 x19 x20 x21 x22 x23 x24 x25 x34 x35 x36 x37 x38 v26 j) h:=by
 subst e26;exact zaw _ I μ round s0 j h0
theorem yf0 (f8:σ -> Value) (I:σ -> Hp -> Prop) (μ:σ -> Nat) (s0:σ) (e8:v8=f8 s0) (h0:h.wf -> ∃ h',h.wk h'∧I s0 h')
 (round:∀ (k1:Env -> Hp -> Prop) (s:σ) (j:Nat -> Value) (h:Hp),I s h -> h.wf -> (∀ s' j' h',μ s'<μ s -> (h'.wf -> ∃ h'',h'.wk h''∧I s' h'') -> k1 (zhv x0 x1 x2 x3 x4 x5 x7 (f8 s') j') h') -> yct [1,0,0] (za8 k1 (blk 0 (ycc K E))) (zhv x0 x1 x2 x3 x4 x5 x7 (f8 s) j) h) :
 lp (λk1=>yct [1,0,0] (za8 k1 (blk 0 (ycc K E)))) (zhv x0 x1 x2 x3 x4 x5 x7 v8 j) h:=by
 subst e8;exact zaw _ I μ round s0 j h0
theorem yav (f12:σ -> Value) (I:σ -> Hp -> Prop) (μ:σ -> Nat) (s0:σ) (e12:v12=f12 s0) (h0:h.wf -> ∃ h',h.wk h'∧I s0 h')
 (round:∀ (k1:Env -> Hp -> Prop) (s:σ) (j:Nat -> Value) (h:Hp),I s h -> h.wf -> (∀ s' j' h',μ s'<μ s -> (h'.wf -> ∃ h'',h'.wk h''∧I s' h'') -> k1 (zg9 x0 x1 x2 x3 x4 x6 x7 x8 x9 x10 x11 (f12 s') j') h') -> ybb [1,1,0,0] (za8 k1 (blk 0 (yc1 K E))) (zg9 x0 x1 x2 x3 x4 x6 x7 x8 x9 x10 x11 (f12 s) j) h) :
 lp (λk1=>ybb [1,1,0,0] (za8 k1 (blk 0 (yc1 K E)))) (zg9 x0 x1 x2 x3 x4 x6 x7 x8 x9 x10 x11 v12 j) h:=by
 subst e12;exact zaw _ I μ round s0 j h0
theorem zqp (f5 f24:σ -> Value) (I:σ -> Hp -> Prop) (μ:σ -> Nat) (s0:σ) (e5:v5=f5 s0) (e24:v24=f24 s0) (h0:h.wf -> ∃ h',h.wk h'∧I s0 h')
 (round:∀ (k1:Env -> Hp -> Prop) (s:σ) (j:Nat -> Value) (h:Hp),I s h -> h.wf -> (∀ s' j' h',μ s'<μ s -> (h'.wf -> ∃ h'',h'.wk h''∧I s' h'') -> k1 (zdb x0 x1 x2 x3 x4 x6 x8 x9 x10 x11 x12 x13 x14 x15 x16 x17 x18 x19 x20 x21 x22 x23 x34 x35 x36 x37 x38 x39 x40 x41 x42 x43 (f5 s') (f24 s') j') h') -> zob [1,1,1,0,1,0,0] (zve K E k1) (zdb x0 x1 x2 x3 x4 x6 x8 x9 x10 x11 x12 x13 x14 x15 x16 x17 x18 x19 x20 x21 x22 x23 x34 x35 x36 x37 x38 x39 x40 x41 x42 x43 (f5 s) (f24 s) j) h) :
 lp (λk1=>zob [1,1,1,0,1,0,0] (zve K E k1)) (zdb x0 x1 x2 x3 x4 x6 x8 x9 x10 x11 x12 x13 x14 x15 x16 x17 x18 x19 x20 x21 x22 x23 x34 x35 x36 x37 x38 x39 x40 x41 x42 x43 v5 v24 j) h:=by
 subst e5;subst e24;exact zaw _ I μ round s0 j h0
theorem zsi (f10:σ -> Value) (I:σ -> Hp -> Prop) (μ:σ -> Nat) (s0:σ) (e10:v10=f10 s0) (h0:h.wf -> ∃ h',h.wk h'∧I s0 h')
 (round:∀ (k1:Env -> Hp -> Prop) (s:σ) (j:Nat -> Value) (h:Hp),I s h -> h.wf -> (∀ s' j' h',μ s'<μ s -> (h'.wf -> ∃ h'',h'.wk h''∧I s' h'') -> k1 (ze7 x0 x1 x2 x3 x5 x6 x7 x8 x9 x20 (f10 s') j') h') -> zy3 [1,1,0,1,0,0] (zus K E k1) (ze7 x0 x1 x2 x3 x5 x6 x7 x8 x9 x20 (f10 s) j) h) :
 lp (λk1=>zy3 [1,1,0,1,0,0] (zus K E k1)) (ze7 x0 x1 x2 x3 x5 x6 x7 x8 x9 x20 v10 j) h:=by
 subst e10;exact zaw _ I μ round s0 j h0
theorem zto (f11:σ -> Value) (I:σ -> Hp -> Prop) (μ:σ -> Nat) (s0:σ) (e11:v11=f11 s0) (h0:h.wf -> ∃ h',h.wk h'∧I s0 h')
 (round:∀ (k1:Env -> Hp -> Prop) (s:σ) (j:Nat -> Value) (h:Hp),I s h -> h.wf -> (∀ s' j' h',μ s'<μ s -> (h'.wf -> ∃ h'',h'.wk h''∧I s' h'') -> k1 (ze3 x0 x1 x2 x3 x6 x7 x8 x9 x10 x49 (f11 s') j') h') -> zhc [1,1,0,1,0,0] (ztx K E k1) (ze3 x0 x1 x2 x3 x6 x7 x8 x9 x10 x49 (f11 s) j) h) :
 lp (λk1=>zhc [1,1,0,1,0,0] (ztx K E k1)) (ze3 x0 x1 x2 x3 x6 x7 x8 x9 x10 x49 v11 j) h:=by
 subst e11;exact zaw _ I μ round s0 j h0
theorem zha (f27:σ -> Value) (I:σ -> Hp -> Prop) (μ:σ -> Nat) (s0:σ) (e27:v27=f27 s0) (h0:h.wf -> ∃ h',h.wk h'∧I s0 h')
 (round:∀ (k2:Env -> Hp -> Prop) (s:σ) (j:Nat -> Value) (h:Hp),I s h -> h.wf -> (∀ s' j' h',μ s'<μ s -> (h'.wf -> ∃ h'',h'.wk h''∧I s' h'') -> k2 (zbh x0 x1 x2 x3 x4 x6 x7 x8 x9 x10 x11 x12 x13 x14 x15 x16 x17 x18 x19 x20 x21 x22 x23 x24 x25 x26 x41 x42 x43 x44 x45 x46 x47 x48 x49 (f27 s') j') h') -> zhc [1,1,0,1,0,0,1,1,0,0,1,1,0,1,0,0] (zvo K E k1 k2) (zbh x0 x1 x2 x3 x4 x6 x7 x8 x9 x10 x11 x12 x13 x14 x15 x16 x17 x18 x19 x20 x21 x22 x23 x24 x25 x26 x41 x42 x43 x44 x45 x46 x47 x48 x49 (f27 s) j) h) :
 lp (λk2=>zhc [1,1,0,1,0,0,1,1,0,0,1,1,0,1,0,0] (zvo K E k1 k2)) (zbh x0 x1 x2 x3 x4 x6 x7 x8 x9 x10 x11 x12 x13 x14 x15 x16 x17 x18 x19 x20 x21 x22 x23 x24 x25 x26 x41 x42 x43 x44 x45 x46 x47 x48 x49 v27 j) h:=by
 subst e27;exact zaw _ I μ round s0 j h0
theorem zsu (f10:σ -> Value) (I:σ -> Hp -> Prop) (μ:σ -> Nat) (s0:σ) (e10:v10=f10 s0) (h0:h.wf -> ∃ h',h.wk h'∧I s0 h')
 (round:∀ (k1:Env -> Hp -> Prop) (s:σ) (j:Nat -> Value) (h:Hp),I s h -> h.wf -> (∀ s' j' h',μ s'<μ s -> (h'.wf -> ∃ h'',h'.wk h''∧I s' h'') -> k1 (ze4 x0 x1 x2 x3 x5 x6 x7 x8 x9 x27 (f10 s') j') h') -> zwl [1,1,0,1,0,0] (zuw K E k1) (ze4 x0 x1 x2 x3 x5 x6 x7 x8 x9 x27 (f10 s) j) h) :
 lp (λk1=>zwl [1,1,0,1,0,0] (zuw K E k1)) (ze4 x0 x1 x2 x3 x5 x6 x7 x8 x9 x27 v10 j) h:=by
 subst e10;exact zaw _ I μ round s0 j h0
theorem zsv (f3 f8:σ -> Value) (I:σ -> Hp -> Prop) (μ:σ -> Nat) (s0:σ) (e3:v3=f3 s0) (e8:v8=f8 s0) (h0:h.wf -> ∃ h',h.wk h'∧I s0 h')
 (round:∀ (k1:Env -> Hp -> Prop) (s:σ) (j:Nat -> Value) (h:Hp),I s h -> h.wf -> (∀ s' j' h',μ s'<μ s -> (h'.wf -> ∃ h'',h'.wk h''∧I s' h'') -> k1 (ze1 x0 x1 x4 x6 x7 (f3 s') (f8 s') j') h') -> zx4 [1,1,0,1,0,0] (zv9 K E k1) (ze1 x0 x1 x4 x6 x7 (f3 s) (f8 s) j) h) :
 lp (λk1=>zx4 [1,1,0,1,0,0] (zv9 K E k1)) (ze1 x0 x1 x4 x6 x7 v3 v8 j) h:=by
 subst e3;subst e8;exact zaw _ I μ round s0 j h0
theorem zwx (f7:σ -> Value) (I:σ -> Hp -> Prop) (μ:σ -> Nat) (s0:σ) (e7:v7=f7 s0) (h0:h.wf -> ∃ h',h.wk h'∧I s0 h')
 (round:∀ (k1:Env -> Hp -> Prop) (s:σ) (j:Nat -> Value) (h:Hp),I s h -> h.wf -> (∀ s' j' h',μ s'<μ s -> (h'.wf -> ∃ h'',h'.wk h''∧I s' h'') -> k1 (zf5 x0 x1 x5 x6 x32 x33 x34 (f7 s') j') h') -> zyd [1,0,1,0,0] (zvb K E k1) (zf5 x0 x1 x5 x6 x32 x33 x34 (f7 s) j) h) :
 lp (λk1=>zyd [1,0,1,0,0] (zvb K E k1)) (zf5 x0 x1 x5 x6 x32 x33 x34 v7 j) h:=by
 subst e7;exact zaw _ I μ round s0 j h0
theorem yg2 (f8:σ -> Value) (I:σ -> Hp -> Prop) (μ:σ -> Nat) (s0:σ) (e8:v8=f8 s0) (h0:h.wf -> ∃ h',h.wk h'∧I s0 h')
 (round:∀ (k1:Env -> Hp -> Prop) (s:σ) (j:Nat -> Value) (h:Hp),I s h -> h.wf -> (∀ s' j' h',μ s'<μ s -> (h'.wf -> ∃ h'',h'.wk h''∧I s' h'') -> k1 (zhp x0 x1 x2 x3 x4 x5 x7 (f8 s') j') h') -> yat [1,0,0] (za8 k1 (blk 0 (yaz K E))) (zhp x0 x1 x2 x3 x4 x5 x7 (f8 s) j) h) :
 lp (λk1=>yat [1,0,0] (za8 k1 (blk 0 (yaz K E)))) (zhp x0 x1 x2 x3 x4 x5 x7 v8 j) h:=by
 subst e8;exact zaw _ I μ round s0 j h0
end
section
variable (K:zae) (E:zb2) (k1 k2:Env -> Hp -> Prop) (x0 x1 x2 x3 x4 x5 x6 x7 x8 x9 x10 x11 x12 x13 x14 x15 x16 x17 x18 x19 x20 x21 x22 x23 x24 x25 x26 x27 x28 x29 x30 x31 x32 x33 x34 x35 x36 x37 x38 x39 x40 x41 x42 x43 x44 x45 x46 x47 x48 x49 x50 x51 x52 x53 x54 x55 x56 x57 x58 x59 x60 x61 x62 x63 x64 x65 x66 x67 x68 x69 x70 x71 x72 x73 x74 x75 x76 x77 x78 x79 x80 x81 x82 x83 x84 x85 x86 x87 x88 x89 x90 x91 x92 x93 x94 x95 x96 x97 x98 x99 x100 x101 x102 x103 x104 x105 x106 x107 x108 x109 x110 x111 x112 x113 x114 x115 x116 x117 x118 x119 x120 x121 x122 x123 x124 x125 x126 x127 x128 x129 x130 x131 x132 x133 v1 v2 v3 v5 v6 v7 v8 v9:Value) (j:Nat -> Value)
abbrev q55:QD:=za7 Tryz.prog Tryz.f55.results.toList K E
abbrev d55 (p:List Nat):QD -> Env -> Hp -> Prop:=den Tryz.prog (sel (za3 Tryz.f55) p)
theorem t55:d55 [] (q55 K E) #[x0,U,U,U,U,U,U,U,U] =
 cF 109 #[x0] (λt1=>
 cF 110 #[t1] (λt2=>
 K t1) E) E:=by kernel_rfl
abbrev q56:QD:=za7 Tryz.prog Tryz.f56.results.toList K E
abbrev d56 (p:List Nat):QD -> Env -> Hp -> Prop:=den Tryz.prog (sel (za3 Tryz.f56) p)
theorem t56:d56 [] (q56 K E) #[x0,U,U,U] =
 nw 56 (Value.cells x0).toList λt1=>
 K (.func (.func 111) #[] #[t1]):=by kernel_rfl
abbrev q57:QD:=za7 Tryz.prog Tryz.f57.results.toList K E
abbrev d57 (p:List Nat):QD -> Env -> Hp -> Prop:=den Tryz.prog (sel (za3 Tryz.f57) p)
theorem t57:d57 [] (q57 K E) #[x0,x1,U,U,U,U,U,U] =
 ld false 1 x1 λt1=>
 cF 58 #[t1,x0] (λt2=>
 pv (unV .not t2) λt3=>
 K t3) E:=by kernel_rfl
abbrev q58:QD:=za7 Tryz.prog Tryz.f58.results.toList K E
abbrev d58 (p:List Nat):QD -> Env -> Hp -> Prop:=den Tryz.prog (sel (za3 Tryz.f58) p)
theorem t58:d58 [] (q58 K E) #[x0,x1,U,U,U,U,U,U,U,U,U,U,U,U] =
 pv (zai x0) λt1=>
 pv (faV 1 t1) λt2=>
 ld false 1 t2 λt3=>
 lkp Tryz.prog 56 t3 x1 false λt4=>
 pv (fdV true 0 2 t4) λt5=>
 pv (fdV false 0 1 t5) λt6=>
 pv (za1 .none .eql t6 (.int .u8 1)) λt7=>
 K t7:=by kernel_rfl
abbrev yzn:QD:=za7 Tryz.prog Tryz.f109.results.toList K E
abbrev qbe (p:List Nat):QD -> Env -> Hp -> Prop:=den Tryz.prog (sel (za3 Tryz.f109) p)
abbrev yy6:QD:=za7 Tryz.prog Tryz.f110.results.toList K E
abbrev yvd (p:List Nat):QD -> Env -> Hp -> Prop:=den Tryz.prog (sel (za3 Tryz.f110) p)
theorem zp0:yvd [] (yy6 K E) #[x0,U,U,U,U,U,U,U,U,U,U] =
 pv (zac x0) λt1=>
 pv (cvV .u64 t1) λt2=>
 cF 155 #[t2] (λt3=>
 cF 154 #[x0,(.int .i64 0),t1,t3] (λt4=>
 K (.tuple #[])) E) E:=by kernel_rfl
abbrev zjc:QD:=za7 Tryz.prog Tryz.f154.results.toList K E
abbrev zjk (p:List Nat):QD -> Env -> Hp -> Prop:=den Tryz.prog (sel (za3 Tryz.f154) p)
def zee (j:Nat -> Value):Env:=#[x0,v1,v2,v3,x4,x5,x6,x7,v8,v9,(j 10),(j 11),(j 12),(j 13),(j 14),(j 15),(j 16),(j 17),(j 18),(j 19),(j 20),(j 21),(j 22),(j 23),(j 24),(j 25),(j 26),(j 27),(j 28),(j 29),(j 30),(j 31),(j 32),(j 33),(j 34),(j 35),(j 36),(j 37),(j 38),(j 39),(j 40),(j 41),(j 42),(j 43),(j 44),(j 45),(j 46),(j 47),(j 48),(j 49),(j 50),(j 51),(j 52),(j 53),(j 54),(j 55),(j 56),(j 57),(j 58),(j 59),(j 60),(j 61),(j 62),(j 63),(j 64),(j 65),(j 66),(j 67),(j 68),(j 69),(j 70),(j 71),(j 72),(j 73),(j 74),(j 75),(j 76),(j 77),(j 78),(j 79),(j 80),(j 81),(j 82),(j 83),(j 84),(j 85),(j 86),(j 87),(j 88),(j 89),(j 90),(j 91),(j 92),(j 93),(j 94),(j 95),(j 96),(j 97),(j 98),(j 99),(j 100),(j 101),(j 102),(j 103),(j 104),(j 105),(j 106),(j 107),(j 108),(j 109),(j 110),(j 111),(j 112),(j 113),(j 114),(j 115),(j 116),(j 117),(j 118),(j 119),(j 120),(j 121),(j 122),(j 123),(j 124),(j 125),(j 126),(j 127),(j 128),(j 129),(j 130),(j 131),(j 132),(j 133)]
theorem ytg:zjk [] (zjc K E) #[x0,x1,x2,x3,U,U,U,U,U,U,U,U,U,U,U,U,U,U,U,U,U,U,U,U,U,U,U,U,U,U,U,U,U,U,U,U,U,U,U,U,U,U,U,U,U,U,U,U,U,U,U,U,U,U,U,U,U,U,U,U,U,U,U,U,U,U,U,U,U,U,U,U,U,U,U,U,U,U,U,U,U,U,U,U,U,U,U,U,U,U,U,U,U,U,U,U,U,U,U,U,U,U,U,U,U,U,U,U,U,U,U,U,U,U,U,U,U,U,U,U,U,U,U,U,U,U,U,U,U,U,U,U,U,U] =
 lp (λk1=>zjk [1,1,0,0] (za8 k1 (blk 0 (zjc K E)))) (zee x0 U U U U x1 x2 x3 (.bool true) (.bool true) (jf #[])):=by kernel_rfl
theorem yal:zjk [1,1,0,0] (za8 k1 (blk 0 (zjc K E))) (zee x0 x4 x5 x6 x7 v1 v2 v3 v8 v9 j) =
 pv (za1 .none .sub v2 v1) λt1=>
 pv (za1 .none .leq t1 (.int .i64 12)) λt2=>
 cnd t2 (
  cF 205 #[x0,v1,v2] (λt3=>
  K (.tuple #[])) E) (
  pv (za1 .none .eql v3 (.int .i64 0)) λt4=>
  cnd t4 (
  cF 206 #[x0,v1,v2] (λt5=>
  K (.tuple #[])) E) (
  pv (unV .not v8) λt6=>
  cnd t6 (
   cF 207 #[x0,v1,v2] (λt7=>
   pv (za1 .none .sub v3 (.int .i64 1)) λt8=>
   zjk [1,1,0,0,0,1,1,1,1] (blk 1 (za8 k1 (blk 0 (zjc K E)))) #[x0,v1,v2,t8,x4,x5,x6,x7,v8,v9,t1,(j 11),(j 12),(j 13),(j 14),(j 15),(j 16),(j 17),(j 18),v2,v1,t1,t1,t2,(j 24),(j 25),(j 26),(j 27),v3,t4,(j 30),(j 31),(j 32),(j 33),v8,t6,x0,v1,v2,t7,v3,t8,(j 42),(j 43),(j 44),(j 45),(j 46),(j 47),(j 48),(j 49),(j 50),(j 51),(j 52),(j 53),(j 54),(j 55),(j 56),(j 57),(j 58),(j 59),(j 60),(j 61),(j 62),(j 63),(j 64),(j 65),(j 66),(j 67),(j 68),(j 69),(j 70),(j 71),(j 72),(j 73),(j 74),(j 75),(j 76),(j 77),(j 78),(j 79),(j 80),(j 81),(j 82),(j 83),(j 84),(j 85),(j 86),(j 87),(j 88),(j 89),(j 90),(j 91),(j 92),(j 93),(j 94),(j 95),(j 96),(j 97),(j 98),(j 99),(j 100),(j 101),(j 102),(j 103),(j 104),(j 105),(j 106),(j 107),(j 108),(j 109),(j 110),(j 111),(j 112),(j 113),(j 114),(j 115),(j 116),(j 117),(j 118),(j 119),(j 120),(j 121),(j 122),(j 123),(j 124),(j 125),(j 126),(j 127),(j 128),(j 129),(j 130),(j 131),(j 132),(j 133)]) E) (
   zjk [1,1,0,0,0,1,1,1,1] (blk 1 (za8 k1 (blk 0 (zjc K E)))) #[x0,v1,v2,v3,x4,x5,x6,x7,v8,v9,t1,(j 11),(j 12),(j 13),(j 14),(j 15),(j 16),(j 17),(j 18),v2,v1,t1,t1,t2,(j 24),(j 25),(j 26),(j 27),v3,t4,(j 30),(j 31),(j 32),(j 33),v8,t6,(j 36),(j 37),(j 38),(j 39),(j 40),(j 41),(j 42),(j 43),(j 44),(j 45),(j 46),(j 47),(j 48),(j 49),(j 50),(j 51),(j 52),(j 53),(j 54),(j 55),(j 56),(j 57),(j 58),(j 59),(j 60),(j 61),(j 62),(j 63),(j 64),(j 65),(j 66),(j 67),(j 68),(j 69),(j 70),(j 71),(j 72),(j 73),(j 74),(j 75),(j 76),(j 77),(j 78),(j 79),(j 80),(j 81),(j 82),(j 83),(j 84),(j 85),(j 86),(j 87),(j 88),(j 89),(j 90),(j 91),(j 92),(j 93),(j 94),(j 95),(j 96),(j 97),(j 98),(j 99),(j 100),(j 101),(j 102),(j 103),(j 104),(j 105),(j 106),(j 107),(j 108),(j 109),(j 110),(j 111),(j 112),(j 113),(j 114),(j 115),(j 116),(j 117),(j 118),(j 119),(j 120),(j 121),(j 122),(j 123),(j 124),(j 125),(j 126),(j 127),(j 128),(j 129),(j 130),(j 131),(j 132),(j 133)]))):=by kernel_rfl
theorem yd6:zjk [1,1,0,0,0,1,1,1,1] (blk 1 (za8 k1 (blk 0 (zjc K E)))) #[x0,x1,x2,x3,x4,x5,x6,x7,x8,x9,x10,x11,x12,x13,x14,x15,x16,x17,x18,x19,x20,x21,x22,x23,x24,x25,x26,x27,x28,x29,x30,x31,x32,x33,x34,x35,x36,x37,x38,x39,x40,x41,x42,x43,x44,x45,x46,x47,x48,x49,x50,x51,x52,x53,x54,x55,x56,x57,x58,x59,x60,x61,x62,x63,x64,x65,x66,x67,x68,x69,x70,x71,x72,x73,x74,x75,x76,x77,x78,x79,x80,x81,x82,x83,x84,x85,x86,x87,x88,x89,x90,x91,x92,x93,x94,x95,x96,x97,x98,x99,x100,x101,x102,x103,x104,x105,x106,x107,x108,x109,x110,x111,x112,x113,x114,x115,x116,x117,x118,x119,x120,x121,x122,x123,x124,x125,x126,x127,x128,x129,x130,x131,x132,x133] =
 cF 208 #[x0,x1,x2] (λt1=>
 pv (exV 0 t1) λt2=>
 pv (exV 1 t1) λt3=>
 pv (za1 .none .eql t3 (.int .i64 2)) λt4=>
 cnd t4 (
  cF 209 #[x0,x1,x2] (λt5=>
  pv (za1 .none .sub x2 (.int .i64 1)) λt6=>
  pv (za1 .none .sub t2 x1) λt7=>
  pv (za1 .none .sub t6 t7) λt8=>
  zjk [1,1,0,0,0,1,1,1,1,1,1] (blk 1 (za8 k1 (blk 0 (zjc K E)))) #[x0,x1,x2,x3,x4,x5,x6,x7,x8,x9,x10,t8,(.int .i64 1),x13,x14,x15,x16,x17,x18,x19,x20,x21,x22,x23,x24,x25,x26,x27,x28,x29,x30,x31,x32,x33,x34,x35,x36,x37,x38,x39,x40,x41,t1,x0,x1,x2,t1,t2,t3,t3,t4,x0,x1,x2,t5,x2,t6,t2,x1,t7,t8,x61,x62,x63,x64,x65,x66,x67,x68,x69,x70,x71,x72,x73,x74,x75,x76,x77,x78,x79,x80,x81,x82,x83,x84,x85,x86,x87,x88,x89,x90,x91,x92,x93,x94,x95,x96,x97,x98,x99,x100,x101,x102,x103,x104,x105,x106,x107,x108,x109,x110,x111,x112,x113,x114,x115,x116,x117,x118,x119,x120,x121,x122,x123,x124,x125,x126,x127,x128,x129,x130,x131,x132,x133]) E) (
  zjk [1,1,0,0,0,1,1,1,1,1,1] (blk 1 (za8 k1 (blk 0 (zjc K E)))) #[x0,x1,x2,x3,x4,x5,x6,x7,x8,x9,x10,t2,t3,x13,x14,x15,x16,x17,x18,x19,x20,x21,x22,x23,x24,x25,x26,x27,x28,x29,x30,x31,x32,x33,x34,x35,x36,x37,x38,x39,x40,x41,t1,x0,x1,x2,t1,t2,t3,t3,t4,x51,x52,x53,x54,x55,x56,x57,x58,x59,x60,x61,x62,x63,x64,x65,x66,x67,x68,x69,x70,x71,x72,x73,x74,x75,x76,x77,x78,x79,x80,x81,x82,x83,x84,x85,x86,x87,x88,x89,x90,x91,x92,x93,x94,x95,x96,x97,x98,x99,x100,x101,x102,x103,x104,x105,x106,x107,x108,x109,x110,x111,x112,x113,x114,x115,x116,x117,x118,x119,x120,x121,x122,x123,x124,x125,x126,x127,x128,x129,x130,x131,x132,x133])) E:=by kernel_rfl
theorem zze:zjk [1,1,0,0,0,1,1,1,1,1,1] (blk 1 (za8 k1 (blk 0 (zjc K E)))) #[x0,x1,x2,x3,x4,x5,x6,x7,x8,x9,x10,x11,x12,x13,x14,x15,x16,x17,x18,x19,x20,x21,x22,x23,x24,x25,x26,x27,x28,x29,x30,x31,x32,x33,x34,x35,x36,x37,x38,x39,x40,x41,x42,x43,x44,x45,x46,x47,x48,x49,x50,x51,x52,x53,x54,x55,x56,x57,x58,x59,x60,x61,x62,x63,x64,x65,x66,x67,x68,x69,x70,x71,x72,x73,x74,x75,x76,x77,x78,x79,x80,x81,x82,x83,x84,x85,x86,x87,x88,x89,x90,x91,x92,x93,x94,x95,x96,x97,x98,x99,x100,x101,x102,x103,x104,x105,x106,x107,x108,x109,x110,x111,x112,x113,x114,x115,x116,x117,x118,x119,x120,x121,x122,x123,x124,x125,x126,x127,x128,x129,x130,x131,x132,x133] =
 gdK x8 true (λk=>k x9) λt1=>
 pv (zad x8 t1 (.bool false)) λt2=>
 gdK t2 true (λk=>k x12) λt3=>
 gdK t2 true (λk=>pv (za1 .none .eql t3 (.int .i64 1)) k) λt4=>
 pv (zad t2 t4 (.bool false)) λt5=>
 cnd t5 (
  cF 210 #[x0,x1,x2] (λt6=>
  cnd t6 (
  K (.tuple #[])) (
  zjk [1,1,0,0,0,1,1,1,1,1,1,1] (blk 1 (za8 k1 (blk 0 (zjc K E)))) #[x0,x1,x2,x3,x4,x5,x6,x7,x8,x9,x10,x11,x12,x13,x14,x15,x16,x17,x18,x19,x20,x21,x22,x23,x24,x25,x26,x27,x28,x29,x30,x31,x32,x33,x34,x35,x36,x37,x38,x39,x40,x41,x42,x43,x44,x45,x46,x47,x48,x49,x50,x51,x52,x53,x54,x55,x56,x57,x58,x59,x60,x8,x8,t1,t2,t2,t3,t4,t5,x0,x1,x2,t6,x73,x74,x75,x76,x77,x78,x79,x80,x81,x82,x83,x84,x85,x86,x87,x88,x89,x90,x91,x92,x93,x94,x95,x96,x97,x98,x99,x100,x101,x102,x103,x104,x105,x106,x107,x108,x109,x110,x111,x112,x113,x114,x115,x116,x117,x118,x119,x120,x121,x122,x123,x124,x125,x126,x127,x128,x129,x130,x131,x132,x133])) E) (
  zjk [1,1,0,0,0,1,1,1,1,1,1,1] (blk 1 (za8 k1 (blk 0 (zjc K E)))) #[x0,x1,x2,x3,x4,x5,x6,x7,x8,x9,x10,x11,x12,x13,x14,x15,x16,x17,x18,x19,x20,x21,x22,x23,x24,x25,x26,x27,x28,x29,x30,x31,x32,x33,x34,x35,x36,x37,x38,x39,x40,x41,x42,x43,x44,x45,x46,x47,x48,x49,x50,x51,x52,x53,x54,x55,x56,x57,x58,x59,x60,x8,x8,t1,t2,t2,t3,t4,t5,x69,x70,x71,x72,x73,x74,x75,x76,x77,x78,x79,x80,x81,x82,x83,x84,x85,x86,x87,x88,x89,x90,x91,x92,x93,x94,x95,x96,x97,x98,x99,x100,x101,x102,x103,x104,x105,x106,x107,x108,x109,x110,x111,x112,x113,x114,x115,x116,x117,x118,x119,x120,x121,x122,x123,x124,x125,x126,x127,x128,x129,x130,x131,x132,x133]):=by kernel_rfl
theorem zyb:zjk [1,1,0,0,0,1,1,1,1,1,1,1] (blk 1 (za8 k1 (blk 0 (zjc K E)))) #[x0,x1,x2,x3,x4,x5,x6,x7,x8,x9,x10,x11,x12,x13,x14,x15,x16,x17,x18,x19,x20,x21,x22,x23,x24,x25,x26,x27,x28,x29,x30,x31,x32,x33,x34,x35,x36,x37,x38,x39,x40,x41,x42,x43,x44,x45,x46,x47,x48,x49,x50,x51,x52,x53,x54,x55,x56,x57,x58,x59,x60,x61,x62,x63,x64,x65,x66,x67,x68,x69,x70,x71,x72,x73,x74,x75,x76,x77,x78,x79,x80,x81,x82,x83,x84,x85,x86,x87,x88,x89,x90,x91,x92,x93,x94,x95,x96,x97,x98,x99,x100,x101,x102,x103,x104,x105,x106,x107,x108,x109,x110,x111,x112,x113,x114,x115,x116,x117,x118,x119,x120,x121,x122,x123,x124,x125,x126,x127,x128,x129,x130,x131,x132,x133] =
 pv (za1 .none .gtr x1 (.int .i64 0)) λt1=>
 gdK t1 true (λk=>k x0) λt2=>
 gdK t1 true (λk=>k x1) λt3=>
 gdK t1 true (λk=>pv (za1 .none .sub t3 (.int .i64 1)) k) λt4=>
 gdK t1 true (λk=>pv (iaV none 1 t2 t4) k) λt5=>
 gdK t1 true (λk=>ld false 1 t5 k) λt6=>
 gdK t1 true (λk=>k x0) λt7=>
 gdK t1 true (λk=>k x11) λt8=>
 gdK t1 true (λk=>pv (iaV none 1 t7 t8) k) λt9=>
 gdK t1 true (λk=>ld false 1 t9 k) λt10=>
 gdK t1 true (λk=>cF 211 #[t6,t10] k E) λt11=>
 gdK t1 true (λk=>pv (unV .not t11) k) λt12=>
 pv (zad t1 t12 (.bool false)) λt13=>
 cnd t13 (
  cF 212 #[x0,x1,x2,x11] (λt14=>
  k1 (zee x0 x4 x5 x6 x7 t14 x2 x3 x8 x9 (jf #[U,U,U,U,U,U,U,U,U,U,x10,x11,x12,t14,x14,x15,x16,x17,x18,x19,x20,x21,x22,x23,x24,x25,x26,x27,x28,x29,x30,x31,x32,x33,x34,x35,x36,x37,x38,x39,x40,x41,x42,x43,x44,x45,x46,x47,x48,x49,x50,x51,x52,x53,x54,x55,x56,x57,x58,x59,x60,x61,x62,x63,x64,x65,x66,x67,x68,x69,x70,x71,x72,x1,t1,t1,t2,t3,t4,t5,t6,t7,t8,t9,t10,t11,t12,t13,x0,x1,x2,x11,t14,t14,x94,x95,x96,x97,x98,x99,x100,x101,x102,x103,x104,x105,x106,x107,x108,x109,x110,x111,x112,x113,x114,x115,x116,x117,x118,x119,x120,x121,x122,x123,x124,x125,x126,x127,x128,x129,x130,x131,x132,x133]))) E) (
  cF 213 #[x0,x1,x2,x11] (λt15=>
  pv (exV 0 t15) λt16=>
  pv (exV 1 t15) λt17=>
  pv (za1 .none .sub t16 x1) λt18=>
  pv (za1 .none .sub x2 t16) λt19=>
  pv (za1 .none .quo x10 (.int .i64 8)) λt20=>
  pv (za1 .none .lss t18 t19) λt21=>
  cnd t21 (
  pv (za1 .none .geq t18 t20) λt22=>
  cF 154 #[x0,x1,t16,x3] (λt23=>
  pv (za1 .none .add t16 (.int .i64 1)) λt24=>
  k1 (zee x0 x4 x5 x6 x7 t24 x2 x3 t22 t17 (jf #[U,U,U,U,U,U,U,U,U,U,x10,x11,x12,x13,t16,t17,t18,t19,t20,x19,x20,x21,x22,x23,x24,x25,x26,x27,x28,x29,x30,x31,x32,x33,x34,x35,x36,x37,x38,x39,x40,x41,x42,x43,x44,x45,x46,x47,x48,x49,x50,x51,x52,x53,x54,x55,x56,x57,x58,x59,x60,x61,x62,x63,x64,x65,x66,x67,x68,x69,x70,x71,x72,x1,t1,t1,t2,t3,t4,t5,t6,t7,t8,t9,t10,t11,t12,t13,x88,x89,x90,x91,x92,x93,t15,x0,x1,x2,x11,t15,t16,t17,t17,t16,x1,t18,x2,t16,t19,x10,t20,t18,t19,t21,t18,t20,t22,x0,x1,t16,x3,t23,t16,t24,x124,x125,x126,x127,x128,x129,x130,x131,x132,x133]))) E) (
  pv (za1 .none .geq t19 t20) λt25=>
  pv (za1 .none .add t16 (.int .i64 1)) λt26=>
  cF 154 #[x0,t26,x2,x3] (λt27=>
  k1 (zee x0 x4 x5 x6 x7 x1 t16 x3 t25 t17 (jf #[U,U,U,U,U,U,U,U,U,U,x10,x11,x12,x13,t16,t17,t18,t19,t20,x19,x20,x21,x22,x23,x24,x25,x26,x27,x28,x29,x30,x31,x32,x33,x34,x35,x36,x37,x38,x39,x40,x41,x42,x43,x44,x45,x46,x47,x48,x49,x50,x51,x52,x53,x54,x55,x56,x57,x58,x59,x60,x61,x62,x63,x64,x65,x66,x67,x68,x69,x70,x71,x72,x1,t1,t1,t2,t3,t4,t5,t6,t7,t8,t9,t10,t11,t12,t13,x88,x89,x90,x91,x92,x93,t15,x0,x1,x2,x11,t15,t16,t17,t17,t16,x1,t18,x2,t16,t19,x10,t20,t18,t19,t21,x114,x115,x116,x117,x118,x119,x120,x121,x122,x123,t19,t20,t25,x0,t16,t26,x2,x3,t27,t16]))) E)) E):=by kernel_rfl
abbrev yxc:QD:=za7 Tryz.prog Tryz.f155.results.toList K E
abbrev ywh (p:List Nat):QD -> Env -> Hp -> Prop:=den Tryz.prog (sel (za3 Tryz.f155) p)
theorem ywd:ywh [] (yxc K E) #[x0,U,U,U,U,U,U,U] =
 cnd (.bool false) (
  pv (cvV .u32 x0) λt1=>
  cF 214 #[t1] (λt2=>
  K t2) E) (
  cF 215 #[x0] (λt3=>
  K t3) E):=by kernel_rfl
abbrev zsh:QD:=za7 Tryz.prog Tryz.f205.results.toList K E
abbrev zn3 (p:List Nat):QD -> Env -> Hp -> Prop:=den Tryz.prog (sel (za3 Tryz.f205) p)
abbrev zuo:=za8 k2 (blk 2 (blk 1 (za8 (zn3 [1,0,0,1,1] (za8 k1 (blk 0 (zsh K E)))) (za8 k1 (blk 0 (zsh K E))))))
def zhs (j:Nat -> Value):Env:=#[x0,x1,x2,x3,x4,x5,v6,(j 7),x8,x9,(j 10),(j 11),(j 12),(j 13),(j 14),(j 15),(j 16),(j 17),(j 18),(j 19),(j 20),(j 21),(j 22),(j 23),(j 24),(j 25),(j 26),(j 27),(j 28),(j 29),(j 30),(j 31),(j 32),(j 33),(j 34),(j 35),(j 36),(j 37),(j 38),(j 39),(j 40),(j 41),(j 42),(j 43),(j 44),(j 45),(j 46),(j 47),(j 48)]
def zcg (j:Nat -> Value):Env:=#[x0,x1,x2,x3,x4,x5,x6,v7,x8,x9,x10,x11,x12,x13,x14,x15,(j 16),(j 17),(j 18),(j 19),(j 20),(j 21),(j 22),(j 23),(j 24),(j 25),(j 26),(j 27),(j 28),(j 29),(j 30),(j 31),(j 32),(j 33),(j 34),(j 35),(j 36),(j 37),(j 38),(j 39),(j 40),(j 41),(j 42),(j 43),(j 44),(j 45),(j 46),(j 47),(j 48)]
theorem ys5:zn3 [] (zsh K E) #[x0,x1,x2,U,U,U,U,U,U,U,U,U,U,U,U,U,U,U,U,U,U,U,U,U,U,U,U,U,U,U,U,U,U,U,U,U,U,U,U,U,U,U,U,U,U,U,U,U,U] =
 pv (za1 .none .add x1 (.int .i64 1)) λt1=>
 lp (λk1=>zn3 [1,0,0] (za8 k1 (blk 0 (zsh K E)))) (zhs x0 x1 x2 U U U x1 t1 t1 (jf #[])):=by kernel_rfl
theorem zvf:zn3 [1,0,0] (za8 k1 (blk 0 (zsh K E))) (zhs x0 x1 x2 x3 x4 x5 x8 x9 v6 j) =
 pv (za1 .none .lss v6 x2) λt1=>
 cnd t1 (
  lp (λk2=>zn3 [1,0,0,1,0,0,1,0,0] (zuo K E k1 k2)) (zcg x0 x1 x2 x3 x4 x5 v6 x8 x9 v6 x2 t1 (j 13) (j 14) v6 v6 (jf #[U,U,U,U,U,U,U,U,U,U,U,U,U,U,U,U,(j 16),(j 17),(j 18),(j 19),(j 20),(j 21),(j 22),(j 23),(j 24),(j 25),(j 26),(j 27),(j 28),(j 29),(j 30),(j 31),(j 32),(j 33),(j 34),(j 35),(j 36),(j 37),(j 38),(j 39),(j 40),(j 41),(j 42),(j 43),(j 44),(j 45),(j 46),(j 47),(j 48)]))) (
  K (.tuple #[])):=by kernel_rfl
theorem zmo:zn3 [1,0,0,1,0,0,1,0,0] (zuo K E k1 k2) (zcg x0 x1 x2 x3 x4 x5 x6 x8 x9 x10 x11 x12 x13 x14 x15 v7 j) =
 pv (za1 .none .gtr v7 x1) λt1=>
 gdK t1 true (λk=>k x0) λt2=>
 gdK t1 true (λk=>k v7) λt3=>
 gdK t1 true (λk=>pv (iaV none 1 t2 t3) k) λt4=>
 gdK t1 true (λk=>ld false 1 t4 k) λt5=>
 gdK t1 true (λk=>k x0) λt6=>
 gdK t1 true (λk=>k v7) λt7=>
 gdK t1 true (λk=>pv (za1 .none .sub t7 (.int .i64 1)) k) λt8=>
 gdK t1 true (λk=>pv (iaV none 1 t6 t8) k) λt9=>
 gdK t1 true (λk=>ld false 1 t9 k) λt10=>
 gdK t1 true (λk=>cF 211 #[t5,t10] k E) λt11=>
 pv (zad t1 t11 (.bool false)) λt12=>
 cnd t12 (
  pv (za1 .none .sub v7 (.int .i64 1)) λt13=>
  pv (za1 .none .sub v7 (.int .i64 1)) λt14=>
  pv (iaV none 1 x0 t14) λt15=>
  ld false 1 t15 λt16=>
  pv (iaV none 1 x0 v7) λt17=>
  ld false 1 t17 λt18=>
  pv (iaV none 1 x0 v7) λt19=>
  st 1 t19 t16 λ_=>
  pv (iaV none 1 x0 t13) λt20=>
  st 1 t20 t18 λ_=>
  pv (za1 .none .sub v7 (.int .i64 1)) λt21=>
  k2 (zcg x0 x1 x2 x3 x4 x5 x6 x8 x9 x10 x11 x12 x13 x14 x15 t21 (jf #[U,U,U,U,U,U,U,U,U,U,U,U,U,U,U,U,v7,x1,t1,t1,t2,t3,t4,t5,t6,t7,t8,t9,t10,t11,t12,v7,t21,x0,v7,x0,v7,t13,x0,v7,t14,t15,t16,x0,v7,t17,t18,t19,t20]))) (
  pv (za1 .none .add x6 (.int .i64 1)) λt22=>
  k1 (zhs x0 x1 x2 x3 x4 x5 x8 x9 t22 (jf #[U,U,U,U,U,U,U,v7,U,U,x10,x11,x12,x6,t22,x15,v7,x1,t1,t1,t2,t3,t4,t5,t6,t7,t8,t9,t10,t11,t12,(j 31),(j 32),(j 33),(j 34),(j 35),(j 36),(j 37),(j 38),(j 39),(j 40),(j 41),(j 42),(j 43),(j 44),(j 45),(j 46),(j 47),(j 48)]))):=by kernel_rfl
abbrev ytq:QD:=za7 Tryz.prog Tryz.f211.results.toList K E
abbrev yw3 (p:List Nat):QD -> Env -> Hp -> Prop:=den Tryz.prog (sel (za3 Tryz.f211) p)
theorem yvj:yw3 [] (ytq K E) #[x0,x1,U,U,U,U,U,U,U,U,U,U,U,U,U,U,U] =
 cF 271 #[x0] (λt1=>
 gdK t1 true (λk=>k x1) λt2=>
 gdK t1 true (λk=>cF 271 #[t2] k E) λt3=>
 gdK t1 true (λk=>pv (unV .not t3) k) λt4=>
 pv (zad t1 t4 (.bool false)) λt5=>
 gdK t5 false (λk=>k x0) λt6=>
 gdK t5 false (λk=>k x1) λt7=>
 gdK t5 false (λk=>pv (za1 .none .lss t6 t7) k) λt8=>
 pv (zad t5 (.bool true) t8) λt9=>
 K t9) E:=by kernel_rfl
abbrev zmn:QD:=za7 Tryz.prog Tryz.f215.results.toList K E
abbrev zn0 (p:List Nat):QD -> Env -> Hp -> Prop:=den Tryz.prog (sel (za3 Tryz.f215) p)
theorem yyg:zn0 [] (zmn K E) #[x0,U,U,U,U,U,U,U,U,U,U,U,U,U,U,U,U,U,U,U,U,U,U,U,U] =
 pv (za1 .none .geq x0 (.int .u64 4294967296)) λt1=>
 cnd t1 (
  pv (za1 .none .shr x0 (.int .u64 32)) λt2=>
  zn0 [1,1] (zmn K E) #[t2,U,(.int .i64 32),x0,t1,x0,t2,U,U,U,U,U,U,U,U,U,U,U,U,U,U,U,U,U,U]) (
  zn0 [1,1] (zmn K E) #[x0,U,(.int .i64 0),x0,t1,U,U,U,U,U,U,U,U,U,U,U,U,U,U,U,U,U,U,U,U]):=by kernel_rfl
theorem ymi:zn0 [1,1] (zmn K E) #[x0,x1,x2,x3,x4,x5,x6,x7,x8,x9,x10,x11,x12,x13,x14,x15,x16,x17,x18,x19,x20,x21,x22,x23,x24] =
 pv (za1 .none .geq x0 (.int .u64 65536)) λt1=>
 cnd t1 (
  pv (za1 .none .shr x0 (.int .u64 16)) λt2=>
  pv (za1 .none .add x2 (.int .i64 16)) λt3=>
  zn0 [1,1,1] (zmn K E) #[t2,x1,t3,x3,x4,x5,x6,x0,t1,x0,t2,x2,t3,x13,x14,x15,x16,x17,x18,x19,x20,x21,x22,x23,x24]) (
  zn0 [1,1,1] (zmn K E) #[x0,x1,x2,x3,x4,x5,x6,x0,t1,x9,x10,x11,x12,x13,x14,x15,x16,x17,x18,x19,x20,x21,x22,x23,x24]):=by kernel_rfl
theorem yfs:zn0 [1,1,1] (zmn K E) #[x0,x1,x2,x3,x4,x5,x6,x7,x8,x9,x10,x11,x12,x13,x14,x15,x16,x17,x18,x19,x20,x21,x22,x23,x24] =
 pv (za1 .none .geq x0 (.int .u64 256)) λt1=>
 cnd t1 (
  pv (za1 .none .shr x0 (.int .u64 8)) λt2=>
  pv (za1 .none .add x2 (.int .i64 8)) λt3=>
  zn0 [1,1,1,1] (zmn K E) #[t2,x1,t3,x3,x4,x5,x6,x7,x8,x9,x10,x11,x12,x0,t1,x0,t2,x2,t3,x19,x20,x21,x22,x23,x24]) (
  zn0 [1,1,1,1] (zmn K E) #[x0,x1,x2,x3,x4,x5,x6,x7,x8,x9,x10,x11,x12,x0,t1,x15,x16,x17,x18,x19,x20,x21,x22,x23,x24]):=by kernel_rfl
theorem yas:zn0 [1,1,1,1] (zmn K E) #[x0,x1,x2,x3,x4,x5,x6,x7,x8,x9,x10,x11,x12,x13,x14,x15,x16,x17,x18,x19,x20,x21,x22,x23,x24] =
 pv (cvV .u8 x0) λt1=>
 pv (ixV (.string ⟨#[0,1,2,2,3,3,3,3,4,4,4,4,4,4,4,4,5,5,5,5,5,5,5,5,5,5,5,5,5,5,5,5,6,6,6,6,6,6,6,6,6,6,6,6,6,6,6,6,6,6,6,6,6,6,6,6,6,6,6,6,6,6,6,6,7,7,7,7,7,7,7,7,7,7,7,7,7,7,7,7,7,7,7,7,7,7,7,7,7,7,7,7,7,7,7,7,7,7,7,7,7,7,7,7,7,7,7,7,7,7,7,7,7,7,7,7,7,7,7,7,7,7,7,7,7,7,7,7,8,8,8,8,8,8,8,8,8,8,8,8,8,8,8,8,8,8,8,8,8,8,8,8,8,8,8,8,8,8,8,8,8,8,8,8,8,8,8,8,8,8,8,8,8,8,8,8,8,8,8,8,8,8,8,8,8,8,8,8,8,8,8,8,8,8,8,8,8,8,8,8,8,8,8,8,8,8,8,8,8,8,8,8,8,8,8,8,8,8,8,8,8,8,8,8,8,8,8,8,8,8,8,8,8,8,8,8,8,8,8,8,8,8,8,8,8,8,8,8,8,8,8,8,8,8,8,8]⟩) t1) λt2=>
 pv (cvV .i64 t2) λt3=>
 pv (za1 .none .add x2 t3) λt4=>
 K t4:=by kernel_rfl
abbrev q54:QD:=za7 Tryz.prog Tryz.f54.results.toList K E
abbrev d54 (p:List Nat):QD -> Env -> Hp -> Prop:=den Tryz.prog (sel (za3 Tryz.f54) p)
abbrev zoj:=za8 k1 (blk 0 (za8 (d54 [1,1,1,1] (q54 K E)) (q54 K E)))
def zdp (j:Nat -> Value):Env:=#[x0,x1,x2,x3,x4,v5,v6,(j 7),x8,x9,x10,x11,x12,x13,x14,x15,(j 16),(j 17),(j 18),(j 19),(j 20),(j 21),(j 22),(j 23),(j 24),(j 25),(j 26),(j 27),(j 28),(j 29),(j 30),(j 31),(j 32),(j 33),(j 34),(j 35),x36,x37,x38,x39,x40,x41]
theorem t54:d54 [] (q54 K E) #[x0,x1,U,U,U,U,U,U,U,U,U,U,U,U,U,U,U,U,U,U,U,U,U,U,U,U,U,U,U,U,U,U,U,U,U,U,U,U,U,U,U,U] =
 cF 108 #[x0,x1] (λt1=>
 pv (za1 .none .eql t1 (.int .i64 (-1))) λt2=>
 cnd t2 (
  K x0) (
  pv (za1 .none .add t1 (.int .i64 1)) λt3=>
  lp (λk1=>d54 [1,1,1,0,1,0,0] (zoj K E k1)) (zdp x0 x1 U U (.slice none 0 0) x0 x1 t1 t1 t2 U t1 t3 U U U U U U t1 t3 (jf #[])))) E:=by kernel_rfl
theorem zri:d54 [1,1,1,0,1,0,0] (zoj K E k1) (zdp x0 x1 x2 x3 x4 x8 x9 x10 x11 x12 x13 x14 x15 x36 x37 x38 x39 x40 x41 v5 v6 j) =
 pv (zac x0) λt1=>
 pv (za1 .none .lss v6 t1) λt2=>
 cnd t2 (
  pv (iaV none 1 x0 v6) λt3=>
  ld false 1 t3 λt4=>
  zbq Tryz.prog x1 #[t4] (λt5=>
  pv (unV .not t5) λt6=>
  cnd t6 (
  pv (iaV none 1 x0 v5) λt7=>
  st 1 t7 t4 λ_=>
  pv (za1 .none .add v5 (.int .i64 1)) λt8=>
  d54 [1,1,1,0,1,0,0,1,1] (zoj K E k1) #[x0,x1,x2,x3,x4,t8,v6,t4,x8,x9,x10,x11,x12,x13,x14,x15,v6,x0,t1,t2,(j 20),(j 21),x0,v6,t3,t4,x1,t4,t5,t6,x0,v5,t4,t7,v5,t8,x36,x37,x38,x39,x40,x41]) (
  d54 [1,1,1,0,1,0,0,1,1] (zoj K E k1) #[x0,x1,x2,x3,x4,v5,v6,t4,x8,x9,x10,x11,x12,x13,x14,x15,v6,x0,t1,t2,(j 20),(j 21),x0,v6,t3,t4,x1,t4,t5,t6,(j 30),(j 31),(j 32),(j 33),(j 34),(j 35),x36,x37,x38,x39,x40,x41])) E) (
  pv (slV 1 x0 (some v5) none none) λt9=>
  clr 38 [(.int .u32 0)] 1 t9 λ_=>
  pv (slV 1 x0 none (some v5) none) λt10=>
  K t10):=by kernel_rfl
theorem ziz:d54 [1,1,1,0,1,0,0,1,1] (zoj K E k1) #[x0,x1,x2,x3,x4,x5,x6,x7,x8,x9,x10,x11,x12,x13,x14,x15,x16,x17,x18,x19,x20,x21,x22,x23,x24,x25,x26,x27,x28,x29,x30,x31,x32,x33,x34,x35,x36,x37,x38,x39,x40,x41] =
 pv (za1 .none .add x6 (.int .i64 1)) λt1=>
 k1 (zdp x0 x1 x2 x3 x4 x8 x9 x10 x11 x12 x13 x14 x15 x36 x37 x38 x39 x40 x41 x5 t1 (jf #[U,U,U,U,U,U,U,x7,U,U,U,U,U,U,U,U,x16,x17,x18,x19,x6,t1,x22,x23,x24,x25,x26,x27,x28,x29,x30,x31,x32,x33,x34,x35])):=by kernel_rfl
abbrev ymd:QD:=za7 Tryz.prog Tryz.f108.results.toList K E
abbrev zxd (p:List Nat):QD -> Env -> Hp -> Prop:=den Tryz.prog (sel (za3 Tryz.f108) p)
abbrev zvn:=za8 k1 (blk 0 (za8 (zxd [1,1] (ymd K E)) (ymd K E)))
def zf3 (j:Nat -> Value):Env:=#[x0,x1,x2,x3,(j 4),(j 5),x6,x7,v8,(j 9),(j 10),(j 11),(j 12),(j 13),(j 14),(j 15),(j 16),(j 17),(j 18)]
theorem zta:zxd [] (ymd K E) #[x0,x1,U,U,U,U,U,U,U,U,U,U,U,U,U,U,U,U,U] =
 pv (zac x0) λt1=>
 lp (λk1=>zxd [1,0,1,0,0] (zvn K E k1)) (zf3 x0 x1 U U x0 t1 (.int .i64 0) (jf #[U,U,U,U,(.int .i64 0)])):=by kernel_rfl
theorem zxp:zxd [1,0,1,0,0] (zvn K E k1) (zf3 x0 x1 x2 x3 x6 x7 v8 j) =
 pv (za1 .none .lss v8 x7) λt1=>
 cnd t1 (
  pv (iaV none 1 x0 v8) λt2=>
  ld false 1 t2 λt3=>
  zbq Tryz.prog x1 #[t3] (λt4=>
  cnd t4 (
  K v8) (
  pv (za1 .none .add v8 (.int .i64 1)) λt5=>
  k1 (zf3 x0 x1 x2 x3 x6 x7 t5 (jf #[U,U,U,U,(j 4),v8,U,U,U,t1,v8,x1,x0,v8,t2,t3,t4,(j 17),t5])))) E) (
  K (.int .i64 (-1))):=by kernel_rfl
end
section
variable {K:zae} {E:zb2} {k1 k2:Env -> Hp -> Prop} {σ:Type} {x0 x1 x2 x3 x4 x5 x6 x7 x8 x9 x10 x11 x12 x13 x14 x15 x36 x37 x38 x39 x40 x41 v1 v2 v3 v5 v6 v7 v8 v9:Value} {h:Hp} {j:Nat -> Value}
theorem ycf (f1 f2 f3 f8 f9:σ -> Value) (I:σ -> Hp -> Prop) (μ:σ -> Nat) (s0:σ) (e1:v1=f1 s0) (e2:v2=f2 s0) (e3:v3=f3 s0) (e8:v8=f8 s0) (e9:v9=f9 s0) (h0:h.wf -> ∃ h',h.wk h'∧I s0 h')
 (round:∀ (k1:Env -> Hp -> Prop) (s:σ) (j:Nat -> Value) (h:Hp),I s h -> h.wf -> (∀ s' j' h',μ s'<μ s -> (h'.wf -> ∃ h'',h'.wk h''∧I s' h'') -> k1 (zee x0 x4 x5 x6 x7 (f1 s') (f2 s') (f3 s') (f8 s') (f9 s') j') h') -> zjk [1,1,0,0] (za8 k1 (blk 0 (zjc K E))) (zee x0 x4 x5 x6 x7 (f1 s) (f2 s) (f3 s) (f8 s) (f9 s) j) h) :
 lp (λk1=>zjk [1,1,0,0] (za8 k1 (blk 0 (zjc K E)))) (zee x0 x4 x5 x6 x7 v1 v2 v3 v8 v9 j) h:=by
 subst e1;subst e2;subst e3;subst e8;subst e9;exact zaw _ I μ round s0 j h0
theorem zv8 (f6:σ -> Value) (I:σ -> Hp -> Prop) (μ:σ -> Nat) (s0:σ) (e6:v6=f6 s0) (h0:h.wf -> ∃ h',h.wk h'∧I s0 h')
 (round:∀ (k1:Env -> Hp -> Prop) (s:σ) (j:Nat -> Value) (h:Hp),I s h -> h.wf -> (∀ s' j' h',μ s'<μ s -> (h'.wf -> ∃ h'',h'.wk h''∧I s' h'') -> k1 (zhs x0 x1 x2 x3 x4 x5 x8 x9 (f6 s') j') h') -> zn3 [1,0,0] (za8 k1 (blk 0 (zsh K E))) (zhs x0 x1 x2 x3 x4 x5 x8 x9 (f6 s) j) h) :
 lp (λk1=>zn3 [1,0,0] (za8 k1 (blk 0 (zsh K E)))) (zhs x0 x1 x2 x3 x4 x5 x8 x9 v6 j) h:=by
 subst e6;exact zaw _ I μ round s0 j h0
theorem zmv (f7:σ -> Value) (I:σ -> Hp -> Prop) (μ:σ -> Nat) (s0:σ) (e7:v7=f7 s0) (h0:h.wf -> ∃ h',h.wk h'∧I s0 h')
 (round:∀ (k2:Env -> Hp -> Prop) (s:σ) (j:Nat -> Value) (h:Hp),I s h -> h.wf -> (∀ s' j' h',μ s'<μ s -> (h'.wf -> ∃ h'',h'.wk h''∧I s' h'') -> k2 (zcg x0 x1 x2 x3 x4 x5 x6 x8 x9 x10 x11 x12 x13 x14 x15 (f7 s') j') h') -> zn3 [1,0,0,1,0,0,1,0,0] (zuo K E k1 k2) (zcg x0 x1 x2 x3 x4 x5 x6 x8 x9 x10 x11 x12 x13 x14 x15 (f7 s) j) h) :
 lp (λk2=>zn3 [1,0,0,1,0,0,1,0,0] (zuo K E k1 k2)) (zcg x0 x1 x2 x3 x4 x5 x6 x8 x9 x10 x11 x12 x13 x14 x15 v7 j) h:=by
 subst e7;exact zaw _ I μ round s0 j h0
theorem zrf (f5 f6:σ -> Value) (I:σ -> Hp -> Prop) (μ:σ -> Nat) (s0:σ) (e5:v5=f5 s0) (e6:v6=f6 s0) (h0:h.wf -> ∃ h',h.wk h'∧I s0 h')
 (round:∀ (k1:Env -> Hp -> Prop) (s:σ) (j:Nat -> Value) (h:Hp),I s h -> h.wf -> (∀ s' j' h',μ s'<μ s -> (h'.wf -> ∃ h'',h'.wk h''∧I s' h'') -> k1 (zdp x0 x1 x2 x3 x4 x8 x9 x10 x11 x12 x13 x14 x15 x36 x37 x38 x39 x40 x41 (f5 s') (f6 s') j') h') -> d54 [1,1,1,0,1,0,0] (zoj K E k1) (zdp x0 x1 x2 x3 x4 x8 x9 x10 x11 x12 x13 x14 x15 x36 x37 x38 x39 x40 x41 (f5 s) (f6 s) j) h) :
 lp (λk1=>d54 [1,1,1,0,1,0,0] (zoj K E k1)) (zdp x0 x1 x2 x3 x4 x8 x9 x10 x11 x12 x13 x14 x15 x36 x37 x38 x39 x40 x41 v5 v6 j) h:=by
 subst e5;subst e6;exact zaw _ I μ round s0 j h0
theorem zye (f8:σ -> Value) (I:σ -> Hp -> Prop) (μ:σ -> Nat) (s0:σ) (e8:v8=f8 s0) (h0:h.wf -> ∃ h',h.wk h'∧I s0 h')
 (round:∀ (k1:Env -> Hp -> Prop) (s:σ) (j:Nat -> Value) (h:Hp),I s h -> h.wf -> (∀ s' j' h',μ s'<μ s -> (h'.wf -> ∃ h'',h'.wk h''∧I s' h'') -> k1 (zf3 x0 x1 x2 x3 x6 x7 (f8 s') j') h') -> zxd [1,0,1,0,0] (zvn K E k1) (zf3 x0 x1 x2 x3 x6 x7 (f8 s) j) h) :
 lp (λk1=>zxd [1,0,1,0,0] (zvn K E k1)) (zf3 x0 x1 x2 x3 x6 x7 v8 j) h:=by
 subst e8;exact zaw _ I μ round s0 j h0
end
section
variable (K:zae) (E:zb2) (k1:Env -> Hp -> Prop) (x0 x1 x2 x3 x4 x5 x6 x7 x8 x9 x10 x11 x12 x13 x14 x15 x16 x17 x18 x19 x20 x21 x22 x23 x24 x25 x26 x27 x28 x29 x30 x31 x32 x33 x34 x35 x52 x53 x54 x55 x56 x57 x58 v36:Value) (j:Nat -> Value)
abbrev q38:QD:=za7 Tryz.prog Tryz.f38.results.toList K E
abbrev d38 (p:List Nat):QD -> Env -> Hp -> Prop:=den Tryz.prog (sel (za3 Tryz.f38) p)
theorem t38:d38 [] (q38 K E) #[x0,U,U,U,U,U,U,U,U,U,U,U] =
 cF 87 #[x0] (λt1=>
 pv (za1 .ptr .eql t1 (.pointer none)) λt2=>
 cnd t2 (
  K (.pointer none)) (
  mkm λt3=>
  pv (bdC #[(.pointer none),(.map none),(.int .u32 0)] [(0,1),(1,1),(2,1)] #[(0,t1),(1,t3)]) λt4=>
  nw 58 (Value.cells t4).toList λt5=>
  K t5)) E:=by kernel_rfl
abbrev q40:QD:=za7 Tryz.prog Tryz.f40.results.toList K E
abbrev d40 (p:List Nat):QD -> Env -> Hp -> Prop:=den Tryz.prog (sel (za3 Tryz.f40) p)
theorem t40:d40 [] (q40 K E) #[x0,x1,U,U,U,U,U,U,U,U,U,U,U,U,U,U,U,U,U,U,U,U,U,U,U,U,U] =
 nw 77 (Value.cells x1).toList λt1=>
 pv (faV 0 t1) λt2=>
 ld false 1 t2 λt3=>
 pv (za1 .none .eql t3 (.int .u8 1)) λt4=>
 cnd t4 (
  ld true 10 t1 λt5=>
  cF 91 #[x0,t5] (λt6=>
  K t6) E) (
  pv (za1 .none .eql t3 (.int .u8 2)) λt7=>
  cnd t7 (
  ld true 10 t1 λt8=>
  cF 92 #[x0,t8] (λt9=>
  K t9) E) (
  pv (za1 .none .eql t3 (.int .u8 3)) λt10=>
  cnd t10 (
   ld true 10 t1 λt11=>
   cF 93 #[x0,t11] (λt12=>
   K t12) E) (
   pv (za1 .none .eql t3 (.int .u8 7)) λt13=>
   cnd t13 (
   ld true 10 t1 λt14=>
   cF 94 #[x0,t14] (λt15=>
   K t15) E) (
   K (.int .u16 1))))):=by kernel_rfl
abbrev q28:QD:=za7 Tryz.prog Tryz.f28.results.toList K E
abbrev d28 (p:List Nat):QD -> Env -> Hp -> Prop:=den Tryz.prog (sel (za3 Tryz.f28) p)
theorem t28:d28 [] (q28 K E) #[x0,x1,U,U,U,U,U,U,U,U,U,U] =
 nw 85 [(.int .u8 0),(.int .u32 0)] λt1=>
 pv (zai x0) λt2=>
 pv (faV 1 t2) λt3=>
 ld false 1 t3 λt4=>
 lkp Tryz.prog 56 t4 x1 false λt5=>
 pv (fdV true 0 2 t5) λt6=>
 st 2 t1 t6 λ_=>
 ld true 2 t1 λt7=>
 K t7:=by kernel_rfl
abbrev q21:QD:=za7 Tryz.prog Tryz.f21.results.toList K E
abbrev d21 (p:List Nat):QD -> Env -> Hp -> Prop:=den Tryz.prog (sel (za3 Tryz.f21) p)
theorem t21:d21 [] (q21 K E) #[x0,U,U,U,U,U,U,U,U,U,U] =
 nw 35 (Value.cells x0).toList λt1=>
 ld false 1 t1 λt2=>
 pv (zai t2) λt3=>
 pv (faV 1 t3) λt4=>
 ld false 1 t4 λt5=>
 cF 56 #[t5] (λt6=>
 cF 55 #[t6] (λt7=>
 cF 54 #[t7,(.func (.func 57) #[] #[t1])] (λt8=>
 K t8) E) E) E:=by kernel_rfl
abbrev q81:QD:=za7 Tryz.prog Tryz.f81.results.toList K E
abbrev d81 (p:List Nat):QD -> Env -> Hp -> Prop:=den Tryz.prog (sel (za3 Tryz.f81) p)
abbrev q75:QD:=za7 Tryz.prog Tryz.f75.results.toList K E
abbrev d75 (p:List Nat):QD -> Env -> Hp -> Prop:=den Tryz.prog (sel (za3 Tryz.f75) p)
theorem t75:d75 [] (q75 K E) #[x0,U,U,U,U,U,U] =
 pv (zai x0) λt1=>
 pv (faV 2 t1) λt2=>
 ld false 1 t2 λt3=>
 K t3:=by kernel_rfl
abbrev q91:QD:=za7 Tryz.prog Tryz.f91.results.toList K E
abbrev d91 (p:List Nat):QD -> Env -> Hp -> Prop:=den Tryz.prog (sel (za3 Tryz.f91) p)
abbrev zzx:=za8 k1 (blk 1 (za8 (d91 [1,1,1,1] (q91 K E)) (q91 K E)))
def zds (j:Nat -> Value):Env:=#[x0,x1,x2,x3,x4,x5,x6,(j 7),x8,x9,x10,x11,x12,x13,x14,x15,x16,x17,x18,x19,x20,x21,x22,x23,x24,x25,x26,x27,x28,x29,x30,x31,x32,x33,x34,x35,v36,(j 37),(j 38),(j 39),(j 40),(j 41),(j 42),(j 43),(j 44),(j 45),(j 46),(j 47),(j 48),(j 49),(j 50),(j 51),x52,x53,x54,x55,x56,x57,x58]
theorem t91:d91 [] (q91 K E) #[x0,x1,U,U,U,U,U,U,U,U,U,U,U,U,U,U,U,U,U,U,U,U,U,U,U,U,U,U,U,U,U,U,U,U,U,U,U,U,U,U,U,U,U,U,U,U,U,U,U,U,U,U,U,U,U,U,U,U,U] =
 nw 77 (Value.cells x1).toList λt1=>
 pv (zai x0) λt2=>
 pv (faV 1 t2) λt3=>
 ld false 1 t3 λt4=>
 pv (faV 1 t1) λt5=>
 ld false 1 t5 λt6=>
 lkp Tryz.prog 56 t4 t6 false λt7=>
 pv (fdV true 0 2 t7) λt8=>
 pv (fdV false 0 1 t8) λt9=>
 pv (za1 .none .neq t9 (.int .u8 0)) λt10=>
 cnd t10 (
  K (.int .u16 140)) (
  pv (zai x0) λt11=>
  pv (faV 0 t11) λt12=>
  ld false 1 t12 λt13=>
  pv (faV 4 t1) λt14=>
  ld false 1 t14 λt15=>
  cF 98 #[t13,t15] (λt16=>
  pv (unV .not t16) λt17=>
  cnd t17 (
  K (.int .u16 1)) (
  pv (bdC #[(.int .u8 0),(.int .u32 0)] [(0,1),(1,1)] #[(0,(.int .u8 1))]) λt18=>
  pv (faV 3 t1) λt19=>
  ld false 1 t19 λt20=>
  cF 122 #[t20] (λt21=>
  pv (bdC #[(.int .u8 0),(.int .u32 0),(.slice none 0 0),(.slice none 0 0)] [(0,2),(2,1),(3,1)] #[(0,t18),(1,t21)]) λt22=>
  nw 154 [(.int .u8 0),(.int .u32 0),(.slice none 0 0),(.slice none 0 0)] λt23=>
  st 4 t23 t22 λ_=>
  pv (faV 4 t1) λt24=>
  ld false 1 t24 λt25=>
  pv (zac t25) λt26=>
  lp (λk1=>d91 [1,1,1,0,1,0,0] (zzx K E k1)) (zds x0 x1 U t1 (.int .u16 0) t23 U t10 x0 t2 t3 t4 t5 t6 t7 t8 t9 t10 t17 x0 t11 t12 t13 t14 t15 t16 t17 t18 t19 t20 t21 t22 t24 t25 t26 U U U U U U U (.int .i64 0) (jf #[]))) E)) E):=by kernel_rfl
theorem zrg:d91 [1,1,1,0,1,0,0] (zzx K E k1) (zds x0 x1 x2 x3 x4 x5 x6 x8 x9 x10 x11 x12 x13 x14 x15 x16 x17 x18 x19 x20 x21 x22 x23 x24 x25 x26 x27 x28 x29 x30 x31 x32 x33 x34 x35 x52 x53 x54 x55 x56 x57 x58 v36 j) =
 pv (za1 .none .lss v36 x35) λt1=>
 cnd t1 (
  pv (iaV none 2 x34 v36) λt2=>
  ld true 2 t2 λt3=>
  nw 110 [(.slice none 0 0),(.int .i64 0)] λt4=>
  st 2 t4 t3 λ_=>
  pv (faV 3 x5) λt5=>
  ld false 1 t5 λt6=>
  pv (faV 0 t4) λt7=>
  ld false 1 t7 λt8=>
  pv (faV 1 t4) λt9=>
  ld false 1 t9 λt10=>
  cF 122 #[t8] (λt11 h12=>(ldV h12 false 1 t9 t10)∧(ldV h12 false 1 t5 t6)∧(
  pv (bdC #[(.slice none 0 0),(.int .i64 0)] [(0,1),(1,1)] #[(0,t11),(1,t10)]) λt13=>
  nws 110 1 (bsC #[(.slice none 0 0),(.int .i64 0)] 2 1 #[(0,t13)]) (λt14 h15=>(ldV h15 false 1 t5 t6)∧(
   zek 110 2 32 t6 t14 λt16=>
   pv (faV 3 x5) λt17=>
   st 1 t17 t16 λ_=>
   pv (za1 .none .add v36 (.int .i64 1)) λt18=>
   k1 (zds x0 x1 x2 x3 x4 x5 x6 x8 x9 x10 x11 x12 x13 x14 x15 x16 x17 x18 x19 x20 x21 x22 x23 x24 x25 x26 x27 x28 x29 x30 x31 x32 x33 x34 x35 x52 x53 x54 x55 x56 x57 x58 t18 (jf #[U,U,U,U,U,U,U,t4,U,U,U,U,U,U,U,U,U,U,U,U,U,U,U,U,U,U,U,U,U,U,U,U,U,U,U,U,U,t1,t2,t3,t5,t6,t7,t8,t11,t9,t10,t13,t14,t16,t17,t18]))) h15)) h12) E) (
  pv (zai x0) λt19=>
  pv (faV 1 t19) λt20=>
  ld false 1 t20 λt21=>
  pv (faV 1 x3) λt22=>
  ld false 1 t22 λt23=>
  ld true 4 x5 λt24=>
  mup Tryz.prog 56 t21 t23 t24 λ_=>
  K (.int .u16 0)):=by kernel_rfl
abbrev q92:QD:=za7 Tryz.prog Tryz.f92.results.toList K E
abbrev d92 (p:List Nat):QD -> Env -> Hp -> Prop:=den Tryz.prog (sel (za3 Tryz.f92) p)
theorem t92:d92 [] (q92 K E) #[x0,x1,U,U,U,U,U,U,U,U,U,U,U,U,U,U,U,U,U,U,U,U,U,U,U,U,U,U,U,U,U,U,U,U,U,U,U,U,U] =
 nw 77 (Value.cells x1).toList λt1=>
 pv (faV 1 t1) λt2=>
 ld false 1 t2 λt3=>
 cF 58 #[x0,t3] (λt4=>
 pv (unV .not t4) λt5=>
 cnd t5 (
  K (.int .u16 140)) (
  pv (zai x0) λt6=>
  pv (faV 0 t6) λt7=>
  ld false 1 t7 λt8=>
  pv (faV 2 t1) λt9=>
  ld false 1 t9 λt10=>
  pv (zai x0) λt11=>
  pv (faV 1 t11) λt12=>
  ld false 1 t12 λt13=>
  pv (faV 1 t1) λt14=>
  ld false 1 t14 λt15=>
  lkp Tryz.prog 56 t13 t15 false (λt16 h17=>(ldV h17 false 1 t9 t10)∧(ldV h17 false 1 t7 t8)∧(
  pv (fdV false 3 1 t16) λt18=>
  cF 135 #[t8,t10,t18] (λt19=>
  pv (za1 .none .neq t19 (.int .u16 0)) λt20=>
  cnd t20 (
   K t19) (
   pv (zai x0) λt21=>
   pv (faV 1 t21) λt22=>
   ld false 1 t22 λt23=>
   pv (faV 1 t1) λt24=>
   ld false 1 t24 λt25=>
   pv (faV 2 t1) λt26=>
   ld false 1 t26 λt27=>
   pv (bdC #[(.int .u8 0),(.int .u32 0)] [(0,1),(1,1)] #[(0,(.int .u8 2)),(1,t27)]) λt28=>
   pv (bdC #[(.int .u8 0),(.int .u32 0),(.slice none 0 0),(.slice none 0 0)] [(0,2),(2,1),(3,1)] #[(0,t28)]) λt29=>
   mup Tryz.prog 56 t23 t25 t29 λ_=>
   K (.int .u16 0))) E) h17))) E:=by kernel_rfl
abbrev q93:QD:=za7 Tryz.prog Tryz.f93.results.toList K E
abbrev d93 (p:List Nat):QD -> Env -> Hp -> Prop:=den Tryz.prog (sel (za3 Tryz.f93) p)
theorem t93:d93 [] (q93 K E) #[x0,x1,U,U,U,U,U,U,U,U,U,U,U,U,U,U,U,U,U,U,U,U,U] =
 nw 77 (Value.cells x1).toList λt1=>
 pv (zai x0) λt2=>
 pv (faV 1 t2) λt3=>
 ld false 1 t3 λt4=>
 pv (faV 1 t1) λt5=>
 ld false 1 t5 λt6=>
 lkp Tryz.prog 56 t4 t6 false λt7=>
 pv (fdV true 0 2 t7) λt8=>
 pv (fdV false 0 1 t8) λt9=>
 pv (za1 .none .gtr t9 (.int .u8 1)) λt10=>
 cnd t10 (
  K (.int .u16 140)) (
  pv (zai x0) λt11=>
  pv (faV 1 t11) λt12=>
  ld false 1 t12 λt13=>
  pv (faV 1 t1) λt14=>
  ld false 1 t14 λt15=>
  pv (bdC #[(.int .u8 0),(.int .u32 0)] [(0,1),(1,1)] #[(0,(.int .u8 3))]) λt16=>
  pv (bdC #[(.int .u8 0),(.int .u32 0),(.slice none 0 0),(.slice none 0 0)] [(0,2),(2,1),(3,1)] #[(0,t16)]) λt17=>
  mup Tryz.prog 56 t13 t15 t17 λ_=>
  K (.int .u16 0)):=by kernel_rfl
abbrev q94:QD:=za7 Tryz.prog Tryz.f94.results.toList K E
abbrev d94 (p:List Nat):QD -> Env -> Hp -> Prop:=den Tryz.prog (sel (za3 Tryz.f94) p)
theorem t94:d94 [] (q94 K E) #[x0,x1,U,U,U,U,U,U,U,U,U,U,U,U,U,U,U,U,U,U,U,U,U,U,U,U,U,U,U,U,U,U] =
 nw 77 (Value.cells x1).toList λt1=>
 pv (faV 1 t1) λt2=>
 ld false 1 t2 λt3=>
 pv (zai x0) λt4=>
 pv (faV 2 t4) λt5=>
 ld false 1 t5 λt6=>
 pv (za1 .none .leq t3 t6) λt7=>
 cnd t7 (
  K (.int .u16 140)) (
  pv (zai x0) λt8=>
  pv (faV 0 t8) λt9=>
  ld false 1 t9 λt10=>
  pv (faV 7 t1) λt11=>
  ld false 1 t11 λt12=>
  pv (faV 8 t1) λt13=>
  ld false 1 t13 λt14=>
  pv (faV 9 t1) λt15=>
  ld false 1 t15 λt16=>
  cF 136 #[t10,t12,t14,t16] (λt17=>
  pv (za1 .none .eql t17 (.int .u16 0)) λt18=>
  cnd t18 (
  pv (faV 1 t1) λt19=>
  ld false 1 t19 λt20=>
  pv (zai x0) λt21=>
  pv (faV 2 t21) λt22=>
  st 1 t22 t20 λ_=>
  d94 [1,1,1,1] (q94 K E) #[x0,x1,U,t1,(.int .u16 0),t17,t2,t3,x0,t4,t5,t6,t7,x0,t8,t9,t10,t11,t12,t13,t14,t15,t16,t17,t17,t18,x0,t19,t20,t21,t22,U]) (
  d94 [1,1,1,1] (q94 K E) #[x0,x1,U,t1,(.int .u16 0),t17,t2,t3,x0,t4,t5,t6,t7,x0,t8,t9,t10,t11,t12,t13,t14,t15,t16,t17,t17,t18,U,U,U,U,U,U])) E):=by kernel_rfl
theorem zrq:d94 [1,1,1,1] (q94 K E) #[x0,x1,x2,x3,x4,x5,x6,x7,x8,x9,x10,x11,x12,x13,x14,x15,x16,x17,x18,x19,x20,x21,x22,x23,x24,x25,x26,x27,x28,x29,x30,x31] =
 K x5:=by kernel_rfl
abbrev q79:QD:=za7 Tryz.prog Tryz.f79.results.toList K E
abbrev d79 (p:List Nat):QD -> Env -> Hp -> Prop:=den Tryz.prog (sel (za3 Tryz.f79) p)
theorem t79:d79 [] (q79 K E) #[x0,x1,U,U,U,U,U,U,U,U,U,U,U] =
 pv (zai x0) λt1=>
 pv (faV 1 t1) λt2=>
 ld false 1 t2 λt3=>
 lkp Tryz.prog 56 t3 x1 false λt4=>
 pv (fdV false 2 1 t4) λt5=>
 cF 122 #[t5] (λt6=>
 K t6) E:=by kernel_rfl
end
section
variable {K:zae} {E:zb2} {k1:Env -> Hp -> Prop} {σ:Type} {x0 x1 x2 x3 x4 x5 x6 x8 x9 x10 x11 x12 x13 x14 x15 x16 x17 x18 x19 x20 x21 x22 x23 x24 x25 x26 x27 x28 x29 x30 x31 x32 x33 x34 x35 x52 x53 x54 x55 x56 x57 x58 v36:Value} {h:Hp} {j:Nat -> Value}
theorem zrm (f36:σ -> Value) (I:σ -> Hp -> Prop) (μ:σ -> Nat) (s0:σ) (e36:v36=f36 s0) (h0:h.wf -> ∃ h',h.wk h'∧I s0 h')
 (round:∀ (k1:Env -> Hp -> Prop) (s:σ) (j:Nat -> Value) (h:Hp),I s h -> h.wf -> (∀ s' j' h',μ s'<μ s -> (h'.wf -> ∃ h'',h'.wk h''∧I s' h'') -> k1 (zds x0 x1 x2 x3 x4 x5 x6 x8 x9 x10 x11 x12 x13 x14 x15 x16 x17 x18 x19 x20 x21 x22 x23 x24 x25 x26 x27 x28 x29 x30 x31 x32 x33 x34 x35 x52 x53 x54 x55 x56 x57 x58 (f36 s') j') h') -> d91 [1,1,1,0,1,0,0] (zzx K E k1) (zds x0 x1 x2 x3 x4 x5 x6 x8 x9 x10 x11 x12 x13 x14 x15 x16 x17 x18 x19 x20 x21 x22 x23 x24 x25 x26 x27 x28 x29 x30 x31 x32 x33 x34 x35 x52 x53 x54 x55 x56 x57 x58 (f36 s) j) h) :
 lp (λk1=>d91 [1,1,1,0,1,0,0] (zzx K E k1)) (zds x0 x1 x2 x3 x4 x5 x6 x8 x9 x10 x11 x12 x13 x14 x15 x16 x17 x18 x19 x20 x21 x22 x23 x24 x25 x26 x27 x28 x29 x30 x31 x32 x33 x34 x35 x52 x53 x54 x55 x56 x57 x58 v36 j) h:=by
 subst e36;exact zaw _ I μ round s0 j h0
end
section
variable (K:zae) (E:zb2) (k1 k2:Env -> Hp -> Prop) (x0 x1 x2 x3 x4 x5 x6 x7 x8 x9 x10 x11 x12 x13 x14 x15 x16 x17 x18 x19 x20 x21 x22 x23 x24 x25 x26 x27 x28 x29 x30 x31 x32 x33 x34 x35 x36 x37 x38 x39 x40 x41 x42 x43 x44 x45 x46 x47 v3 v13 v19:Value) (j:Nat -> Value)
abbrev q42:QD:=za7 Tryz.prog Tryz.f42.results.toList K E
abbrev d42 (p:List Nat):QD -> Env -> Hp -> Prop:=den Tryz.prog (sel (za3 Tryz.f42) p)
theorem t42:d42 [] (q42 K E) #[x0,U,U,U,U,U,U,U,U,U,U,U,U,U,U,U,U,U,U,U,U,U,U,U,U,U,U,U,U,U,U,U,U,U,U,U,U,U,U,U,U,U,U,U,U,U,U,U,U,U,U,U,U,U] =
 nw 49 [(.int .u8 0),(.int .u32 0),(.int .u32 0),(.slice none 0 0),(.slice none 0 0),(.int .i64 0),(.int .i64 0),(.slice none 0 0)] λt1=>
 pv (zac x0) λt2=>
 pv (za1 .none .eql t2 (.int .i64 0)) λt3=>
 cnd t3 (
  pv (bdC #[(.int .u8 0),(.int .u32 0),(.int .u32 0),(.slice none 0 0),(.slice none 0 0),(.int .i64 0),(.int .i64 0),(.slice none 0 0)] [(0,1),(1,1),(2,1),(3,1),(4,1),(5,1),(6,1),(7,1)] #[]) λt4=>
  st 8 t1 t4 λ_=>
  ld true 8 t1 λt5=>
  K (.tuple #[t5,(.int .u16 160)])) (
  pv (slV 1 x0 (some (.int .i64 1)) none none) λt6=>
  cF 95 #[t6] (λt7=>
  pv (exV 0 t7) λt8=>
  pv (exV 1 t7) λt9=>
  nw 77 [(.int .u8 0),(.int .u32 0),(.int .u32 0),(.slice none 0 0),(.slice none 0 0),(.int .u32 0),(.slice none 0 0),(.int .i64 0),(.int .i64 0),(.slice none 0 0)] λt10=>
  st 10 t10 t8 λ_=>
  pv (za1 .none .neq t9 (.int .u16 0)) λt11=>
  cnd t11 (
  pv (bdC #[(.int .u8 0),(.int .u32 0),(.int .u32 0),(.slice none 0 0),(.slice none 0 0),(.int .i64 0),(.int .i64 0),(.slice none 0 0)] [(0,1),(1,1),(2,1),(3,1),(4,1),(5,1),(6,1),(7,1)] #[]) λt12=>
  st 8 t1 t12 λ_=>
  ld true 8 t1 λt13=>
  K (.tuple #[t13,(.int .u16 160)])) (
  pv (iaV none 1 x0 (.int .i64 0)) λt14=>
  ld false 1 t14 λt15=>
  pv (faV 1 t10) λt16=>
  ld false 1 t16 λt17=>
  pv (faV 2 t10) λt18=>
  ld false 1 t18 λt19=>
  pv (faV 3 t10) λt20=>
  ld false 1 t20 λt21=>
  pv (faV 4 t10) λt22=>
  ld false 1 t22 λt23=>
  pv (faV 7 t10) λt24=>
  ld false 1 t24 λt25=>
  pv (faV 8 t10) λt26=>
  ld false 1 t26 λt27=>
  pv (faV 9 t10) λt28=>
  ld false 1 t28 λt29=>
  pv (bdC #[(.int .u8 0),(.int .u32 0),(.int .u32 0),(.slice none 0 0),(.slice none 0 0),(.int .i64 0),(.int .i64 0),(.slice none 0 0)] [(0,1),(1,1),(2,1),(3,1),(4,1),(5,1),(6,1),(7,1)] #[(0,t15),(1,t17),(2,t19),(3,t21),(4,t23),(5,t25),(6,t27),(7,t29)]) λt30=>
  nw 49 [(.int .u8 0),(.int .u32 0),(.int .u32 0),(.slice none 0 0),(.slice none 0 0),(.int .i64 0),(.int .i64 0),(.slice none 0 0)] (λt31 h32=>(ldV h32 false 1 t28 t29)∧(ldV h32 false 1 t26 t27)∧(ldV h32 false 1 t24 t25)∧(ldV h32 false 1 t22 t23)∧(ldV h32 false 1 t20 t21)∧(ldV h32 false 1 t18 t19)∧(ldV h32 false 1 t16 t17)∧(ldV h32 false 1 t14 t15)∧(
   st 8 t31 t30 λ_=>
   ld true 8 t31 λt33=>
   cF 96 #[t33] (λt34=>
   pv (exV 0 t34) λt35=>
   pv (exV 1 t34) λt36=>
   pv (za1 .none .neq t36 (.int .u16 0)) λt37=>
   gdK t37 false (λk=>k t35) λt38=>
   gdK t37 false (λk=>k x0) λt39=>
   gdK t37 false (λk=>cF 97 #[t38,t39] k E) λt40=>
   gdK t37 false (λk=>pv (unV .not t40) k) λt41=>
   pv (zad t37 (.bool true) t41) λt42=>
   cnd t42 (
   pv (bdC #[(.int .u8 0),(.int .u32 0),(.int .u32 0),(.slice none 0 0),(.slice none 0 0),(.int .i64 0),(.int .i64 0),(.slice none 0 0)] [(0,1),(1,1),(2,1),(3,1),(4,1),(5,1),(6,1),(7,1)] #[]) λt43=>
   st 8 t1 t43 λ_=>
   ld true 8 t1 λt44=>
   K (.tuple #[t44,(.int .u16 160)])) (
   ld true 8 t31 λt45=>
   st 8 t1 t45 λ_=>
   ld true 8 t1 λt46=>
   K (.tuple #[t46,(.int .u16 0)]))) E) h32))) E):=by kernel_rfl
abbrev q96:QD:=za7 Tryz.prog Tryz.f96.results.toList K E
abbrev d96 (p:List Nat):QD -> Env -> Hp -> Prop:=den Tryz.prog (sel (za3 Tryz.f96) p)
theorem t96:d96 [] (q96 K E) #[x0,U,U,U,U,U,U,U,U,U,U,U,U,U,U,U,U,U,U,U,U,U,U,U] =
 nw 49 (Value.cells x0).toList λt1=>
 ld true 8 t1 λt2=>
 cF 139 #[t2] (λt3=>
 pv (unV .not t3) λt4=>
 cnd t4 (
  K (.tuple #[(.slice none 0 0),(.int .u16 1)])) (
  ld true 8 t1 λt5=>
  cF 140 #[t5] (λt6=>
  cF 138 #[t6] (λt7=>
  pv (exV 0 t7) λt8=>
  pv (exV 1 t7) λt9=>
  pv (za1 .none .neq t9 (.int .u16 0)) λt10=>
  cnd t10 (
  K (.tuple #[(.slice none 0 0),t9])) (
  pv (faV 0 t1) λt11=>
  ld false 1 t11 λt12=>
  nws 5 1 (bsC #[(.int .u8 0)] 1 1 #[(0,t12)]) λt13=>
  nws 44 2 (bsC #[(.slice none 0 0)] 1 2 #[(0,t13),(1,t8)]) λt14=>
  cF 141 #[t14] (λt15=>
  K (.tuple #[t15,(.int .u16 0)])) E)) E) E)) E:=by kernel_rfl
abbrev zte:QD:=za7 Tryz.prog Tryz.f139.results.toList K E
abbrev zsw (p:List Nat):QD -> Env -> Hp -> Prop:=den Tryz.prog (sel (za3 Tryz.f139) p)
theorem yvb:zsw [] (zte K E) #[x0,U,U,U,U,U,U,U,U,U,U,U,U,U,U,U,U,U,U,U,U,U,U,U,U,U,U,U,U,U,U,U,U,U,U,U,U,U,U] =
 nw 49 (Value.cells x0).toList λt1=>
 pv (faV 0 t1) λt2=>
 ld false 1 t2 λt3=>
 pv (za1 .none .eql t3 (.int .u8 4)) λt4=>
 gdK t4 true (λk=>pv (faV 3 t1) k) λt5=>
 gdK t4 true (λk=>ld false 1 t5 k) λt6=>
 gdK t4 true (λk=>pv (zac t6) k) λt7=>
 gdK t4 true (λk=>pv (za1 .none .gtr t7 (.int .i64 0)) k) λt8=>
 pv (zad t4 t8 (.bool false)) λt9=>
 cnd t9 (
  zsw [1,0,0,1] (blk 0 (za8 (zsw [1,1] (zte K E)) (zte K E))) #[x0,t1,(.bool false),t9,t2,t3,t4,t4,t5,t6,t7,t8,t9,U,U,U,U,U,U,U,U,U,U,U,U,U,U,U,U,U,U,U,U,U,U,U,U,U,U]) (
  pv (faV 0 t1) λt10=>
  ld false 1 t10 λt11=>
  pv (za1 .none .eql t11 (.int .u8 8)) λt12=>
  gdK t12 true (λk=>pv (faV 7 t1) k) λt13=>
  gdK t12 true (λk=>ld false 1 t13 k) λt14=>
  gdK t12 true (λk=>pv (zac t14) k) λt15=>
  gdK t12 true (λk=>pv (za1 .none .gtr t15 (.int .i64 0)) k) λt16=>
  pv (zad t12 t16 (.bool false)) λt17=>
  zsw [1,0,0,1] (blk 0 (za8 (zsw [1,1] (zte K E)) (zte K E))) #[x0,t1,(.bool false),t17,t2,t3,t4,t4,t5,t6,t7,t8,t9,t10,t11,t12,t12,t13,t14,t15,t16,t17,U,U,U,U,U,U,U,U,U,U,U,U,U,U,U,U,U]):=by kernel_rfl
theorem zhg:zsw [1,0,0,1] (blk 0 (za8 (zsw [1,1] (zte K E)) (zte K E))) #[x0,x1,x2,x3,x4,x5,x6,x7,x8,x9,x10,x11,x12,x13,x14,x15,x16,x17,x18,x19,x20,x21,x22,x23,x24,x25,x26,x27,x28,x29,x30,x31,x32,x33,x34,x35,x36,x37,x38] =
 cnd x3 (
  K (.bool false)) (
  pv (faV 0 x1) λt1=>
  ld false 1 t1 λt2=>
  pv (za1 .none .eql t2 (.int .u8 9)) λt3=>
  gdK t3 true (λk=>pv (faV 5 x1) k) λt4=>
  gdK t3 true (λk=>ld false 1 t4 k) λt5=>
  gdK t3 true (λk=>pv (za1 .none .neq t5 (.int .i64 0)) k) λt6=>
  gdK t3 true (λk=>k t6) λt7=>
  gdK t7 false (λk=>pv (faV 6 x1) k) λt8=>
  gdK t7 false (λk=>ld false 1 t8 k) λt9=>
  gdK t7 false (λk=>pv (za1 .none .neq t9 (.int .i64 0)) k) λt10=>
  gdK t3 true (λk=>pv (zad t7 (.bool true) t10) k) λt11=>
  pv (zad t3 t11 (.bool false)) λt12=>
  cnd t12 (
  K (.bool false)) (
  ld true 8 x1 λt13=>
  cF 140 #[t13] (λt14=>
  cF 192 #[t14] (λt15=>
  K t15) E) E)):=by kernel_rfl
abbrev yw8:QD:=za7 Tryz.prog Tryz.f140.results.toList K E
abbrev yx6 (p:List Nat):QD -> Env -> Hp -> Prop:=den Tryz.prog (sel (za3 Tryz.f140) p)
theorem ywv:yx6 [] (yw8 K E) #[x0,U,U,U,U,U,U,U,U,U,U,U,U,U,U,U,U,U,U,U,U] =
 nw 49 (Value.cells x0).toList λt1=>
 nw 77 [(.int .u8 0),(.int .u32 0),(.int .u32 0),(.slice none 0 0),(.slice none 0 0),(.int .u32 0),(.slice none 0 0),(.int .i64 0),(.int .i64 0),(.slice none 0 0)] λt2=>
 pv (faV 0 t1) λt3=>
 ld false 1 t3 λt4=>
 pv (faV 1 t1) λt5=>
 ld false 1 t5 λt6=>
 pv (faV 2 t1) λt7=>
 ld false 1 t7 λt8=>
 pv (faV 3 t1) λt9=>
 ld false 1 t9 λt10=>
 pv (faV 4 t1) λt11=>
 ld false 1 t11 λt12=>
 pv (faV 5 t1) λt13=>
 ld false 1 t13 λt14=>
 pv (faV 6 t1) λt15=>
 ld false 1 t15 λt16=>
 pv (faV 7 t1) λt17=>
 ld false 1 t17 λt18=>
 cF 199 #[t4] (λt19 h20=>(ldV h20 false 1 t17 t18)∧(ldV h20 false 1 t15 t16)∧(ldV h20 false 1 t13 t14)∧(ldV h20 false 1 t11 t12)∧(ldV h20 false 1 t9 t10)∧(ldV h20 false 1 t7 t8)∧(ldV h20 false 1 t5 t6)∧(
  pv (bdC #[(.int .u8 0),(.int .u32 0),(.int .u32 0),(.slice none 0 0),(.slice none 0 0),(.int .u32 0),(.slice none 0 0),(.int .i64 0),(.int .i64 0),(.slice none 0 0)] [(0,1),(1,1),(2,1),(3,1),(4,1),(5,2),(7,1),(8,1),(9,1)] #[(0,t19),(1,t6),(2,t8),(3,t10),(4,t12),(6,t14),(7,t16),(8,t18)]) λt21=>
  st 10 t2 t21 λ_=>
  ld true 10 t2 λt22=>
  K t22) h20) E:=by kernel_rfl
abbrev zfo:QD:=za7 Tryz.prog Tryz.f199.results.toList K E
abbrev zfj (p:List Nat):QD -> Env -> Hp -> Prop:=den Tryz.prog (sel (za3 Tryz.f199) p)
theorem yuc:zfj [] (zfo K E) #[x0,U,U,U,U,U,U,U,U,U,U,U,U,U,U,U,U,U,U] =
 pv (za1 .none .eql x0 (.int .u8 1)) λt1=>
 cnd t1 (
  K (.int .u8 1)) (
  pv (za1 .none .eql x0 (.int .u8 4)) λt2=>
  cnd t2 (
  K (.int .u8 2)) (
  pv (za1 .none .eql x0 (.int .u8 8)) λt3=>
  cnd t3 (
   zfj [1,0,1,0,1,1,1,1,1] (blk 0 (za8 (zfj [1,1] (zfo K E)) (zfo K E))) #[x0,U,(.int .u8 0),x0,t1,t1,t2,t2,t3,t3,U,U,U,U,U,U,U,U,U]) (
   pv (za1 .none .eql x0 (.int .u8 9)) λt4=>
   cnd t4 (
   zfj [1,0,1,0,1,1,1,1,1] (blk 0 (za8 (zfj [1,1] (zfo K E)) (zfo K E))) #[x0,U,(.int .u8 0),x0,t1,t1,t2,t2,t4,t3,t4,U,U,U,U,U,U,U,U]) (
   pv (za1 .none .eql x0 (.int .u8 10)) λt5=>
   zfj [1,0,1,0,1,1,1,1,1] (blk 0 (za8 (zfj [1,1] (zfo K E)) (zfo K E))) #[x0,U,(.int .u8 0),x0,t1,t1,t2,t2,t5,t3,t4,t5,U,U,U,U,U,U,U])))):=by kernel_rfl
theorem zed:zfj [1,0,1,0,1,1,1,1,1] (blk 0 (za8 (zfj [1,1] (zfo K E)) (zfo K E))) #[x0,x1,x2,x3,x4,x5,x6,x7,x8,x9,x10,x11,x12,x13,x14,x15,x16,x17,x18] =
 cnd x8 (
  K (.int .u8 7)) (
  pv (za1 .none .eql x3 (.int .u8 2)) λt1=>
  cnd t1 (
  zfj [1,0,1,0,1,1,1,1,1,1,1] (blk 0 (za8 (zfj [1,1] (zfo K E)) (zfo K E))) #[x0,x1,x2,x3,x4,x5,x6,x7,x8,x9,x10,x11,t1,t1,x14,x15,x16,x17,x18]) (
  pv (za1 .none .eql x3 (.int .u8 3)) λt2=>
  cnd t2 (
   zfj [1,0,1,0,1,1,1,1,1,1,1] (blk 0 (za8 (zfj [1,1] (zfo K E)) (zfo K E))) #[x0,x1,x2,x3,x4,x5,x6,x7,x8,x9,x10,x11,t2,t1,t2,x15,x16,x17,x18]) (
   pv (za1 .none .eql x3 (.int .u8 5)) λt3=>
   cnd t3 (
   zfj [1,0,1,0,1,1,1,1,1,1,1] (blk 0 (za8 (zfj [1,1] (zfo K E)) (zfo K E))) #[x0,x1,x2,x3,x4,x5,x6,x7,x8,x9,x10,x11,t3,t1,t2,t3,x16,x17,x18]) (
   pv (za1 .none .eql x3 (.int .u8 6)) λt4=>
   cnd t4 (
    zfj [1,0,1,0,1,1,1,1,1,1,1] (blk 0 (za8 (zfj [1,1] (zfo K E)) (zfo K E))) #[x0,x1,x2,x3,x4,x5,x6,x7,x8,x9,x10,x11,t4,t1,t2,t3,t4,x17,x18]) (
    pv (za1 .none .eql x3 (.int .u8 7)) λt5=>
    cnd t5 (
    zfj [1,0,1,0,1,1,1,1,1,1,1] (blk 0 (za8 (zfj [1,1] (zfo K E)) (zfo K E))) #[x0,x1,x2,x3,x4,x5,x6,x7,x8,x9,x10,x11,t5,t1,t2,t3,t4,t5,x18]) (
    pv (za1 .none .eql x3 (.int .u8 11)) λt6=>
    zfj [1,0,1,0,1,1,1,1,1,1,1] (blk 0 (za8 (zfj [1,1] (zfo K E)) (zfo K E))) #[x0,x1,x2,x3,x4,x5,x6,x7,x8,x9,x10,x11,t6,t1,t2,t3,t4,t5,t6])))))):=by kernel_rfl
theorem zbx:zfj [1,0,1,0,1,1,1,1,1,1,1] (blk 0 (za8 (zfj [1,1] (zfo K E)) (zfo K E))) #[x0,x1,x2,x3,x4,x5,x6,x7,x8,x9,x10,x11,x12,x13,x14,x15,x16,x17,x18] =
 cnd x12 (
  K (.int .u8 4)) (
  K (.int .u8 0)):=by kernel_rfl
abbrev yum:QD:=za7 Tryz.prog Tryz.f131.results.toList K E
abbrev ytn (p:List Nat):QD -> Env -> Hp -> Prop:=den Tryz.prog (sel (za3 Tryz.f131) p)
theorem ywl:ytn [] (yum K E) #[x0,U,U,U,U,U,U,U,U,U,U,U,U,U,U,U,U,U,U,U,U] =
 pv (zac x0) λt1=>
 pv (za1 .none .gtr t1 (.int .i64 60000)) λt2=>
 cnd t2 (
  K (.tuple #[(.slice none 0 0),(.int .u16 3)])) (
  pv (zac x0) λt3=>
  pv (cvV .u32 t3) λt4=>
  cF 184 #[t4,(.int .i64 3)] (λt5=>
  nws 44 2 (bsC #[(.slice none 0 0)] 1 2 #[(0,t5),(1,x0)]) λt6=>
  cF 185 #[t6] (λt7=>
  cF 184 #[t7,(.int .i64 4)] (λt8=>
  nws 44 3 (bsC #[(.slice none 0 0)] 1 3 #[(0,t5),(1,x0),(2,t8)]) λt9=>
  cF 141 #[t9] (λt10=>
  K (.tuple #[t10,(.int .u16 0)])) E) E) E) E):=by kernel_rfl
abbrev ytt:QD:=za7 Tryz.prog Tryz.f183.results.toList K E
abbrev yyc (p:List Nat):QD -> Env -> Hp -> Prop:=den Tryz.prog (sel (za3 Tryz.f183) p)
theorem yvq:yyc [] (ytt K E) #[x0,U,U,U] =
 nw 44 (Value.cells x0).toList λt1=>
 K (.func (.func 244) #[] #[t1]):=by kernel_rfl
abbrev ywk:QD:=za7 Tryz.prog Tryz.f184.results.toList K E
abbrev ytx (p:List Nat):QD -> Env -> Hp -> Prop:=den Tryz.prog (sel (za3 Tryz.f184) p)
theorem ywi:ytx [] (ywk K E) #[x0,x1,U,U,U,U,U,U,U,U,U,U,U,U,U,U,U,U,U,U,U,U] =
 pv (za1 .none .shr x0 (.int .u64 24)) λt1=>
 pv (cvV .u8 t1) λt2=>
 pv (za1 .none .shr x0 (.int .u64 16)) λt3=>
 pv (cvV .u8 t3) λt4=>
 pv (za1 .none .shr x0 (.int .u64 8)) λt5=>
 pv (cvV .u8 t5) λt6=>
 pv (cvV .u8 x0) λt7=>
 pv (bsA #[(.int .u8 0),(.int .u8 0),(.int .u8 0),(.int .u8 0)] 1 #[(0,t2),(1,t4),(2,t6),(3,t7)]) λt8=>
 nw 335 [(.int .u8 0),(.int .u8 0),(.int .u8 0),(.int .u8 0)] λt9=>
 st 4 t9 t8 λ_=>
 pv (za1 .none .sub (.int .i64 4) x1) λt10=>
 pv (slV 1 (yfd 4 t9) (some t10) none none) λt11=>
 cF 245 #[t11] (λt12=>
 K t12) E:=by kernel_rfl
abbrev zsj:QD:=za7 Tryz.prog Tryz.f185.results.toList K E
abbrev zk0 (p:List Nat):QD -> Env -> Hp -> Prop:=den Tryz.prog (sel (za3 Tryz.f185) p)
abbrev zu2:=za8 k2 (blk 2 (blk 1 (za8 (zk0 [1,1,1,0,1,0,0,1,1,1] (za8 k1 (blk 0 (za8 (zk0 [1,1,1,1] (zsj K E)) (zsj K E))))) (za8 k1 (blk 0 (za8 (zk0 [1,1,1,1] (zsj K E)) (zsj K E)))))))
abbrev zur:=za8 k1 (blk 0 (za8 (zk0 [1,1,1,1] (zsj K E)) (zsj K E)))
def zda (j:Nat -> Value):Env:=#[x0,x1,x2,x3,x4,x5,(j 6),x7,(j 8),x9,x10,x11,x12,v13,(j 14),(j 15),(j 16),(j 17),(j 18),(j 19),(j 20),(j 21),(j 22),(j 23),(j 24),(j 25),(j 26),(j 27),x28,x29,x30,x31,x32,x33]
def zbl (j:Nat -> Value):Env:=#[x0,x1,x2,x3,x4,x5,x6,x7,(j 8),x9,x10,x11,x12,x13,x14,x15,x16,x17,x18,v19,(j 20),(j 21),(j 22),(j 23),(j 24),(j 25),(j 26),x27,x28,x29,x30,x31,x32,x33]
theorem yxh:zk0 [] (zsj K E) #[x0,U,U,U,U,U,U,U,U,U,U,U,U,U,U,U,U,U,U,U,U,U,U,U,U,U,U,U,U,U,U,U,U,U] =
 pv (bdC #[(.int .u32 0),(.int .u32 0)] [(0,1),(1,1)] #[(0,(.int .u32 1))]) λt1=>
 nw 337 [(.int .u32 0),(.int .u32 0)] λt2=>
 st 2 t2 t1 λ_=>
 pv (zac x0) λt3=>
 lp (λk1=>zk0 [1,1,1,0,1,0,0] (zur K E k1)) (zda x0 U (.int .u32 0) t2 (.func (.func 246) #[t2] #[]) U U t1 (.func (.func 246) #[t2] #[]) x0 t3 U U U U U U (.int .i64 0) (jf #[])):=by kernel_rfl
theorem zpz:zk0 [1,1,1,0,1,0,0] (zur K E k1) (zda x0 x1 x2 x3 x4 x5 x7 x9 x10 x11 x12 x28 x29 x30 x31 x32 x33 v13 j) =
 pv (za1 .none .lss v13 x12) λt1=>
 cnd t1 (
  pv (iaV none 1 x11 v13) λt2=>
  ld false 1 t2 λt3=>
  pv (zac t3) λt4=>
  lp (λk2=>zk0 [1,1,1,0,1,0,0,1,1,0,0,1,1,0,0] (zu2 K E k1 k2)) (zbl x0 x1 x2 x3 x4 x5 t3 x7 x9 x10 x11 x12 v13 t1 t2 t3 t3 t4 (j 27) x28 x29 x30 x31 x32 x33 (.int .i64 0) (jf #[U,U,U,U,U,U,U,U,(j 8),U,U,U,U,U,U,U,U,U,U,U,(j 20),(j 21),(j 22),(j 23),(j 24),(j 25),(j 26)]))) (
  pv (faV 1 x3) λt5=>
  ld false 1 t5 λt6=>
  pv (za1 .none .shl t6 (.int .u64 16)) λt7=>
  pv (faV 0 x3) λt8=>
  ld false 1 t8 λt9=>
  pv (za1 .none .or t7 t9) λt10=>
  K t10):=by kernel_rfl
theorem zhx:zk0 [1,1,1,0,1,0,0,1,1,0,0,1,1,0,0] (zu2 K E k1 k2) (zbl x0 x1 x2 x3 x4 x5 x6 x7 x9 x10 x11 x12 x13 x14 x15 x16 x17 x18 x27 x28 x29 x30 x31 x32 x33 v19 j) =
 pv (za1 .none .lss v19 x18) λt1=>
 cnd t1 (
  pv (iaV none 1 x17 v19) λt2=>
  ld false 1 t2 λt3=>
  zbq Tryz.prog x4 #[t3] (λt4=>
  pv (za1 .none .add v19 (.int .i64 1)) λt5=>
  k2 (zbl x0 x1 x2 x3 x4 x5 x6 x7 x9 x10 x11 x12 x13 x14 x15 x16 x17 x18 x27 x28 x29 x30 x31 x32 x33 t5 (jf #[U,U,U,U,U,U,U,U,t3,U,U,U,U,U,U,U,U,U,U,U,t1,t2,t3,x4,t3,t4,t5]))) E) (
  pv (za1 .none .add x13 (.int .i64 1)) λt6=>
  k1 (zda x0 x1 x2 x3 x4 x5 x7 x9 x10 x11 x12 x28 x29 x30 x31 x32 x33 t6 (jf #[U,U,U,U,U,U,x6,U,(j 8),U,U,U,U,U,x14,x15,x16,x17,x18,v19,t1,(j 21),(j 22),(j 23),(j 24),(j 25),(j 26),t6]))):=by kernel_rfl
abbrev yaf:QD:=za7 Tryz.prog Tryz.f244.results.toList K E
abbrev ycm (p:List Nat):QD -> Env -> Hp -> Prop:=den Tryz.prog (sel (za3 Tryz.f244) p)
def zfy (j:Nat -> Value):Env:=#[x0,x1,x2,v3,(j 4),(j 5),(j 6),(j 7),(j 8),(j 9),(j 10),(j 11),(j 12),(j 13),(j 14),(j 15),(j 16),(j 17),(j 18),(j 19),(j 20),(j 21),(j 22),(j 23),(j 24),(j 25),(j 26),(j 27),(j 28),(j 29),(j 30),(j 31),(j 32),(j 33),(j 34),(j 35),(j 36),(j 37),(j 38),(j 39),(j 40),(j 41),(j 42),(j 43),(j 44),(j 45),(j 46),(j 47),(j 48),(j 49),(j 50),(j 51),(j 52),(j 53),(j 54),(j 55),(j 56),(j 57),(j 58),(j 59),(j 60),(j 61),(j 62),(j 63),(j 64),(j 65)]
theorem qa8:ycm [] (yaf K E) #[x0,x1,U,U,U,U,U,U,U,U,U,U,U,U,U,U,U,U,U,U,U,U,U,U,U,U,U,U,U,U,U,U,U,U,U,U,U,U,U,U,U,U,U,U,U,U,U,U,U,U,U,U,U,U,U,U,U,U,U,U,U,U,U,U,U,U] =
 lp (λk1=>ycm [1,0,0] (za8 k1 (blk 0 (yaf K E)))) (zfy x0 x1 U (.int .i64 0) (jf #[])):=by kernel_rfl
theorem ysu:ycm [1,0,0] (za8 k1 (blk 0 (yaf K E))) (zfy x0 x1 x2 v3 j) =
 ld false 1 x1 λt1=>
 pv (zac t1) λt2=>
 pv (za1 .none .sub t2 v3) λt3=>
 pv (za1 .none .geq t3 (.int .i64 7)) λt4=>
 cnd t4 (
  ld false 1 x1 λt5=>
  pv (slV 1 t5 (some v3) none none) λt6=>
  pv (iaV none 1 t6 (.int .i64 0)) λt7=>
  ld false 1 t7 λt8=>
  pv (cvV .i64 t8) λt9=>
  pv (za1 .none .shl t9 (.int .u64 16)) λt10=>
  pv (iaV none 1 t6 (.int .i64 1)) λt11=>
  ld false 1 t11 λt12=>
  pv (cvV .i64 t12) λt13=>
  pv (za1 .none .shl t13 (.int .u64 8)) λt14=>
  pv (za1 .none .or t10 t14) λt15=>
  pv (iaV none 1 t6 (.int .i64 2)) λt16=>
  ld false 1 t16 λt17=>
  pv (cvV .i64 t17) λt18=>
  pv (za1 .none .or t15 t18) λt19=>
  pv (zac t6) λt20=>
  pv (za1 .none .sub t20 (.int .i64 3)) λt21=>
  pv (za1 .none .sub t21 (.int .i64 4)) λt22=>
  pv (mm false (.int .i64 60000) t22) λt23=>
  pv (za1 .none .gtr t19 t23) λt24=>
  cnd t24 (
  K (.tuple #[])) (
  pv (za1 .none .add (.int .i64 3) t19) λt25=>
  pv (slV 1 t6 none (some t25) (some t25)) λt26=>
  pv (za1 .none .add t25 (.int .i64 4)) λt27=>
  pv (slV 1 t6 (some t25) (some t27) none) λt28=>
  nws 44 1 (bsC #[(.slice none 0 0)] 1 1 #[(0,t26)]) λt29=>
  cF 185 #[t29] (λt30=>
  cF 184 #[t30,(.int .i64 4)] (λt31=>
  cF 97 #[t31,t28] (λt32=>
  pv (unV .not t32) λt33=>
  cnd t33 (
   K (.tuple #[])) (
   pv (za1 .none .add t25 (.int .i64 4)) λt34=>
   pv (za1 .none .add v3 t34) λt35=>
   pv (slV 1 t6 (some (.int .i64 3)) (some t25) none) λt36=>
   cF 84 #[t36] (λt37=>
   zbq Tryz.prog x0 #[t35,t37] (λt38=>
   pv (unV .not t38) λt39=>
   cnd t39 (
   K (.tuple #[])) (
   k1 (zfy x0 x1 x2 t35 (jf #[U,U,U,U,t6,t19,t25,t1,t2,v3,t3,t4,t5,v3,t6,t6,t7,t8,t9,t10,t6,t11,t12,t13,t14,t15,t6,t16,t17,t18,t19,t19,t6,t20,t21,t22,t23,t24,t19,t25,t6,t25,t25,t26,t29,t30,t31,t6,t25,t25,t27,t28,t32,t33,v3,t25,t34,t35,x0,t35,t6,t25,t36,t37,t38,t39])))) E) E)) E) E) E)) (
  K (.tuple #[])):=by kernel_rfl
abbrev yfn:QD:=za7 Tryz.prog Tryz.f246.results.toList K E
abbrev yfv (p:List Nat):QD -> Env -> Hp -> Prop:=den Tryz.prog (sel (za3 Tryz.f246) p)
theorem yvx:yfv [] (yfn K E) #[x0,x1,U,U,U,U,U,U,U,U,U,U,U,U,U,U,U,U,U,U,U,U,U,U,U,U,U,U,U,U,U,U,U,U,U,U,U,U,U,U,U,U,U,U,U,U,U,U] =
 pv (zai x0) λt1=>
 pv (faV 0 t1) λt2=>
 ld false 1 t2 λt3=>
 pv (cvV .u32 x1) λt4=>
 pv (za1 .none .add t3 t4) λt5=>
 pv (zai x0) λt6=>
 pv (faV 0 t6) λt7=>
 st 1 t7 t5 λ_=>
 pv (zai x0) λt8=>
 pv (faV 0 t8) λt9=>
 ld false 1 t9 λt10=>
 pv (za1 .none .geq t10 (.int .u32 65521)) λt11=>
 cnd t11 (
  pv (zai x0) λt12=>
  pv (faV 0 t12) λt13=>
  ld false 1 t13 λt14=>
  pv (za1 .none .sub t14 (.int .u32 65521)) λt15=>
  pv (zai x0) λt16=>
  pv (faV 0 t16) λt17=>
  st 1 t17 t15 λ_=>
  yfv [1] (yfn K E) #[x0,x1,U,U,x0,t1,t2,t3,x1,t4,t5,t6,t7,x0,t8,t9,t10,t11,x0,t12,t13,t14,t15,t16,t17,U,U,U,U,U,U,U,U,U,U,U,U,U,U,U,U,U,U,U,U,U,U,U]) (
  yfv [1] (yfn K E) #[x0,x1,U,U,x0,t1,t2,t3,x1,t4,t5,t6,t7,x0,t8,t9,t10,t11,U,U,U,U,U,U,U,U,U,U,U,U,U,U,U,U,U,U,U,U,U,U,U,U,U,U,U,U,U,U]):=by kernel_rfl
theorem ygo:yfv [1] (yfn K E) #[x0,x1,x2,x3,x4,x5,x6,x7,x8,x9,x10,x11,x12,x13,x14,x15,x16,x17,x18,x19,x20,x21,x22,x23,x24,x25,x26,x27,x28,x29,x30,x31,x32,x33,x34,x35,x36,x37,x38,x39,x40,x41,x42,x43,x44,x45,x46,x47] =
 pv (zai x0) λt1=>
 pv (faV 1 t1) λt2=>
 ld false 1 t2 λt3=>
 pv (zai x0) λt4=>
 pv (faV 0 t4) λt5=>
 ld false 1 t5 λt6=>
 pv (za1 .none .add t3 t6) λt7=>
 pv (zai x0) λt8=>
 pv (faV 1 t8) λt9=>
 st 1 t9 t7 λ_=>
 pv (zai x0) λt10=>
 pv (faV 1 t10) λt11=>
 ld false 1 t11 λt12=>
 pv (za1 .none .geq t12 (.int .u32 65521)) λt13=>
 cnd t13 (
  pv (zai x0) λt14=>
  pv (faV 1 t14) λt15=>
  ld false 1 t15 λt16=>
  pv (za1 .none .sub t16 (.int .u32 65521)) λt17=>
  pv (zai x0) λt18=>
  pv (faV 1 t18) λt19=>
  st 1 t19 t17 λ_=>
  K (.tuple #[])) (
  K (.tuple #[])):=by kernel_rfl
end
section
variable {K:zae} {E:zb2} {k1 k2:Env -> Hp -> Prop} {σ:Type} {x0 x1 x2 x3 x4 x5 x6 x7 x9 x10 x11 x12 x13 x14 x15 x16 x17 x18 x27 x28 x29 x30 x31 x32 x33 v3 v13 v19:Value} {h:Hp} {j:Nat -> Value}
theorem zpg (f13:σ -> Value) (I:σ -> Hp -> Prop) (μ:σ -> Nat) (s0:σ) (e13:v13=f13 s0) (h0:h.wf -> ∃ h',h.wk h'∧I s0 h')
 (round:∀ (k1:Env -> Hp -> Prop) (s:σ) (j:Nat -> Value) (h:Hp),I s h -> h.wf -> (∀ s' j' h',μ s'<μ s -> (h'.wf -> ∃ h'',h'.wk h''∧I s' h'') -> k1 (zda x0 x1 x2 x3 x4 x5 x7 x9 x10 x11 x12 x28 x29 x30 x31 x32 x33 (f13 s') j') h') -> zk0 [1,1,1,0,1,0,0] (zur K E k1) (zda x0 x1 x2 x3 x4 x5 x7 x9 x10 x11 x12 x28 x29 x30 x31 x32 x33 (f13 s) j) h) :
 lp (λk1=>zk0 [1,1,1,0,1,0,0] (zur K E k1)) (zda x0 x1 x2 x3 x4 x5 x7 x9 x10 x11 x12 x28 x29 x30 x31 x32 x33 v13 j) h:=by
 subst e13;exact zaw _ I μ round s0 j h0
theorem zhw (f19:σ -> Value) (I:σ -> Hp -> Prop) (μ:σ -> Nat) (s0:σ) (e19:v19=f19 s0) (h0:h.wf -> ∃ h',h.wk h'∧I s0 h')
 (round:∀ (k2:Env -> Hp -> Prop) (s:σ) (j:Nat -> Value) (h:Hp),I s h -> h.wf -> (∀ s' j' h',μ s'<μ s -> (h'.wf -> ∃ h'',h'.wk h''∧I s' h'') -> k2 (zbl x0 x1 x2 x3 x4 x5 x6 x7 x9 x10 x11 x12 x13 x14 x15 x16 x17 x18 x27 x28 x29 x30 x31 x32 x33 (f19 s') j') h') -> zk0 [1,1,1,0,1,0,0,1,1,0,0,1,1,0,0] (zu2 K E k1 k2) (zbl x0 x1 x2 x3 x4 x5 x6 x7 x9 x10 x11 x12 x13 x14 x15 x16 x17 x18 x27 x28 x29 x30 x31 x32 x33 (f19 s) j) h) :
 lp (λk2=>zk0 [1,1,1,0,1,0,0,1,1,0,0,1,1,0,0] (zu2 K E k1 k2)) (zbl x0 x1 x2 x3 x4 x5 x6 x7 x9 x10 x11 x12 x13 x14 x15 x16 x17 x18 x27 x28 x29 x30 x31 x32 x33 v19 j) h:=by
 subst e19;exact zaw _ I μ round s0 j h0
theorem yt1 (f3:σ -> Value) (I:σ -> Hp -> Prop) (μ:σ -> Nat) (s0:σ) (e3:v3=f3 s0) (h0:h.wf -> ∃ h',h.wk h'∧I s0 h')
 (round:∀ (k1:Env -> Hp -> Prop) (s:σ) (j:Nat -> Value) (h:Hp),I s h -> h.wf -> (∀ s' j' h',μ s'<μ s -> (h'.wf -> ∃ h'',h'.wk h''∧I s' h'') -> k1 (zfy x0 x1 x2 (f3 s') j') h') -> ycm [1,0,0] (za8 k1 (blk 0 (yaf K E))) (zfy x0 x1 x2 (f3 s) j) h) :
 lp (λk1=>ycm [1,0,0] (za8 k1 (blk 0 (yaf K E)))) (zfy x0 x1 x2 v3 j) h:=by
 subst e3;exact zaw _ I μ round s0 j h0
end
end Go.Proofs.YtlhlhpgjnjjhnaaGreatDoor.T
